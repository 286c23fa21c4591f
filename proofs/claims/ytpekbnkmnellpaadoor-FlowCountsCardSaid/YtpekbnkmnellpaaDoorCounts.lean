/-
  The walk of FlowCounts.
-/
import Derived.Test.YtpekbnkmnellpaaDoorCountsQ
import Derived.Deep.DeepCutAuto
namespace Go.Proofs.YtpekbnkmnellpaaDoor
open Go.RowKit Go.Maps
set_option linter.unusedVariables false

def CountsRel (o : Bool) (w : World) (B : FB) (c : Nat) (v7 v8 v9 : Value) (wr : World) : Prop :=
  ∃ (j : Nat) (ps : List Pk) (gn : List Bool) (m : Nat), j ≤ 60 ∧ c = 60 - j ∧ v9 = .int .i64 j ∧ ps.length ≤ j ∧ m ≤ j ∧ CInv ps gn ∧ CI w B o v7 v8 ps gn m wr
set_option maxRecDepth 100000 in
set_option maxHeartbeats 1000000 in
theorem counts_walk (w : World) (G : Glob w) (o : Bool) (V : Value) (acts : List ActR) (A1 : ActsAt w V acts) :
    Calls Tryd.prog 5 #[.bool o, V] w fun e w' => e = .returned (.bool true) ∧ Below w.heap.size w w' := by
  obtain ⟨v1, c1, rfl, m1, hc1⟩ := A1
  have HC := Lib.hid hc1
  have HG := Lib.hid G
  have h2w := G.two
  clear G hc1
  go_enter Tryd.func5, Tryd.ntmps5
  go_wp2_with fail
  refine (awake_ok w HG.out).mono ?_
  rintro e w1 ⟨rfl, hb1⟩
  have HL1 := Lib.hid hb1
  have HG1 := Lib.hid (HG.out.below hb1 HG.out.two)
  clear hb1 HG
  go_wp2_with fail
  refine (newflow_is o w1).mono ?_
  rintro e w2 ⟨rfl, hf2, hb2, hs2⟩
  have HT : Hid (CountsRel o w ⟨w1.heap.size + 3, w1.heap.size, w1.heap.size + 1, w1.heap.size + 2⟩ 60 (.slice none 0 0) (.slice none 0 0) (.int .i64 0) w2) :=
    Lib.hid ⟨0, [], [], 0, by omega, rfl, rfl, by simp, by omega, ⟨rfl, fun i h => by simp at h, fun p h => by simp at h, by simp⟩,
      by rw [cs_new]; exact hf2, World.ownsRow_nil _ _ _ _, World.ownsRow_nil _ _ _ _, bstep HL1.out hb2, HG1.out.below hb2 HG1.out.two, fun x hx => by have := HL1.out.size; simp [FB.l] at hx; omega, h2w⟩
  go_wp2_with fail
  clear hf2 hb2 hs2 HL1 HG1
  generalize w1.heap.size = N at HT ⊢
  go_loopg [7, 8, 9] 60 (fun c v7 v8 v9 wr => CountsRel o w ⟨N + 3, N, N + 1, N + 2⟩ c v7 v8 v9 wr)
  case atStart => exact HT.out
  case round =>
    clear HT
    obtain ⟨j, ps, gn, m, hj, hk, rfl, hpl, hmj, hI, hCI⟩ := hrel
    have HK := Lib.hid hk
    have HI := Lib.hid hI
    clear hk hI
    obtain ⟨ao1, cp1, rfl, hf1⟩ := hCI.rowp.at_
    obtain ⟨ao2, cp2, rfl, hf2⟩ := hCI.rowb.at_
    have HF1 := Lib.hid hf1
    have HF2 := Lib.hid hf2
    have HCI := Lib.hid hCI
    clear hf1 hf2 hCI
    have HGn := Lib.hid HI.out.len
    by_cases hlt : j < acts.length ∧ j < 60
    · obtain ⟨hj1, hj3⟩ := hlt
      obtain ⟨b, off, rfl, hb, k0, k1, k2, k3, hok⟩ := HC.out j hj1
      have hw0 := HCI.out.bel
      have d0 := (hw0.cell (p := ⟨b, off + j * 4, none⟩) hb).trans k0
      have d1 := (hw0.cell (p := ⟨b, off + j * 4 + 1, none⟩) hb).trans k1
      have d2 := (hw0.cell (p := ⟨b, off + j * 4 + 2, none⟩) hb).trans k2
      have d3 := (hw0.cell (p := ⟨b, off + j * 4 + 3, none⟩) hb).trans k3
      clear k0 k1 k2 k3 hw0
      generalize acts[j] = x at d0 d1 d2 d3 hok
      obtain ⟨what, which, later, dt⟩ := x
      have ow : i64r what := hok.what
      have oh : i64r which := hok.which
      have ol : i64r later := hok.later
      have od : dt.size ≤ 140737488351232 := hok.data
      simp only at d0 d1 d2 d3
      clear hok
      go_upto_region 11 with fail
      clear d0 d1 d2 d3
      have HX := Lib.hid (Blk.new wr 48 (actC what which later dt))
      have HCI3 := Lib.hid (HCI.out.below (balloc (Below.refl _ wr) (.cells (actC what which later dt) 48)))
      have HF13 : Hid (0 < ps.length → ∃ g cur, ao1 = some ⟨g, 0, none⟩ ∧ (Value.slice ao1 ps.length cp1).ownBlock = some g ∧ Blk wr g 24 cur) := Lib.hid (fun h => by obtain ⟨g, cur, e1, e2, e3, _⟩ := HF1.out h; exact ⟨g, cur, e1, e2, e3⟩)
      clear HCI HF1 HF2 HF13
      change Code.wp _ _ _ _ (wr.alloc (.cells (actC what which later dt) 48))
      generalize wr.alloc (.cells (actC what which later dt) 48) = w3 at HX HCI3 ⊢
      generalize wr.heap.size = X at HX ⊢
      have x0 : w3.cell? ⟨X, 0, none⟩ = some (.int .i64 what) := HX.out.cell 0
      go_cut [52] (fun v wx => ∃ b, v = .bool b ∧ (b = false → 0 < ps.length) ∧ w3 = wx)
      case first =>
        -- <
        by_cases h0 : ps.length = 0
        · have t0 : ((ps.length : Int) == 0) = true := by simp [h0]
          clear h0
          go_wp2_with fail
          go_meet
          case rel => exact ⟨true, rfl, fun h => (by cases h), rfl⟩
        · have t0 : ((ps.length : Int) == 0) = false := by rw [beq_eq_false_iff_ne]; omega
          have h0' : 0 < ps.length := by omega
          clear h0
          go_wp2_with fail
          refine (pick_is what 3 w3 ow.1 ow.2 (by omega) (by omega)).mono ?_
          rintro e w3' ⟨rfl, rfl⟩
          go_wp2_with fail
          go_meet
          case rel => exact ⟨_, rfl, fun _ => h0', rfl⟩
        -- >
      case rest =>
        obtain ⟨b, rfl, hb0, rfl⟩ := hcut
        clear x0
        cases b with
        | true =>
          -- <
          clear hb0
          go_upto_region 12 with fail
          have HSt := Lib.hid HCI3.out.static
          have HXB : Hid (X ∉ (FB.mk (N + 3) N (N + 1) (N + 2)).l ∧ X < w3.heap.size) := Lib.hid ⟨HCI3.out.flow.apart HX.out (by decide), HX.out.lt⟩
          have HSy : Hid (Stays ⟨N + 3, N, N + 1, N + 2⟩ w3.heap.size (CE w.heap.size (.slice ao1 ps.length cp1) (.slice ao2 gn.length cp2) ps gn X what which later dt)) := Lib.hid (ce_stays HSt.out.1 HSt.out.2.1 HXB.out)
          have hN0 : w.heap.size ≤ w3.heap.size := HCI3.out.bel.size
          have hp4 := pickI_r which 4 (by omega)
          have hp9 := pickI_r later 9 (by omega)
          have HPs := Lib.hid (And.intro hp4 hp9)
          refine wp_abs fun a0 hA => ?_
          have h6 : a0.eval (.tmp 6) = .pointer (some ⟨N + 3, 0, none⟩) := by rw [hA]; rfl
          have h10 : a0.eval (.tmp 10) = .pointer (some ⟨X, 0, none⟩) := by rw [hA]; rfl
          have hz : a0.tmps.size = 189 := by rw [hA]; rfl
          refine wp_region_J [some 54, some 55, some 56, some 57, some 58, some 59, some 60, some 61, some 62, some 63, some 64, some 65, some 53, some 66, some 67, some 11, none, some 12] 189 (cntJ w w3.heap.size ⟨N + 3, N, N + 1, N + 2⟩ m o ps gn (.slice ao1 ps.length cp1) (.slice ao2 gn.length cp2) X what which later dt (pickI which 4) (pickI later 9)) (by kernel_rfl) (by kernel_rfl) (by kernel_rfl) rfl (by kernel_rfl) hz (fun u => ⟨fun i h => (by cases h), fun _ => HCI3.out.flow.drew, fun h => (by cases h), HCI3.out.bel.drew, ⟨HCI3.out.glob.k, HCI3.out.glob.first⟩, Nat.le_refl _, ⟨HCI3.out.rowp, HCI3.out.rowb, HX.out⟩, fun h => (by cases h), fun h => (by cases h)⟩) ?_ ⟨?_, ?_, ?_, ?_, ?_, ?_, ?_, ?_, ?_, ?_, ?_, ?_, ?_, ?_, ?_, ?_, ?_, ?_, trivial⟩
          · intro d u W hd hJ
            have e17 : u 17 = .int .i64 (sendCode dt) := hJ.vals 17 (hd 17 (by decide)) (by decide)
            obtain ⟨g, e15, hgN, hgB⟩ := hJ.al (hd 15 (by decide))
            rw [hd 16 (by decide)] at hgB
            have HP := Lib.hid hgB
            have HFl := Lib.hid (hJ.f1 (hd 11 (by decide)))
            have HE := Lib.hid hJ.e
            have HBl := Lib.hid hJ.bel
            have HGl := Lib.hid hJ.glob
            have xd : W.cell? ⟨X, 3, none⟩ = some (.string dt) := hJ.e.x.cell 3
            rw [hA]
            simp only [putAll, Act.put, List.setIfInBounds_toArray, List.set_cons_zero, List.set_cons_succ]
            rw [e15, e17]
            have HBg := Lib.hid HCI3.out.bge
            clear hJ hd h6 h10 hz hA e15 e17 HSy HCI3 HX HXB hgB
            clear a0
            by_cases h4 : 400 < dt.size
            · obtain ⟨l1, l2, l3⟩ := cs_long o ps gn (pickI which 4) 2 (pickI later 9) dt h4
              rw [l1] at HFl
              rw [l3]
              have HR : Hid (CountsRel o w ⟨N + 3, N, N + 1, N + 2⟩ (60 - (j + 1)) (.slice ao1 ps.length cp1) (.slice ao2 gn.length cp2) (.int .i64 ((j : Int) + 1)) W) := Lib.hid ⟨j + 1, ps, gn, m + 1, by omega, rfl, by go_num, by omega, by omega, HI.out, HFl.out, HE.out.rowp, HE.out.rowb, HBl.out, HGl.out, HBg.out, h2w⟩
              clear l1 l2 l3 hp4 hp9
              go_wp2_with fail
              go_roundg (60 - (j + 1))
              case measure => rw [HK.out]; omega
              case rel => exact HR.out
            · obtain ⟨l2, l3, l1, l4⟩ := cs_send o ps gn (pickI which 4) 2 (pickI later 9) dt HI.out h4 ⟨hp4.1, by omega⟩ ⟨by omega, by omega⟩ ⟨hp9.1, by omega⟩
              rw [l1] at HFl
              rw [l2] at HP
              rw [l3]
              have HI2 := Lib.hid (l4 (by omega))
              clear l1 l2 l3 l4 hp4 hp9
              generalize pickI which 4 = a4 at HFl HP HI2 HPs ⊢
              generalize pickI later 9 = a9 at HFl HP HI2 HPs ⊢
              have p0 : W.cell? ⟨g, 0, none⟩ = some (.int .u64 ((ps.length : Int) + 1)) := HP.out.cell 0
              have p1 : W.cell? ⟨g, 1, none⟩ = some (.int .u64 a4) := HP.out.cell 1
              have p2 : W.cell? ⟨g, 2, none⟩ = some (.int .u64 2) := HP.out.cell 2
              have p3 : W.cell? ⟨g, 3, none⟩ = some (.string dt) := HP.out.cell 3
              have p4 : W.cell? ⟨g, 4, none⟩ = some (.int .u64 a9) := HP.out.cell 4
              obtain ⟨i0, hi, hz0, hz1, hz2⟩ := info_parts info_pk
              have HIp := Lib.hid (And.intro hi (And.intro hz0 (And.intro hz1 hz2)))
              clear hi hz0 hz1 hz2
              obtain ⟨i1, hi, hz0, hz1, hz2⟩ := info_parts info_bool
              have HIb := Lib.hid (And.intro hi (And.intro hz0 (And.intro hz1 hz2)))
              clear hi hz0 hz1 hz2
              have HOw : Hid ((W.alloc (.cells #[.int .u64 ((ps.length : Int) + 1), .int .u64 a4, .int .u64 2, .string dt, .int .u64 a9] 24)).ownsRow w.heap.size 24 5 (.slice ao1 ps.length cp1) ps.length (pC ps)) := Lib.hid (HE.out.rowp.alloc _)
              have hsz := HBl.out.size
              have t4 : decide ((dt.size : Int) ≤ 400) = true := by simp; omega
              go_wp2_with (at_builtin; refine wpList_append_lies _ rfl _ _ 45 rfl w.heap.size 24 i0 (.agg #[.int .u64 0, .int .u64 0, .int .u64 0, .string ⟨#[]⟩, .int .u64 0]) 5 48 Tryd.underlying45 HIp.out.1 HIp.out.2.1 HIp.out.2.2.1 HIp.out.2.2.2 rfl (by decide) _ _ _ rfl HOw.out ⟨W.heap.size, 0, none⟩ 1 1 (pkC ⟨(ps.length : Int) + 1, a4, 2, dt, a9⟩) rfl rfl ?c1 ?c2 (by decide) ?c3 ?c4 ?c5 _ rfl ?_)
              case c1 => exact fun _ _ h => h
              case c2 => intro x hx; simp [pkC] at hx; rcases hx with rfl | rfl | rfl | rfl | rfl <;> rfl
              case c3 => unfold maxLen; omega
              case c4 => omega
              case c5 => omega
              intro g5 cap5 w5 hown5 hgrow5 hat5 hlt5
              have HG5 := Lib.hid hgrow5
              have HRp := Lib.hid (push_p hown5)
              have HF5 := Lib.hid (grown_flow (HFl.out.alloc (.cells #[.int .u64 ((ps.length : Int) + 1), .int .u64 a4, .int .u64 2, .string dt, .int .u64 a9] 24)) hgrow5 (fun g hg => (HSt.out.1 g hg).1))
              have HB5 := Lib.hid (grown_below (balloc HBl.out (.cells #[.int .u64 ((ps.length : Int) + 1), .int .u64 a4, .int .u64 2, .string dt, .int .u64 a9] 24)) hgrow5 (fun g hg => own_ge HE.out.rowp hg))
              have HGl5 := Lib.hid (grown_glob (HGl.out.alloc (.cells #[.int .u64 ((ps.length : Int) + 1), .int .u64 a4, .int .u64 2, .string dt, .int .u64 a9] 24)) hgrow5 (fun g hg => Nat.le_trans h2w (own_ge HE.out.rowp hg)))
              have HRb : Hid (RowB w5 w.heap.size (.slice ao2 gn.length cp2) gn) := Lib.hid (grown_row (HE.out.rowb.alloc (.cells #[.int .u64 ((ps.length : Int) + 1), .int .u64 a4, .int .u64 2, .string dt, .int .u64 a9] 24)) HOw.out (by decide) hgrow5)
              clear hown5 hgrow5 hat5 hlt5 p0 p1 p2 p3 p4 xd HFl HE HGl HBl HP HOw HG5
              have HOb : Hid ((w5.alloc (.cells #[.bool false] 4)).ownsRow w.heap.size 4 1 (.slice ao2 gn.length cp2) gn.length (bsC gn)) := Lib.hid (HRb.out.alloc _)
              have hsz5 := HB5.out.size
              have hgs : gn.length ≤ 60 := by have := HGn.out; omega
              go_wp2_with (at_builtin; refine wpList_append_lies _ rfl _ _ 46 rfl w.heap.size 4 i1 (.bool false) 1 1 Tryd.underlying46 HIb.out.1 HIb.out.2.1 HIb.out.2.2.1 HIb.out.2.2.2 rfl (by decide) _ _ _ rfl HOb.out ⟨w5.heap.size, 0, none⟩ 1 1 [.bool false] rfl rfl ?c6 ?c7 (by decide) ?c8 ?c9 ?c10 _ rfl ?_)
              case c6 => exact World.news_of_block (heap_alloc_new w5 _)
              case c7 => intro x hx; simp at hx; subst hx; rfl
              case c8 => unfold maxLen; omega
              case c9 => omega
              case c10 => simp; omega
              intro g6 cap6 w6 hown6 hgrow6 hat6 hlt6
              have HR : Hid (CountsRel o w ⟨N + 3, N, N + 1, N + 2⟩ (60 - (j + 1)) (.slice (some ⟨g5, 0, none⟩) (ps.length + 1) cap5) (.slice (some ⟨g6, 0, none⟩) (gn.length + 1) cap6) (.int .i64 ((j : Int) + 1)) w6) := Lib.hid ⟨j + 1, ps ++ [⟨(ps.length : Int) + 1, a4, 2, dt, a9⟩], gn ++ [false], m + 1, by omega, rfl, by go_num, by simp; omega, by omega, HI2.out,
                grown_flow (HF5.out.alloc (.cells #[.bool false] 4)) hgrow6 (fun g hg => (HSt.out.2.1 g hg).1), grown_row (HRp.out.alloc (.cells #[.bool false] 4)) HOb.out (by decide) hgrow6, push_b hown6,
                grown_below (balloc HB5.out (.cells #[.bool false] 4)) hgrow6 (fun g hg => own_ge HRb.out hg), grown_glob (HGl5.out.alloc (.cells #[.bool false] 4)) hgrow6 (fun g hg => Nat.le_trans h2w (own_ge HRb.out hg)), HBg.out, h2w⟩
              clear hown6 hgrow6 hat6 hlt6 HF5 HRp HRb HB5 HGl5 HOb
              go_wp2_with fail
              go_roundg (60 - (j + 1))
              case measure => rw [HK.out]; omega
              case rel => exact HR.out
          · exact JStep.plain rfl fun ρ d u W he hdi hd hJ => swp_val (run_move (he.o h6 rfl)) (hJ.pure 0 (by decide) (by decide) (by decide) rfl)
          · exact JStep.plain rfl fun ρ d u W he hdi hd hJ => swp_val (run_fieldAddr (he.o h10 rfl) (actF1 X W)) (hJ.pure 1 (by decide) (by decide) (by decide) rfl)
          · exact JStep.plain rfl fun ρ d u W he hdi hd hJ => swp_val (run_load (he.i hz (hJ.vals 1 (hd 1 (by kernel_rfl)) (by decide)) (j := 1) (d := 55) rfl (by decide)) (load_int X 1 W which (hJ.e.x.cell 1))) (hJ.pure 2 (by decide) (by decide) (by decide) rfl)
          · exact JStep.plain rfl fun ρ d u W he hdi hd hJ => swp_call (run_call #[.int .i64 which, .int .i64 4] (he.func _) (by kernel_rfl) (map2 (he.i hz (hJ.vals 2 (hd 2 (by kernel_rfl)) (by decide)) (j := 2) (d := 56) rfl (by decide)) (he.const _))) (pick_is which 4 W oh.1 oh.2 (by omega) (by omega)) (fun e W' h => ⟨_, h.1, h.2 ▸ hJ.pure 3 (by decide) (by decide) (by decide) rfl⟩)
          · exact JStep.plain rfl fun ρ d u W he hdi hd hJ => swp_val (run_convert (he.i hz (hJ.vals 3 (hd 3 (by kernel_rfl)) (by decide)) (j := 3) (d := 57) rfl (by decide)) (conv_u64 _ hp4.1 (by omega) W)) (hJ.pure 4 (by decide) (by decide) (by decide) rfl)
          · exact JStep.plain rfl fun ρ d u W he hdi hd hJ => swp_val (run_fieldAddr (he.o h10 rfl) (actF3 X W)) (hJ.pure 5 (by decide) (by decide) (by decide) rfl)
          · exact JStep.plain rfl fun ρ d u W he hdi hd hJ => swp_val (run_load (he.i hz (hJ.vals 5 (hd 5 (by kernel_rfl)) (by decide)) (j := 5) (d := 59) rfl (by decide)) (load_str X 3 W dt (hJ.e.x.cell 3))) (hJ.pure 6 (by decide) (by decide) (by decide) rfl)
          · exact JStep.plain rfl fun ρ d u W he hdi hd hJ => swp_val (run_fieldAddr (he.o h10 rfl) (actF2 X W)) (hJ.pure 7 (by decide) (by decide) (by decide) rfl)
          · exact JStep.plain rfl fun ρ d u W he hdi hd hJ => swp_val (run_load (he.i hz (hJ.vals 7 (hd 7 (by kernel_rfl)) (by decide)) (j := 7) (d := 61) rfl (by decide)) (load_int X 2 W later (hJ.e.x.cell 2))) (hJ.pure 8 (by decide) (by decide) (by decide) rfl)
          · exact JStep.plain rfl fun ρ d u W he hdi hd hJ => swp_call (run_call #[.int .i64 later, .int .i64 9] (he.func _) (by kernel_rfl) (map2 (he.i hz (hJ.vals 8 (hd 8 (by kernel_rfl)) (by decide)) (j := 8) (d := 62) rfl (by decide)) (he.const _))) (pick_is later 9 W ol.1 ol.2 (by omega) (by omega)) (fun e W' h => ⟨_, h.1, h.2 ▸ hJ.pure 9 (by decide) (by decide) (by decide) rfl⟩)
          · exact JStep.plain rfl fun ρ d u W he hdi hd hJ => swp_val (run_convert (he.i hz (hJ.vals 9 (hd 9 (by kernel_rfl)) (by decide)) (j := 9) (d := 63) rfl (by decide)) (conv_u64 _ hp9.1 (by omega) W)) (hJ.pure 10 (by decide) (by decide) (by decide) rfl)
          · exact JStep.plain rfl fun ρ d u W he hdi hd hJ => swp_call (run_call #[.pointer (some ⟨N + 3, 0, none⟩), .int .u64 (pickI which 4), .int .u64 2, .string dt, .int .u64 (pickI later 9)] (he.func _) (by kernel_rfl) (map5 (he.i hz (hJ.vals 0 (hd 0 (by kernel_rfl)) (by decide)) (j := 0) (d := 54) rfl (by decide)) (he.i hz (hJ.vals 4 (hd 4 (by kernel_rfl)) (by decide)) (j := 4) (d := 58) rfl (by decide)) (he.const _) (he.i hz (hJ.vals 6 (hd 6 (by kernel_rfl)) (by decide)) (j := 6) (d := 60) rfl (by decide)) (he.i hz (hJ.vals 10 (hd 10 (by kernel_rfl)) (by decide)) (j := 10) (d := 64) rfl (by decide)))) (send_is W hJ.glob ⟨N + 3, N, N + 1, N + 2⟩ m (CS o ps gn) (pickI which 4) 2 (pickI later 9) dt (hJ.f0 hdi) ⟨hp4.1, by omega⟩ ⟨by omega, by omega⟩ ⟨hp9.1, by omega⟩ od (by unfold maxLen; omega)) (fun e W' h => ⟨_, h.1, SendJ.send HSt.out.2.2 HSy.out h2w hN0 (by decide) (by decide) hJ rfl h.2.1 h.2.2⟩)
          · exact JStep.plain rfl fun ρ d u W he hdi hd hJ => swp_val (run_move (he.i hz (hJ.vals 11 (hd 11 (by kernel_rfl)) (by decide)) (j := 11) (d := 65) rfl (by decide))) (hJ.pure 12 (by decide) (by decide) (by decide) rfl)
          · exact JStep.plain rfl fun ρ d u W he hdi hd hJ => swp_val (run_extract (he.i hz (hJ.vals 12 (hd 12 (by kernel_rfl)) (by decide)) (j := 12) (d := 53) rfl (by decide)) (extr0 _ _ W)) (hJ.pure 13 (by decide) (by decide) (by decide) rfl)
          · exact JStep.plain rfl fun ρ d u W he hdi hd hJ => swp_val (run_extract (he.i hz (hJ.vals 12 (hd 12 (by kernel_rfl)) (by decide)) (j := 12) (d := 53) rfl (by decide)) (extr1 _ _ W)) (hJ.pure 14 (by decide) (by decide) (by decide) rfl)
          · exact JStep.plain rfl fun ρ d u W he hdi hd hJ => swp_val (run_alloc (alloc_pk W)) (SendJ.alloc HSt.out.2.2 HSy.out h2w hN0 (by decide) (by decide) hJ hdi)
          · refine JStep.plain rfl fun ρ d u W he hdi hd hJ => ?_
            obtain ⟨g, hg, W5, hrun, hJ5⟩ := SendJ.store HSt.out.2.2 HSy.out h2w hN0 (by decide) (by decide) hJ hdi (hd 15 (by kernel_rfl)) trivial
            exact swp_skip (run_store (he.i hz hg (j := 15) (d := 11) rfl (by decide)) (he.i hz (hJ.vals 13 (hd 13 (by kernel_rfl)) (by decide)) (j := 13) (d := 66) rfl (by decide)) hrun) hJ5
          · exact JStep.plain rfl fun ρ d u W he hdi hd hJ => swp_val (run_assign (he.i hz (hJ.vals 14 (hd 14 (by kernel_rfl)) (by decide)) (j := 14) (d := 67) rfl (by decide))) (hJ.pure 17 (by decide) (by decide) (by decide) rfl)
          -- >
        | false =>
          have h0 : 0 < ps.length := hb0 rfl
          clear hb0
          have x0 : w3.cell? ⟨X, 0, none⟩ = some (.int .i64 what) := HX.out.cell 0
          have x1 : w3.cell? ⟨X, 1, none⟩ = some (.int .i64 which) := HX.out.cell 1
          go_wp2_with fail
          refine (pick_is which ps.length w3 oh.1 oh.2 (by omega) (by omega)).mono ?_
          rintro e w3' ⟨rfl, rfl⟩
          have hpk := pickI_r which ps.length (by omega)
          generalize pickI which ps.length = kk at hpk ⊢
          obtain ⟨k, rfl⟩ : ∃ k : Nat, kk = k := ⟨kk.toNat, by omega⟩
          have hk : k < ps.length := by omega
          clear hpk
          have HC3 := Lib.hid HCI3.out.cj
          clear HCI3 x1
          obtain ⟨g1, e1, q0, q1, q2, q3, q4⟩ := HC3.out.p_at k hk rfl
          subst e1
          have HPok := Lib.hid (HI.out.ok _ (List.getElem_mem hk))
          obtain ⟨T1, T2⟩ := cs_time o ps gn HI.out k hk
          obtain ⟨K1, K2⟩ := cs_ack o ps gn HI.out k hk
          have hkg : k < gn.length := by have := HGn.out; omega
          have HTo : Hid (∀ W, Glob W → FlowAt W ⟨N + 3, N, N + 1, N + 2⟩ m (CS o ps gn) → Calls Tryd.prog 26 #[.pointer (some ⟨N + 3, 0, none⟩), .agg #[.int .u64 ps[k].seq, .int .u64 ps[k].src, .int .u64 ps[k].dst, .string ps[k].data, .int .u64 ps[k].timeout]] W fun e w' => e = .returned (.int .i64 (if gn[k] then 185 else 0)) ∧ FlowAt w' ⟨N + 3, N, N + 1, N + 2⟩ m (CS o ps (gn.set k true)) ∧ Only (FB.mk (N + 3) N (N + 1) (N + 2)).l W w') := Lib.hid (fun W hG hF => by have := tout_is W hG ⟨N + 3, N, N + 1, N + 2⟩ m (CS o ps gn) ps[k] hF HPok.out; rw [T1, T2] at this; exact this)
          have HAc : Hid (∀ W, Glob W → FlowAt W ⟨N + 3, N, N + 1, N + 2⟩ m (CS o ps (gn.set k true)) → Calls Tryd.prog 27 #[.pointer (some ⟨N + 3, 0, none⟩), .agg #[.int .u64 ps[k].seq, .int .u64 ps[k].src, .int .u64 ps[k].dst, .string ps[k].data, .int .u64 ps[k].timeout]] W fun e w' => e = .returned (.int .i64 185) ∧ FlowAt w' ⟨N + 3, N, N + 1, N + 2⟩ m (CS o ps (gn.set k true)) ∧ Only (FB.mk (N + 3) N (N + 1) (N + 2)).l W w') := Lib.hid (fun W hG hF => by have := ack_is W hG ⟨N + 3, N, N + 1, N + 2⟩ m (CS o ps (gn.set k true)) ps[k] hF HPok.out; rw [K1, K2] at this; exact this)
          clear T1 T2 K1 K2
          obtain ⟨gk, hgk⟩ : ∃ b, gn[k] = b := ⟨_, rfl⟩
          rw [hgk] at HTo
          have HGk := Lib.hid hgk
          clear hgk
          obtain ⟨tc, htc⟩ : ∃ tc : Int, (if gk then (185 : Int) else 0) = tc := ⟨_, rfl⟩
          rw [htc] at HTo
          have HTc := Lib.hid htc
          clear htc
          go_wp2_with fail
          refine (HTo.out w3 HC3.out.glob HC3.out.flow).mono ?_
          rintro e w5 ⟨rfl, hf5, ho5⟩
          have HC5 := Lib.hid (HC3.out.only hf5 ho5)
          have HX5 := Lib.hid (HX.out.only ho5 (HC3.out.flow.apart HX.out (by decide)))
          clear hf5 ho5 HC3 HX x0 q0 q1 q2 q3 q4 HTo
          have x0 : w5.cell? ⟨X, 0, none⟩ = some (.int .i64 what) := HX5.out.cell 0
          go_wp2_with fail
          refine (pick_is what 3 w5 ow.1 ow.2 (by omega) (by omega)).mono ?_
          rintro e w5' ⟨rfl, rfl⟩
          generalize pickI what 3 = t3
          go_upto_if 112 with fail
          go_cut [14] (fun v wx => ∃ (ec : Int) (gb : List Bool), v = .int .i64 ec ∧ gb.length = gn.length ∧ (∀ h : k < gb.length, gb[k] = true → ec = 185) ∧ gb.set k true = gn.set k true ∧ CJ w ⟨N + 3, N, N + 1, N + 2⟩ o (.slice (some ⟨g1, 0, none⟩) ps.length cp1) (.slice ao2 gn.length cp2) ps (gn.set k true) gb m wx)
          case first =>
            -- <
            by_cases h1 : t3 = 1
            · obtain ⟨g2, e2, ob, qb, fb⟩ := HC5.out.b_at k hkg rfl
              subst e2
              rw [HGk.out] at qb
              cases gk with
              | true =>
                have HE : Hid (gn.set k true = gn) := Lib.hid (set_same gn k hkg HGk.out)
                have tt : (tc == 0) = false := by rw [← HTc.out]; rfl
                obtain ⟨g1', e1', q0, q1, q2, q3, q4⟩ := HC5.out.p_at k hk rfl
                cases e1'
                go_wp2_with fail
                refine (HAc.out w5 HC5.out.glob HC5.out.flow).mono ?_
                rintro e w6 ⟨rfl, hf6, ho6⟩
                have HC6 := Lib.hid (HC5.out.only hf6 ho6)
                clear hf6 ho6 q0 q1 q2 q3 q4 qb fb
                go_wp2_with fail
                go_meet
                case rel => exact ⟨185, gn, rfl, rfl, fun _ _ => rfl, rfl, HC6.out⟩
              | false =>
                have tt : (tc == 0) = true := by rw [← HTc.out]; rfl
                go_upto_region 25 with fail
                have HC6 := Lib.hid (HC5.out.set_ ob k hkg)
                clear qb fb x0 HC5 HX5
                generalize w5.setCell ⟨g2, k, none⟩ (.bool true) = w6 at HC6 ⊢
                obtain ⟨g1', e1', q0, q1, q2, q3, q4⟩ := HC6.out.p_at k hk rfl
                cases e1'
                go_wp2_with fail
                refine (HAc.out w6 HC6.out.glob HC6.out.flow).mono ?_
                rintro e w7 ⟨rfl, hf7, ho7⟩
                have HC7 := Lib.hid (HC6.out.only hf7 ho7)
                clear hf7 ho7 q0 q1 q2 q3 q4
                go_wp2_with fail
                go_meet
                case rel => exact ⟨185, gn.set k true, rfl, by simp, fun _ _ => rfl, by simp, HC7.out⟩
            · go_wp2_with fail
              go_meet
              case rel => exact ⟨_, gn, rfl, rfl, fun h hg => (by rw [HGk.out] at hg; rw [← HTc.out, hg]; rfl), rfl, HC5.out⟩
            -- >
          case rest =>
            obtain ⟨ec, gb, rfl, hgl, hge, hgs, hCb⟩ := hcut
            clear HC5 HX5 HAc HTc HGk x0 HPok
            have HCb := Lib.hid hCb
            have HGl2 := Lib.hid hgl
            have HGe := Lib.hid hge
            have HGs := Lib.hid hgs
            clear hCb hgl hge hgs
            have hkb : k < gb.length := by have := HGl2.out; omega
            obtain ⟨g2, e2, ob, qb, fb⟩ := HCb.out.b_at k hkb rfl
            subst e2
            obtain ⟨bk, hbk⟩ : ∃ b, gb[k] = b := ⟨_, rfl⟩
            rw [hbk] at qb
            have HBk := Lib.hid hbk
            clear hbk
            have hkI : (k : Int) < (gn.length : Int) := by omega
            go_upto_region 26 with fail
            go_cut [131] (fun v wx => v = .bool false ∧ wc = wx)
            case first =>
              -- <
              cases bk with
              | true =>
                have he : ec = 185 := HGe.out hkb HBk.out
                have te : (ec != 185) = false := by simp [he]
                clear he
                go_wp2_with fail
                go_meet
                case rel => exact ⟨rfl, rfl⟩
              | false =>
                go_wp2_with fail
                go_meet
                case rel => exact ⟨rfl, rfl⟩
              -- >
            case rest =>
              obtain ⟨rfl, rfl⟩ := hcut
              go_upto_region 29 with fail
              have hC9 := HCb.out.set_ ob k hkb
              rw [HGs.out] at hC9
              have HC9 := Lib.hid hC9.ci
              have HI1 := Lib.hid (cs_set ps gn HI.out k)
              have HGn1 : Hid ((gn.set k true).length = ps.length) := Lib.hid (by rw [List.length_set]; exact HGn.out)
              clear hC9 qb fb HCb HGe HGs HGl2 HBk hkb ob
              generalize wc.setCell ⟨g2, k, none⟩ (.bool true) = w9 at HC9 ⊢
              generalize gn.set k true = gn1 at HC9 HI1 HGn1
              go_wp2_with fail
              go_loopg [15] ps.length (fun c v wq => ∃ jj : Nat, jj ≤ ps.length ∧ c = ps.length - jj ∧ v = .int .i64 jj ∧ CI w ⟨N + 3, N, N + 1, N + 2⟩ o (.slice (some ⟨g1, 0, none⟩) ps.length cp1) (.slice (some ⟨g2, 0, none⟩) gn.length cp2) ps gn1 m wq)
              case atStart => exact ⟨0, by omega, rfl, rfl, HC9.out⟩
              case round =>
                clear HC9
                obtain ⟨jj, hjj, hkq, rfl, hCq⟩ := hrel
                have HKq := Lib.hid hkq
                have HCq := Lib.hid hCq
                clear hkq hCq
                by_cases hl : jj < ps.length
                · have hlg : jj < gn1.length := by have := HGn1.out; omega
                  obtain ⟨g1', e1', q0, q1, q2, q3, q4⟩ := HCq.out.cj.p_at jj hl rfl
                  cases e1'
                  obtain ⟨g2', e2', ob', qb, fb⟩ := HCq.out.cj.b_at jj hlg rfl
                  cases e2'
                  have HPo := Lib.hid (HI1.out.ok _ (List.getElem_mem hl))
                  have hsn := cs_sent o ps gn1 HI1.out jj hl
                  have HSe := Lib.hid (fun W (hF : FlowAt W ⟨N + 3, N, N + 1, N + 2⟩ m (CS o ps gn1)) => sent_is W ⟨N + 3, N, N + 1, N + 2⟩ m (CS o ps gn1) ps[jj].seq hF HPo.out.seq)
                  rw [hsn] at HSe
                  have HCm : Hid (∀ W, Glob W → Calls Tryd.prog 14 #[.agg #[.int .u64 ps[jj].seq, .int .u64 ps[jj].src, .int .u64 ps[jj].dst, .string ps[jj].data, .int .u64 ps[jj].timeout]] W fun e w' => e = .returned (.string ps[jj].comm) ∧ Below W.heap.size W w') := Lib.hid (fun W hG => commitment_is ps[jj] W hG HPo.out)
                  clear hsn fb HPo
                  have hjI : (jj : Int) < (gn.length : Int) := by have := HGn.out; omega
                  cases hbj : gn1[jj] with
                  | true =>
                    rw [hbj] at HSe qb
                    simp only [if_true, Option.getD_none, Option.isSome_none] at HSe
                    clear hbj
                    go_wp2_with fail
                    refine (HSe.out wr HCq.out.flow).mono ?_
                    rintro e wr' ⟨rfl, rfl⟩
                    go_wp2_with fail
                    go_roundg (ps.length - (jj + 1))
                    case measure => rw [HKq.out]; omega
                    case rel => exact ⟨jj + 1, by omega, rfl, by go_num, HCq.out⟩
                  | false =>
                    rw [hbj] at HSe qb
                    simp only [Bool.false_eq_true, if_false, Option.getD_some, Option.isSome_some] at HSe
                    clear hbj
                    go_wp2_with fail
                    refine (HSe.out wr HCq.out.flow).mono ?_
                    rintro e wr' ⟨rfl, rfl⟩
                    generalize ps[jj].comm = cm at HCm ⊢
                    go_wp2_with fail
                    refine (HCm.out wr HCq.out.glob).mono ?_
                    rintro e w11 ⟨rfl, hb11⟩
                    have HC11 := Lib.hid (HCq.out.below hb11)
                    clear hb11 q0 q1 q2 q3 q4 qb
                    go_wp2_with fail
                    go_roundg (ps.length - (jj + 1))
                    case measure => rw [HKq.out]; omega
                    case rel => exact ⟨jj + 1, by omega, rfl, by go_num, HC11.out⟩
                · go_wp2_with fail
                  go_roundg (60 - (j + 1))
                  case measure => rw [HK.out]; omega
                  case rel => exact ⟨j + 1, ps, gn1, m, by omega, rfl, by go_num, by omega, by omega, HI1.out, HCq.out⟩
    · by_cases ha : j < acts.length
      · have hc : ¬ j < 60 := fun h => hlt ⟨ha, h⟩
        clear hlt
        go_wp2_with fail
        refine (next_same wr ⟨N + 3, N, N + 1, N + 2⟩ m (CS o ps gn) HCI.out.flow).mono ?_
        rintro e w9 ⟨rfl, hb9⟩
        have HB9 := Lib.hid (bstep HCI.out.bel hb9)
        clear hb9
        have HCs : Hid ((CS o ps gn).send = (ps.length : Int) + 1 ∧ (CS o ps gn).recv = 1 ∧ (CS o ps gn).ack = 1) := Lib.hid ⟨rfl, rfl, rfl⟩
        rw [HCs.out.1, HCs.out.2.1, HCs.out.2.2]
        go_wp2_with fail
        go_ret
        exact ⟨rfl, HB9.out⟩
      · clear hlt
        go_wp2_with fail
        refine (next_same wr ⟨N + 3, N, N + 1, N + 2⟩ m (CS o ps gn) HCI.out.flow).mono ?_
        rintro e w9 ⟨rfl, hb9⟩
        have HB9 := Lib.hid (bstep HCI.out.bel hb9)
        clear hb9
        have HCs : Hid ((CS o ps gn).send = (ps.length : Int) + 1 ∧ (CS o ps gn).recv = 1 ∧ (CS o ps gn).ack = 1) := Lib.hid ⟨rfl, rfl, rfl⟩
        rw [HCs.out.1, HCs.out.2.1, HCs.out.2.2]
        go_wp2_with fail
        go_ret
        exact ⟨rfl, HB9.out⟩
end Go.Proofs.YtpekbnkmnellpaaDoor
