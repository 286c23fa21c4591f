/-
  The walk of FlowOnce: a Send.
-/
import Derived.Test.YtpekbnkmnellpaaDoorOnceC
namespace Go.Proofs.YtpekbnkmnellpaaDoor
open Go.RowKit Go.Maps
set_option linter.unusedVariables false
set_option maxRecDepth 100000 in
set_option maxHeartbeats 32000000 in
theorem once_send (w : World) (h2w : 2 ≤ w.heap.size) (o : Bool) (v1 : Option Addr) (c1 : Nat) (acts : List ActR) (A1 : ActsAt w (.slice v1 acts.length c1) acts) (N M : Nat) (K2 : Act → World → Prop) (Q2 : Exit → Act → World → Prop) (hK2 : ∀ (a : Act) (W : World), a.tmps.size = 312 → a.defers = [] → Below w.heap.size w W → K2 a W) (gk : Nat) (a0 : Act) (wr : World) (J : Nat → Act → World → Prop) (K : Act → World → Prop)
    (hJ : ∀ k a' w', OFr o w N M (.slice v1 acts.length c1) k a' w' → J k a' w') (hK : ∀ a' w', Handed J gk a' w' → K a' w')
    (hs : a0.tmps.size = 312) (hd : a0.defers = []) (e0 : a0.tmps.getD 0 undef = .bool o) (e1 : a0.tmps.getD 1 undef = .slice v1 acts.length c1) (e6 : a0.tmps.getD 6 undef = .pointer (some ⟨N + 3, 0, none⟩)) (e7 : a0.tmps.getD 7 undef = .pointer (some ⟨M + 3, 0, none⟩))
    (j : Nat) (fs : List Ft) (ss : List ByteArray) (a b : Fl) (hh last : Int) (m n : Nat) (hj : j ≤ 80) (hk : gk = 80 - j) (h12 : a0.tmps.getD 12 undef = .int .i64 j) (h10 : a0.tmps.getD 10 undef = .int .u64 hh) (h11 : a0.tmps.getD 11 undef = .int .u64 last) (hsl : ss.length ≤ j) (hmj : m ≤ j) (hnj : n ≤ j)
    (hI : OInv o j fs a b hh last) (hW : OW w ⟨N + 3, N, N + 1, N + 2⟩ ⟨M + 3, M, M + 1, M + 2⟩ (a0.tmps.getD 8 undef) (a0.tmps.getD 9 undef) fs ss a b m n wr) (hj1 : j < acts.length) (hj3 : j < 80) (t8 : Int) (ht8 : pickI acts[j].what 8 = t8) (h2 : t8 < 2) : onceCut.c.wp Tryd.prog (Exit.then K (Exit.inBlock 0 (Exit.then K2 Q2))) a0 wr := by
  obtain ⟨v1', c1', e1', m1, hc1⟩ := A1
  cases e1'
  have HC := Lib.hid hc1
  clear hc1
  unfold onceCut
  dsimp only
  obtain ⟨u, hu, ha⟩ := frame312 a0 hs hd
  rw [hu] at e0 e1 e6 e7 h12 h10 h11
  rw [hu, hu] at hW
  rw [ha, e0, e1, e6, e7]
  clear hs hd hu ha e0 e1 e6 e7
  clear a0
  rw [h12, h10, h11]
  clear h12 h10 h11
  have HK := Lib.hid hk
  have hfl : fs.length ≤ j := hI.len
  have hh0 := hI.h0
  have hh1 := hI.h1
  have hl0 := hI.l0
  have hl1 := hI.l1
  have HI := Lib.hid hI
  clear hk hI
  obtain ⟨ao8, cp8, h8, _⟩ := hW.rowf.at_
  obtain ⟨ao9, cp9, h9⟩ := hW.rows.at_
  rw [h8, h9] at hW
  rw [h8, h9]
  clear h8 h9
  have HW := Lib.hid hW
  clear hW
  obtain ⟨q, off, rfl, hb, k0, k1, k2, k3, hok⟩ := HC.out j hj1
  have hw0 := HW.out.bel
  have d0 := (hw0.cell (p := ⟨q, off + j * 4, none⟩) hb).trans k0
  have d1 := (hw0.cell (p := ⟨q, off + j * 4 + 1, none⟩) hb).trans k1
  have d2 := (hw0.cell (p := ⟨q, off + j * 4 + 2, none⟩) hb).trans k2
  have d3 := (hw0.cell (p := ⟨q, off + j * 4 + 3, none⟩) hb).trans k3
  clear k0 k1 k2 k3 hw0
  generalize acts[j] = x at d0 d1 d2 d3 hok ht8
  obtain ⟨what, which, later, dt⟩ := x
  have ow : i64r what := hok.what
  have oh : i64r which := hok.which
  have ol : i64r later := hok.later
  have od : dt.size ≤ 140737488351232 := hok.data
  simp only at d0 d1 d2 d3 ht8
  clear hok
  go_upto_region 14 with fail
  clear d0 d1 d2 d3
  have HX := Lib.hid (Blk.new wr 48 (actC what which later dt))
  have HW3 := Lib.hid (HW.out.below (balloc (Below.refl _ wr) (.cells (actC what which later dt) 48)))
  clear HW
  change Code.wp _ _ _ _ (wr.alloc (.cells (actC what which later dt) 48))
  generalize wr.alloc (.cells (actC what which later dt) 48) = w3 at HX HW3 ⊢
  generalize wr.heap.size = X at HX ⊢
  have x0 : w3.cell? ⟨X, 0, none⟩ = some (.int .i64 what) := HX.out.cell 0
  have x1 : w3.cell? ⟨X, 1, none⟩ = some (.int .i64 which) := HX.out.cell 1
  have x2 : w3.cell? ⟨X, 2, none⟩ = some (.int .i64 later) := HX.out.cell 2
  have x3 : w3.cell? ⟨X, 3, none⟩ = some (.string dt) := HX.out.cell 3
  have HPk8 := Lib.hid (fun W => pick_is what 8 W ow.1 ow.2 (by omega) (by omega))
  have hp8 := pickI_r what 8 (by omega)
  rw [ht8] at HPk8 hp8
  clear ht8
  obtain ⟨t80, t81⟩ := hp8
  go_wp2_with fail
  refine (HPk8.out w3).mono ?_
  rintro e w3' ⟨rfl, rfl⟩
  go_upto_region 16 with fail
  go_wp2_with fail
  refine (pick_is later 3 w3 ol.1 ol.2 (by omega) (by omega)).mono ?_
  rintro e w3' ⟨rfl, rfl⟩
  have hp3 := pickI_r later 3 (by omega)
  generalize pickI later 3 = t3 at hp3 ⊢
  by_cases h3 : 0 < t3
  · go_wp2_with fail
    refine (pick_is later 4 w3 ol.1 ol.2 (by omega) (by omega)).mono ?_
    rintro e w3' ⟨rfl, rfl⟩
    have hp4 := pickI_r later 4 (by omega)
    generalize pickI later 4 = t4 at hp4 ⊢
    obtain ⟨p40, p41⟩ := hp4
    go_wp2_with fail
    obtain ⟨tt, htt⟩ : ∃ x, hh + t4 = x := ⟨_, rfl⟩
    have ht0 : 1 ≤ tt := by omega
    have ht1 : tt ≤ hh + 3 := by omega
    rw [htt]
    clear htt
    obtain ⟨dd, hdd⟩ : ∃ x, dt.extract 0 (min (dt.size : Int) 9).toNat = x := ⟨_, rfl⟩
    have hdz : dd.size ≤ 9 := by rw [← hdd, ByteArray.size_extract]; omega
    have hdn : ¬ 400 < dd.size := by omega
    rw [hdd]
    clear hdd
    obtain ⟨l1, l2, l3⟩ := oi_send HI.out (by omega) dd hdn tt ⟨by omega, by omega⟩ (decide (tt ≤ hh)) (fun h => ⟨by omega, of_decide_eq_true h⟩)
    have HIz := Lib.hid l3
    have hsn := send_is w3 HW3.out.glob ⟨N + 3, N, N + 1, N + 2⟩ m a 1 2 tt dd HW3.out.fa ⟨by omega, by omega⟩ ⟨by omega, by omega⟩ ⟨by omega, by omega⟩ (by omega) (by unfold maxLen; omega)
    rw [l1, l2] at hsn
    refine hsn.mono ?_
    clear hsn l1 l2 l3
    rintro e w4 ⟨rfl, hf4, ho4⟩
    have HW4 := Lib.hid (HW3.out.onlyA hf4 ho4)
    clear hf4 ho4 HW3 HX x0 x1 x2 x3 HPk8
    simp only [Pk.v]
    go_upto_region 21 with fail
    have HW5 := Lib.hid (HW4.out.below (balloc (Below.refl _ w4) (.cells #[.int .u64 ((fs.length : Int) + 1), .int .u64 1, .int .u64 2, .string dd, .int .u64 tt] 24)))
    have HPk := Lib.hid (Blk.new w4 24 #[.int .u64 ((fs.length : Int) + 1), .int .u64 1, .int .u64 2, .string dd, .int .u64 tt])
    clear HW4
    generalize w4.alloc (.cells #[.int .u64 ((fs.length : Int) + 1), .int .u64 1, .int .u64 2, .string dd, .int .u64 tt] 24) = w5 at HW5 HPk ⊢
    generalize w4.heap.size = Y at HPk ⊢
    have p0 : w5.cell? ⟨Y, 0, none⟩ = some (.int .u64 ((fs.length : Int) + 1)) := HPk.out.cell 0
    have p1 : w5.cell? ⟨Y, 1, none⟩ = some (.int .u64 1) := HPk.out.cell 1
    have p2 : w5.cell? ⟨Y, 2, none⟩ = some (.int .u64 2) := HPk.out.cell 2
    have p3 : w5.cell? ⟨Y, 3, none⟩ = some (.string dd) := HPk.out.cell 3
    have p4 : w5.cell? ⟨Y, 4, none⟩ = some (.int .u64 tt) := HPk.out.cell 4
    obtain ⟨i0, hi, hz0, hz1, hz2⟩ := info_parts info_ft
    have HIp := Lib.hid (And.intro hi (And.intro hz0 (And.intro hz1 hz2)))
    clear hi hz0 hz1 hz2
    obtain ⟨i1, hi, hz0, hz1, hz2⟩ := info_parts info_str
    have HIs := Lib.hid (And.intro hi (And.intro hz0 (And.intro hz1 hz2)))
    clear hi hz0 hz1 hz2
    have HW6 := Lib.hid (HW5.out.below (balloc (Below.refl _ w5) (.cells #[.int .u64 ((fs.length : Int) + 1), .int .u64 1, .int .u64 2, .string dd, .int .u64 tt, .int .i64 0, .int .i64 0, .int .i64 0, .bool (decide (tt ≤ hh))] 69)))
    have hsz := HW5.out.bel.size
    have tz : (tt != 0) = true := by simp; omega
    go_wp2_with (at_builtin; refine wpList_append_lies _ rfl _ _ 67 rfl w.heap.size 69 i0 (.agg #[.int .u64 0, .int .u64 0, .int .u64 0, .string ⟨#[]⟩, .int .u64 0, .int .i64 0, .int .i64 0, .int .i64 0, .bool false]) 9 80 Tryd.underlying67 HIp.out.1 HIp.out.2.1 HIp.out.2.2.1 HIp.out.2.2.2 rfl (by decide) _ _ _ rfl HW6.out.rowf ⟨w5.heap.size, 0, none⟩ 1 1 (ftC ⟨⟨(fs.length : Int) + 1, 1, 2, dd, tt⟩, 0, 0, 0, (decide (tt ≤ hh))⟩) rfl rfl ?c1 ?c2 (by decide) ?c3 ?c4 ?c5 _ rfl ?_)
    case c1 => exact World.news_of_block (heap_alloc_new w5 _)
    case c2 => intro x hx; simp [ftC] at hx; rcases hx with rfl | rfl | rfl | rfl | rfl | rfl | rfl <;> rfl
    case c3 => unfold maxLen; omega
    case c4 => omega
    case c5 => simp; omega
    intro g7 cap7 w7 hown7 hgrow7 hat7 hlt7
    have HW7 := Lib.hid (HW6.out.growF hgrow7 (push_f hown7))
    have HPk7 : Hid (Blk w7 Y 24 #[.int .u64 ((fs.length : Int) + 1), .int .u64 1, .int .u64 2, .string dd, .int .u64 tt]) := Lib.hid ((HPk.out.alloc (.cells #[.int .u64 ((fs.length : Int) + 1), .int .u64 1, .int .u64 2, .string dd, .int .u64 tt, .int .i64 0, .int .i64 0, .int .i64 0, .bool (decide (tt ≤ hh))] 69)).only (Only.of_grown hgrow7) (fun hm => own_apart HW6.out.rowf (HPk.out.alloc (.cells #[.int .u64 ((fs.length : Int) + 1), .int .u64 1, .int .u64 2, .string dd, .int .u64 tt, .int .i64 0, .int .i64 0, .int .i64 0, .bool (decide (tt ≤ hh))] 69)) (by decide) Y (by simpa using hm) rfl))
    clear hown7 hgrow7 hat7 hlt7 p0 p1 p2 p3 p4 HW6 HW5 HPk
    have p0 : w7.cell? ⟨Y, 0, none⟩ = some (.int .u64 ((fs.length : Int) + 1)) := HPk7.out.cell 0
    have p1 : w7.cell? ⟨Y, 1, none⟩ = some (.int .u64 1) := HPk7.out.cell 1
    have p2 : w7.cell? ⟨Y, 2, none⟩ = some (.int .u64 2) := HPk7.out.cell 2
    have p3 : w7.cell? ⟨Y, 3, none⟩ = some (.string dd) := HPk7.out.cell 3
    have p4 : w7.cell? ⟨Y, 4, none⟩ = some (.int .u64 tt) := HPk7.out.cell 4
    go_wp2_with fail
    have hin : Calls Tryd.prog 17 #[.agg #[.int .u64 ((fs.length : Int) + 1), .int .u64 1, .int .u64 2, .string dd, .int .u64 tt]] w7 _ := inp_is ⟨(fs.length : Int) + 1, 1, 2, dd, tt⟩ w7 ⟨⟨by show 0 ≤ (fs.length : Int) + 1; omega, by show (fs.length : Int) + 1 ≤ _; omega⟩, ⟨by show (0 : Int) ≤ 1; omega, by show (1 : Int) ≤ _; omega⟩, ⟨by show (0 : Int) ≤ 2; omega, by show (2 : Int) ≤ _; omega⟩, ⟨by show 0 ≤ tt; omega, by show tt ≤ _; omega⟩, by show dd.size ≤ _; omega⟩
    refine hin.mono ?_
    clear hin
    rintro e w8 ⟨rfl, hb8⟩
    have HW8 := Lib.hid (HW7.out.below hb8)
    clear hb8 HW7 HPk7 p0 p1 p2 p3 p4
    generalize (ByteArray.mk (Pk.inp ⟨(fs.length : Int) + 1, 1, 2, dd, tt⟩).toArray) = sx
    have HW9 := Lib.hid (HW8.out.below (balloc (Below.refl _ w8) (.cells #[.string sx] 9)))
    have hsz8 := HW8.out.bel.size
    go_wp2_with (at_builtin; refine wpList_append_lies _ rfl _ _ 30 rfl w.heap.size 9 i1 (.string ⟨#[]⟩) 1 16 Tryd.underlying30 HIs.out.1 HIs.out.2.1 HIs.out.2.2.1 HIs.out.2.2.2 rfl (by decide) _ _ _ rfl HW9.out.rows ⟨w8.heap.size, 0, none⟩ 1 1 [.string sx] rfl rfl ?d1 ?d2 (by decide) ?d3 ?d4 ?d5 _ rfl ?_)
    case d1 => exact World.news_of_block (heap_alloc_new w8 _)
    case d2 => intro x hx; simp at hx; subst hx; rfl
    case d3 => unfold maxLen; omega
    case d4 => omega
    case d5 => simp; omega
    intro g9 cap9 w9 hown9 hgrow9 hat9 hlt9
    have HWz := Lib.hid (HW9.out.growS hgrow9 (push_s hown9))
    clear hown9 hgrow9 hat9 hlt9 HW9 HW8
    go_wp2_with fail
    exact Handed.intro (80 - (j + 1)) (by rw [HK.out]; omega) (hJ _ _ _ ⟨rfl, rfl, rfl, rfl, rfl, rfl, j + 1, _, _, _, _, _, _, m + 1, n, by omega, rfl, congrArg (Value.int .i64) (show (j : Int) + 1 = ((j + 1 : Nat) : Int) by omega), rfl, rfl, by rw [List.length_append, List.length_singleton]; omega, by omega, by omega, HIz.out, HWz.out⟩)
  · have h30 : decide ((0 : Int) < t3) = false := by simp; omega
    go_wp2_with fail
    obtain ⟨dd, hdd⟩ : ∃ x, dt.extract 0 (min (dt.size : Int) 9).toNat = x := ⟨_, rfl⟩
    have hdz : dd.size ≤ 9 := by rw [← hdd, ByteArray.size_extract]; omega
    have hdn : ¬ 400 < dd.size := by omega
    rw [hdd]
    clear hdd
    obtain ⟨l1, l2, l3⟩ := oi_send HI.out (by omega) dd hdn 0 ⟨by omega, by omega⟩ false (fun h => by cases h)
    have HIz := Lib.hid l3
    have hsn := send_is w3 HW3.out.glob ⟨N + 3, N, N + 1, N + 2⟩ m a 1 2 0 dd HW3.out.fa ⟨by omega, by omega⟩ ⟨by omega, by omega⟩ ⟨by omega, by omega⟩ (by omega) (by unfold maxLen; omega)
    rw [l1, l2] at hsn
    refine hsn.mono ?_
    clear hsn l1 l2 l3
    rintro e w4 ⟨rfl, hf4, ho4⟩
    have HW4 := Lib.hid (HW3.out.onlyA hf4 ho4)
    clear hf4 ho4 HW3 HX x0 x1 x2 x3 HPk8
    simp only [Pk.v]
    go_upto_region 21 with fail
    have HW5 := Lib.hid (HW4.out.below (balloc (Below.refl _ w4) (.cells #[.int .u64 ((fs.length : Int) + 1), .int .u64 1, .int .u64 2, .string dd, .int .u64 0] 24)))
    have HPk := Lib.hid (Blk.new w4 24 #[.int .u64 ((fs.length : Int) + 1), .int .u64 1, .int .u64 2, .string dd, .int .u64 0])
    clear HW4
    generalize w4.alloc (.cells #[.int .u64 ((fs.length : Int) + 1), .int .u64 1, .int .u64 2, .string dd, .int .u64 0] 24) = w5 at HW5 HPk ⊢
    generalize w4.heap.size = Y at HPk ⊢
    have p0 : w5.cell? ⟨Y, 0, none⟩ = some (.int .u64 ((fs.length : Int) + 1)) := HPk.out.cell 0
    have p1 : w5.cell? ⟨Y, 1, none⟩ = some (.int .u64 1) := HPk.out.cell 1
    have p2 : w5.cell? ⟨Y, 2, none⟩ = some (.int .u64 2) := HPk.out.cell 2
    have p3 : w5.cell? ⟨Y, 3, none⟩ = some (.string dd) := HPk.out.cell 3
    have p4 : w5.cell? ⟨Y, 4, none⟩ = some (.int .u64 0) := HPk.out.cell 4
    obtain ⟨i0, hi, hz0, hz1, hz2⟩ := info_parts info_ft
    have HIp := Lib.hid (And.intro hi (And.intro hz0 (And.intro hz1 hz2)))
    clear hi hz0 hz1 hz2
    obtain ⟨i1, hi, hz0, hz1, hz2⟩ := info_parts info_str
    have HIs := Lib.hid (And.intro hi (And.intro hz0 (And.intro hz1 hz2)))
    clear hi hz0 hz1 hz2
    have HW6 := Lib.hid (HW5.out.below (balloc (Below.refl _ w5) (.cells #[.int .u64 ((fs.length : Int) + 1), .int .u64 1, .int .u64 2, .string dd, .int .u64 0, .int .i64 0, .int .i64 0, .int .i64 0, .bool false] 69)))
    have hsz := HW5.out.bel.size
    go_wp2_with (at_builtin; refine wpList_append_lies _ rfl _ _ 67 rfl w.heap.size 69 i0 (.agg #[.int .u64 0, .int .u64 0, .int .u64 0, .string ⟨#[]⟩, .int .u64 0, .int .i64 0, .int .i64 0, .int .i64 0, .bool false]) 9 80 Tryd.underlying67 HIp.out.1 HIp.out.2.1 HIp.out.2.2.1 HIp.out.2.2.2 rfl (by decide) _ _ _ rfl HW6.out.rowf ⟨w5.heap.size, 0, none⟩ 1 1 (ftC ⟨⟨(fs.length : Int) + 1, 1, 2, dd, 0⟩, 0, 0, 0, false⟩) rfl rfl ?c1 ?c2 (by decide) ?c3 ?c4 ?c5 _ rfl ?_)
    case c1 => exact World.news_of_block (heap_alloc_new w5 _)
    case c2 => intro x hx; simp [ftC] at hx; rcases hx with rfl | rfl | rfl | rfl | rfl | rfl | rfl <;> rfl
    case c3 => unfold maxLen; omega
    case c4 => omega
    case c5 => simp; omega
    intro g7 cap7 w7 hown7 hgrow7 hat7 hlt7
    have HW7 := Lib.hid (HW6.out.growF hgrow7 (push_f hown7))
    have HPk7 : Hid (Blk w7 Y 24 #[.int .u64 ((fs.length : Int) + 1), .int .u64 1, .int .u64 2, .string dd, .int .u64 0]) := Lib.hid ((HPk.out.alloc (.cells #[.int .u64 ((fs.length : Int) + 1), .int .u64 1, .int .u64 2, .string dd, .int .u64 0, .int .i64 0, .int .i64 0, .int .i64 0, .bool false] 69)).only (Only.of_grown hgrow7) (fun hm => own_apart HW6.out.rowf (HPk.out.alloc (.cells #[.int .u64 ((fs.length : Int) + 1), .int .u64 1, .int .u64 2, .string dd, .int .u64 0, .int .i64 0, .int .i64 0, .int .i64 0, .bool false] 69)) (by decide) Y (by simpa using hm) rfl))
    clear hown7 hgrow7 hat7 hlt7 p0 p1 p2 p3 p4 HW6 HW5 HPk
    have p0 : w7.cell? ⟨Y, 0, none⟩ = some (.int .u64 ((fs.length : Int) + 1)) := HPk7.out.cell 0
    have p1 : w7.cell? ⟨Y, 1, none⟩ = some (.int .u64 1) := HPk7.out.cell 1
    have p2 : w7.cell? ⟨Y, 2, none⟩ = some (.int .u64 2) := HPk7.out.cell 2
    have p3 : w7.cell? ⟨Y, 3, none⟩ = some (.string dd) := HPk7.out.cell 3
    have p4 : w7.cell? ⟨Y, 4, none⟩ = some (.int .u64 0) := HPk7.out.cell 4
    go_wp2_with fail
    have hin : Calls Tryd.prog 17 #[.agg #[.int .u64 ((fs.length : Int) + 1), .int .u64 1, .int .u64 2, .string dd, .int .u64 0]] w7 _ := inp_is ⟨(fs.length : Int) + 1, 1, 2, dd, 0⟩ w7 ⟨⟨by show 0 ≤ (fs.length : Int) + 1; omega, by show (fs.length : Int) + 1 ≤ _; omega⟩, ⟨by show (0 : Int) ≤ 1; omega, by show (1 : Int) ≤ _; omega⟩, ⟨by show (0 : Int) ≤ 2; omega, by show (2 : Int) ≤ _; omega⟩, ⟨by show 0 ≤ 0; omega, by show 0 ≤ _; omega⟩, by show dd.size ≤ _; omega⟩
    refine hin.mono ?_
    clear hin
    rintro e w8 ⟨rfl, hb8⟩
    have HW8 := Lib.hid (HW7.out.below hb8)
    clear hb8 HW7 HPk7 p0 p1 p2 p3 p4
    generalize (ByteArray.mk (Pk.inp ⟨(fs.length : Int) + 1, 1, 2, dd, 0⟩).toArray) = sx
    have HW9 := Lib.hid (HW8.out.below (balloc (Below.refl _ w8) (.cells #[.string sx] 9)))
    have hsz8 := HW8.out.bel.size
    go_wp2_with (at_builtin; refine wpList_append_lies _ rfl _ _ 30 rfl w.heap.size 9 i1 (.string ⟨#[]⟩) 1 16 Tryd.underlying30 HIs.out.1 HIs.out.2.1 HIs.out.2.2.1 HIs.out.2.2.2 rfl (by decide) _ _ _ rfl HW9.out.rows ⟨w8.heap.size, 0, none⟩ 1 1 [.string sx] rfl rfl ?d1 ?d2 (by decide) ?d3 ?d4 ?d5 _ rfl ?_)
    case d1 => exact World.news_of_block (heap_alloc_new w8 _)
    case d2 => intro x hx; simp at hx; subst hx; rfl
    case d3 => unfold maxLen; omega
    case d4 => omega
    case d5 => simp; omega
    intro g9 cap9 w9 hown9 hgrow9 hat9 hlt9
    have HWz := Lib.hid (HW9.out.growS hgrow9 (push_s hown9))
    clear hown9 hgrow9 hat9 hlt9 HW9 HW8
    go_wp2_with fail
    exact Handed.intro (80 - (j + 1)) (by rw [HK.out]; omega) (hJ _ _ _ ⟨rfl, rfl, rfl, rfl, rfl, rfl, j + 1, _, _, _, _, _, _, m + 1, n, by omega, rfl, congrArg (Value.int .i64) (show (j : Int) + 1 = ((j + 1 : Nat) : Int) by omega), rfl, rfl, by rw [List.length_append, List.length_singleton]; omega, by omega, by omega, HIz.out, HWz.out⟩)
end Go.Proofs.YtpekbnkmnellpaaDoor
