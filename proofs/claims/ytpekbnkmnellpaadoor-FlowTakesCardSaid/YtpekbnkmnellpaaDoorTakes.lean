/-
  The walk of FlowTakes.
-/
import Derived.Test.YtpekbnkmnellpaaDoorTakesP
import Derived.Deep.DeepCutAuto
namespace Go.Proofs.YtpekbnkmnellpaaDoor
open Go.RowKit Go.Maps
set_option linter.unusedVariables false

set_option maxRecDepth 100000 in
set_option maxHeartbeats 1000000 in
theorem takes_walk (w : World) (G : Glob w) (o : Bool) (V1 : Value) (l1 : List Int) (V2 : Value) (l2 : List Int) (h : Int) (A1 : IntsAt w V1 l1) (A2 : IntsAt w V2 l2) (hh : u64r h) :
    Calls Tryd.prog 4 #[.bool o, V1, V2, .int .u64 h] w fun e w' => e = .returned (.bool true) ∧ Below w.heap.size w w' := by
  obtain ⟨v1, c1, rfl, m1, hc1⟩ := A1
  obtain ⟨v2, c2, rfl, m2, hc2⟩ := A2
  have HC1 := Lib.hid hc1
  have HC2 := Lib.hid hc2
  have HG := Lib.hid G
  have h2w := G.two
  clear G hc1 hc2
  go_enter Tryd.func4, Tryd.ntmps4
  go_wp2_with fail
  refine (awake_ok w HG.out).mono ?_
  rintro e w1 ⟨rfl, hb1⟩
  have HL1 := Lib.hid hb1
  have HG1 := Lib.hid (HG.out.below hb1 HG.out.two)
  clear hb1 HG
  go_wp2_with fail
  refine (newflow_is o w1).mono ?_
  rintro e w2 ⟨rfl, hf2, hb2, hs2⟩
  have HT := Lib.hid (takes_start o w w1 w2 _ HG1.out HL1.out hb2 hf2)
  have HBl : Hid (∀ x ∈ (FB.mk (w1.heap.size + 3) w1.heap.size (w1.heap.size + 1) (w1.heap.size + 2)).l, w.heap.size ≤ x ∧ x < w1.heap.size + 4) := Lib.hid (by intro x hx; have := HL1.out.size; simp [FB.l] at hx; omega)
  have HN : Hid (w2.heap.size = w1.heap.size + 4) := Lib.hid hs2
  have hNw : w.heap.size ≤ w1.heap.size := HL1.out.size
  go_wp2_with fail
  clear hf2 hb2
  rw [HN.out] at HT
  clear hs2 HN
  have HT2 : Hid (TakesRel o w ⟨w1.heap.size + 3, w1.heap.size, w1.heap.size + 1, w1.heap.size + 2⟩ (w1.heap.size + 4) 40 (.int .u64 1) (.int .i64 0) (w2.alloc (.cells (cmA fun _ => false) 35))) := Lib.hid ⟨0, fun _ => false, 1, by omega, rfl, rfl, rfl, by omega, by omega, HT.out⟩
  clear HT HL1 HG1
  generalize w1.heap.size = N at HBl hNw HT2 ⊢
  go_loopg [12, 13] 40 (fun c nx i wr => TakesRel o w ⟨N + 3, N, N + 1, N + 2⟩ (N + 4) c nx i wr)
  case atStart => exact HT2.out
  case round =>
    clear HT2
    obtain ⟨j, CM, x, hj, hk, rfl, rfl, hx1, hx2, hR⟩ := hrel
    have HK := Lib.hid hk
    have HR := Lib.hid hR
    clear hk hR
    by_cases hlt : j < l1.length ∧ j < l2.length ∧ j < 40
    · obtain ⟨hj1, hj2, hj3⟩ := hlt
      obtain ⟨b1, o1, rfl, hb1, hcell1, hz1, hz1'⟩ := HC1.out j hj1
      obtain ⟨b2, o2, rfl, hb2, hcell2, hz2, hz2'⟩ := HC2.out j hj2
      obtain ⟨z1, hzz1⟩ : ∃ z, l1[j] = z := ⟨_, rfl⟩
      obtain ⟨z2, hzz2⟩ : ∃ z, l2[j] = z := ⟨_, rfl⟩
      rw [hzz1] at hcell1 hz1 hz1'
      rw [hzz2] at hcell2 hz2 hz2'
      have hd1 : wr.cell? ⟨b1, o1 + j, none⟩ = some (.int .i64 z1) := (HR.out.bel.cell (p := ⟨b1, o1 + j, none⟩) hb1).trans hcell1
      have hd2 : wr.cell? ⟨b2, o2 + j, none⟩ = some (.int .i64 z2) := (HR.out.bel.cell (p := ⟨b2, o2 + j, none⟩) hb2).trans hcell2
      clear hzz1 hzz2 hcell1 hcell2
      go_wp2_with fail
      refine (pick_is z1 20 wr hz1 hz1' (by omega) (by omega)).mono ?_
      rintro e wr' ⟨rfl, rfl⟩
      have hs := pickI_r z1 20 (by omega)
      generalize pickI z1 20 = s1 at hs ⊢
      go_wp2_with fail
      refine (pick_is z2 3 wr hz2 hz2' (by omega) (by omega)).mono ?_
      rintro e wr' ⟨rfl, rfl⟩
      generalize pickI z2 3 = t3
      go_upto_if 59 with fail
      go_cut [14] (fun s wx => ∃ sx : Nat, s = .int .i64 sx ∧ sx < 20 ∧ wr = wx)
      case first =>
        by_cases h3 : t3 = 0
        · go_wp2_with fail
          all_goals go_meet
          all_goals
            case rel => exact ⟨(min x 19).toNat, by rw [Int.toNat_of_nonneg (by omega)], by omega, rfl⟩
        -- <
        · go_wp2_with fail
          go_meet
          case rel => exact ⟨s1.toNat, by rw [Int.toNat_of_nonneg hs.1], by omega, rfl⟩
        -- >
      case rest =>
        obtain ⟨sx, rfl, hsx, rfl⟩ := hcut
        go_wp2_with fail
        refine (pick_is z2 12 wr hz2 hz2' (by omega) (by omega)).mono ?_
        rintro e wr' ⟨rfl, rfl⟩
        have htm := pickI_r z2 12 (by omega)
        generalize pickI z2 12 = tm at htm ⊢
        go_upto_region 14 with fail
        have hpB := Blk.new wr 24 #[.int .u64 sx, .int .u64 0, .int .u64 0, .string ⟨#[]⟩, .int .u64 tm]
        have hR3 := HR.out.below (balloc (Below.refl _ wr) (.cells #[.int .u64 sx, .int .u64 0, .int .u64 0, .string ⟨#[]⟩, .int .u64 tm] 24))
        have hM : N + 4 < wr.heap.size := HR.out.came.lt
        clear HR hd1 hd2
        generalize wr.alloc (.cells #[.int .u64 sx, .int .u64 0, .int .u64 0, .string ⟨#[]⟩, .int .u64 tm] 24) = w3 at hpB hR3 ⊢
        generalize wr.heap.size = M at hpB hM ⊢
        have HP := Lib.hid hpB
        have HR := Lib.hid hR3
        have p4 : w3.cell? ⟨M, 4, none⟩ = some (.int .u64 tm) := hpB.cell 4
        clear hpB hR3
        have htm0 := htm.1
        have htm1 : tm < 12 := htm.2
        clear htm hs
        have hh0 := hh.1
        have hh1 := hh.2
        go_cut [16] (fun a wx => a = .bool (lateB (tp sx tm) h) ∧ w3 = wx)
        case first =>
          -- <
          by_cases h0 : tm = 0
          · have t0 : (tm != 0) = false := by simp [h0]
            have HE : Hid (lateB (tp sx tm) h = false) := Lib.hid (by simp [lateB, tp, h0])
            clear h0
            go_wp2_with fail
            go_meet
            case rel => exact ⟨by rw [HE.out], rfl⟩
          · have t0 : (tm != 0) = true := by simp [h0]
            by_cases h1 : tm ≤ h
            · have HE : Hid (lateB (tp sx tm) h = true) := Lib.hid (by simp [lateB, tp, h0, h1])
              clear h0
              go_wp2_with fail
              go_meet
              case rel => exact ⟨by rw [HE.out], rfl⟩
            · have HE : Hid (lateB (tp sx tm) h = false) := Lib.hid (by simp [lateB, tp, h1])
              clear h0
              go_wp2_with fail
              go_meet
              case rel => exact ⟨by rw [HE.out], rfl⟩
          -- >
        case rest =>
          obtain ⟨rfl, rfl⟩ := hcut
          clear p4
          obtain ⟨late, hlate⟩ : ∃ late, lateB (tp sx tm) h = late := ⟨_, rfl⟩
          rw [hlate]
          have HLt := Lib.hid hlate
          clear hlate
          have p0 : w3.cell? ⟨M, 0, none⟩ = some (.int .u64 sx) := HP.out.cell 0
          have cc : w3.cell? ⟨N + 4, sx, none⟩ = some (.bool (CM sx)) := (HR.out.came.cell sx).trans (cmA_get CM sx hsx)
          have hsi : (sx : Int) < 20 := by omega
          obtain ⟨cm, hcm⟩ : ∃ cm, CM sx = cm := ⟨_, rfl⟩
          rw [hcm] at cc
          have HCM := Lib.hid hcm
          clear hcm
          go_upto_region 15 with fail
          go_cut [17] (fun a wx => a = .bool (mayB o late sx x cm) ∧ w3 = wx)
          case first =>
            -- <
            cases late with
            | true =>
              have HE : Hid (mayB o true sx x cm = false) := Lib.hid (by simp [mayB])
              go_wp2_with fail
              go_meet
              case rel => exact ⟨by rw [HE.out], rfl⟩
            | false =>
              cases o with
              | true =>
                by_cases h3 : (sx : Int) = x
                · have t3 : ((sx : Int) == x) = true := by simp [h3]
                  have HE : Hid (mayB true false sx x cm = true) := Lib.hid (by simp [mayB, h3])
                  clear h3
                  go_wp2_with fail
                  go_meet
                  case rel => exact ⟨by rw [HE.out], rfl⟩
                · have t3 : ((sx : Int) == x) = false := by simp [h3]
                  have HE : Hid (mayB true false sx x cm = false) := Lib.hid (by simp [mayB, h3])
                  clear h3
                  go_wp2_with fail
                  go_meet
                  case rel => exact ⟨by rw [HE.out], rfl⟩
              | false =>
                by_cases h3 : sx = 0
                · have HE : Hid (mayB false false sx x cm = false) := Lib.hid (by simp [mayB, h3])
                  have t3 : ((sx : Int) != 0) = false := by simp [h3]
                  clear h3
                  go_wp2_with fail
                  go_meet
                  case rel => exact ⟨by rw [HE.out], rfl⟩
                · have HE : Hid (mayB false false sx x cm = !cm) := Lib.hid (by simp [mayB, h3])
                  have t3 : ((sx : Int) != 0) = true := by simp; omega
                  go_wp2_with fail
                  go_meet
                  case rel => exact ⟨by rw [HE.out], rfl⟩
            -- >
          case rest =>
            obtain ⟨rfl, rfl⟩ := hcut
            clear p0 cc
            obtain ⟨may, hmay⟩ : ∃ may, mayB o late sx x cm = may := ⟨_, rfl⟩
            rw [hmay]
            have HMy := Lib.hid hmay
            clear hmay
            have HLy : Hid (TLay w ⟨N + 3, N, N + 1, N + 2⟩ (N + 4) M) := Lib.hid ⟨HBl.out, by omega, hM, h2w⟩
            have HTt : Hid ((((TS o CM x).recvCode (tp sx tm) h == 0) = may) ∧ (((TS o CM x).recvCode (tp sx tm) h == 182) = late)) := Lib.hid (by
              have := ts_tests o CM x sx tm h HR.out.inv
              rw [HLt.out, HCM.out, HMy.out] at this
              exact this)
            have HMy2 : Hid (mayB o (lateB (tp sx tm) h) sx x (CM sx) = may) := Lib.hid (by rw [HLt.out, HCM.out, HMy.out])
            obtain ⟨m, hm, hf⟩ := HR.out.flow
            have HT3 : Hid (TMid w ⟨N + 3, N, N + 1, N + 2⟩ (N + 4) M sx tm (TS o CM x) CM m w3) := Lib.hid ⟨hf, HR.out.came, HP.out, HR.out.bel, HR.out.glob⟩
            have HI := Lib.hid HR.out.inv
            clear hf HR HP HBl HLt HMy
            have p0 : w3.cell? ⟨M, 0, none⟩ = some (.int .u64 sx) := HT3.out.pk.cell 0
            have p1 : w3.cell? ⟨M, 1, none⟩ = some (.int .u64 0) := HT3.out.pk.cell 1
            have p2 : w3.cell? ⟨M, 2, none⟩ = some (.int .u64 0) := HT3.out.pk.cell 2
            have p3 : w3.cell? ⟨M, 3, none⟩ = some (.string ⟨#[]⟩) := HT3.out.pk.cell 3
            have p4 : w3.cell? ⟨M, 4, none⟩ = some (.int .u64 tm) := HT3.out.pk.cell 4
            go_wp2_with fail
            have hrec : Calls Tryd.prog 21 #[.pointer (some ⟨N + 3, 0, none⟩), .agg #[.int .u64 sx, .int .u64 0, .int .u64 0, .string ⟨#[]⟩, .int .u64 tm], .int .u64 h] w3 _ := recv_is w3 ⟨N + 3, N, N + 1, N + 2⟩ m (TS o CM x) (tp sx tm) h HT3.out.flow (tp_r sx hsx) (by unfold maxLen; omega)
            refine hrec.mono ?_
            clear hrec p0 p1 p2 p3 p4
            rintro e w4 ⟨rfl, hf4, ho4⟩
            have HT4 := Lib.hid (HT3.out.only HLy.out hf4 ho4)
            clear hf4 ho4 HT3
            have t1 := HTt.out.1
            have t2 := HTt.out.2
            generalize (TS o CM x).recvCode (tp sx tm) h = ec at t1 t2 ⊢
            cases may with
            | true =>
              obtain ⟨hy0, hy1, hy2, hy3, hy4, hy5⟩ := ts_yes o CM x sx tm h HI.out hx1 (by omega) hsx HMy2.out
              have HY1 := Lib.hid hy1
              have HY2 := Lib.hid hy2
              have HY3 := Lib.hid hy3
              have HY4 := Lib.hid hy4
              have HY5 := Lib.hid hy5
              have HY0 := Lib.hid hy0
              clear hy0 hy1 hy2 hy3 hy4 hy5
              generalize (TS o CM x).recvd (tp sx tm) h = s4 at HT4 HY1 HY2 HY3 HY4
              have cc : w4.cell? ⟨N + 4, sx, none⟩ = some (.bool (CM sx)) := (HT4.out.came.cell sx).trans (cmA_get CM sx hsx)
              have fc := HT4.out.came.frozen sx
              go_upto_region 22 with fail
              have HT5 := Lib.hid (HT4.out.store HLy.out hsx)
              clear cc fc HT4
              generalize w4.setCell ⟨N + 4, sx, none⟩ (.bool true) = w5 at HT5 ⊢
              have HC5 : Hid (upd CM sx true sx = true) := Lib.hid (upd_at _ _ _)
              have p0 : w5.cell? ⟨M, 0, none⟩ = some (.int .u64 sx) := HT5.out.pk.cell 0
              have cc : w5.cell? ⟨N + 4, sx, none⟩ = some (.bool true) := (HT5.out.came.cell sx).trans ((cmA_get _ sx hsx).trans (by rw [HC5.out]))
              go_quiet ((go_at_call 22; exact Calls.quiet_of_same ((came_is _ ⟨N + 3, N, N + 1, N + 2⟩ _ s4 sx (HT5.out.flow.drewN _) (tp_r sx hsx)).mono fun e w' ⟨h1, h2⟩ => ⟨by rw [h1, HY1.out], h2.symm⟩)))
              clear p0 cc
              have HT6 := Lib.hid (HT5.out.below (below_drewN' (Below.refl _ w5) nq))
              clear HT5
              generalize w5.drewN nq = w6 at HT6 ⊢
              have p0 : w6.cell? ⟨M, 0, none⟩ = some (.int .u64 sx) := HT6.out.pk.cell 0
              have hw1 := written_is w6 ⟨N + 3, N, N + 1, N + 2⟩ _ s4 sx HT6.out.flow (tp_r sx hsx)
              rw [HY2.out] at hw1
              simp only [Option.getD_none, Option.isSome_none] at hw1
              have HW1 := Lib.hid hw1
              clear hw1
              go_wp2_with fail
              refine HW1.out.mono ?_
              rintro e w6' ⟨rfl, rfl⟩
              clear HW1
              have hw2 : Calls Tryd.prog 24 #[.pointer (some ⟨N + 3, 0, none⟩), .int .u64 sx, .string ⟨#[97, 99, 107]⟩] w6 _ := fwrite_is w6 HT6.out.glob ⟨N + 3, N, N + 1, N + 2⟩ _ s4 sx ackT HT6.out.flow (tp_r sx hsx) (by decide) (by unfold maxLen; omega)
              rw [HY3.out, HY4.out] at hw2
              have HW2 := Lib.hid hw2
              clear hw2
              go_wp2_with fail
              refine HW2.out.mono ?_
              rintro e w7 ⟨rfl, hf7, ho7⟩
              have HT7 := Lib.hid (HT6.out.only HLy.out hf7 ho7)
              clear hf7 ho7 HT6 HW2 p0
              have p0 : w7.cell? ⟨M, 0, none⟩ = some (.int .u64 sx) := HT7.out.pk.cell 0
              have cc : w7.cell? ⟨N + 4, sx, none⟩ = some (.bool true) := (HT7.out.came.cell sx).trans ((cmA_get _ sx hsx).trans (by rw [HC5.out]))
              have hw3 := written_is w7 ⟨N + 3, N, N + 1, N + 2⟩ _ (TS o (upd CM sx true) (x + 1)) sx HT7.out.flow (tp_r sx hsx)
              rw [ts_written, HC5.out] at hw3
              simp only [if_true, Option.getD_some, Option.isSome_some] at hw3
              have HW3 := Lib.hid hw3
              clear hw3
              go_wp2_with fail
              refine HW3.out.mono ?_
              rintro e w7' ⟨rfl, rfl⟩
              clear HW3
              have ha : Calls Tryd.prog 15 #[.string ⟨#[97, 99, 107]⟩] w7 _ := answer_is ackT w7 HT7.out.glob (by decide)
              have HA := Lib.hid ha
              clear ha
              generalize ansB ackT = An at HA ⊢
              go_wp2_with fail
              refine HA.out.mono ?_
              rintro e w8 ⟨rfl, hb8⟩
              have HT8 := Lib.hid (HT7.out.below hb8)
              clear hb8 HT7 HA p0 cc
              go_wp2_with fail
              go_roundg (40 - (j + 1))
              case measure => rw [HK.out]; omega
              case rel => exact ⟨j + 1, (upd CM sx true), x + 1, by omega, rfl, by go_num, by go_num, by omega, by omega, HT8.out.rest HY5.out (by omega)⟩
            | false =>
              obtain ⟨hn1, hn2, hn3⟩ := ts_not o CM x sx tm h HI.out HMy2.out
              rw [hn1] at HT4
              have HN2 := Lib.hid hn2
              have HN3 := Lib.hid hn3
              have HNC : Hid ((TS o CM x).came sx = CM sx) := Lib.hid (ts_came o CM x sx HI.out)
              have HNW : Hid ((TS o CM x).written sx = if CM sx then some (ansB ackT) else none) := Lib.hid rfl
              clear hn1 hn2 hn3
              go_upto_region 22 with fail
              have HT5 := HT4
              clear HT4
              obtain ⟨w5, hw5⟩ : ∃ w5, w5 = w4 := ⟨_, rfl⟩
              rw [← hw5] at HT5 ⊢
              clear hw5
              cases hcs : CM sx with
              | true =>
                rw [hcs] at HN2 HNC HNW
                have HC5 := Lib.hid hcs
                clear hcs
                simp only [if_true] at HN2 HNW
                have p0 : w5.cell? ⟨M, 0, none⟩ = some (.int .u64 sx) := HT5.out.pk.cell 0
                have cc : w5.cell? ⟨N + 4, sx, none⟩ = some (.bool true) := (HT5.out.came.cell sx).trans ((cmA_get _ sx hsx).trans (by rw [HC5.out]))
                go_quiet ((go_at_call 22; exact Calls.quiet_of_same ((came_is _ ⟨N + 3, N, N + 1, N + 2⟩ _ (TS o CM x) sx (HT5.out.flow.drewN _) (tp_r sx hsx)).mono fun e w' ⟨h1, h2⟩ => ⟨by rw [h1, HNC.out], h2.symm⟩)))
                clear p0 cc
                have HT6 := Lib.hid (HT5.out.below (below_drewN' (Below.refl _ w5) nq))
                clear HT5
                generalize w5.drewN nq = w6 at HT6 ⊢
                have p0 : w6.cell? ⟨M, 0, none⟩ = some (.int .u64 sx) := HT6.out.pk.cell 0
                have hw1 := written_is w6 ⟨N + 3, N, N + 1, N + 2⟩ _ (TS o CM x) sx HT6.out.flow (tp_r sx hsx)
                rw [HNW.out] at hw1
                simp only [Option.getD_some, Option.isSome_some] at hw1
                have HW1 := Lib.hid hw1
                clear hw1
                go_wp2_with fail
                refine HW1.out.mono ?_
                rintro e w6' ⟨rfl, rfl⟩
                clear HW1
                have hw2 : Calls Tryd.prog 24 #[.pointer (some ⟨N + 3, 0, none⟩), .int .u64 sx, .string ⟨#[97, 99, 107]⟩] w6 _ := fwrite_is w6 HT6.out.glob ⟨N + 3, N, N + 1, N + 2⟩ _ (TS o CM x) sx ackT HT6.out.flow (tp_r sx hsx) (by decide) (by unfold maxLen; omega)
                rw [HN2.out, HN3.out] at hw2
                have HW2 := Lib.hid hw2
                clear hw2
                go_wp2_with fail
                refine HW2.out.mono ?_
                rintro e w7 ⟨rfl, hf7, ho7⟩
                have HT7 := Lib.hid (HT6.out.only HLy.out hf7 ho7)
                clear hf7 ho7 HT6 HW2 p0
                have p0 : w7.cell? ⟨M, 0, none⟩ = some (.int .u64 sx) := HT7.out.pk.cell 0
                have cc : w7.cell? ⟨N + 4, sx, none⟩ = some (.bool true) := (HT7.out.came.cell sx).trans ((cmA_get _ sx hsx).trans (by rw [HC5.out]))
                have hw3 := written_is w7 ⟨N + 3, N, N + 1, N + 2⟩ _ (TS o CM (x)) sx HT7.out.flow (tp_r sx hsx)
                rw [ts_written, HC5.out] at hw3
                simp only [if_true, Option.getD_some, Option.isSome_some] at hw3
                have HW3 := Lib.hid hw3
                clear hw3
                go_wp2_with fail
                refine HW3.out.mono ?_
                rintro e w7' ⟨rfl, rfl⟩
                clear HW3
                have ha : Calls Tryd.prog 15 #[.string ⟨#[97, 99, 107]⟩] w7 _ := answer_is ackT w7 HT7.out.glob (by decide)
                have HA := Lib.hid ha
                clear ha
                generalize ansB ackT = An at HA ⊢
                go_wp2_with fail
                refine HA.out.mono ?_
                rintro e w8 ⟨rfl, hb8⟩
                have HT8 := Lib.hid (HT7.out.below hb8)
                clear hb8 HT7 HA p0 cc
                go_wp2_with fail
                go_roundg (40 - (j + 1))
                case measure => rw [HK.out]; omega
                case rel => exact ⟨j + 1, CM, x, by omega, rfl, by go_num, by go_num, by omega, by omega, HT8.out.rest HI.out (by omega)⟩
              | false =>
                rw [hcs] at HN2 HNC HNW
                have HC5 := Lib.hid hcs
                clear hcs
                simp only [Bool.false_eq_true, if_false] at HN2 HNW
                have p0 : w5.cell? ⟨M, 0, none⟩ = some (.int .u64 sx) := HT5.out.pk.cell 0
                have cc : w5.cell? ⟨N + 4, sx, none⟩ = some (.bool false) := (HT5.out.came.cell sx).trans ((cmA_get _ sx hsx).trans (by rw [HC5.out]))
                go_quiet ((go_at_call 22; exact Calls.quiet_of_same ((came_is _ ⟨N + 3, N, N + 1, N + 2⟩ _ (TS o CM x) sx (HT5.out.flow.drewN _) (tp_r sx hsx)).mono fun e w' ⟨h1, h2⟩ => ⟨by rw [h1, HNC.out], h2.symm⟩)))
                clear p0 cc
                have HT6 := Lib.hid (HT5.out.below (below_drewN' (Below.refl _ w5) nq))
                clear HT5
                generalize w5.drewN nq = w6 at HT6 ⊢
                have p0 : w6.cell? ⟨M, 0, none⟩ = some (.int .u64 sx) := HT6.out.pk.cell 0
                have hw1 := written_is w6 ⟨N + 3, N, N + 1, N + 2⟩ _ (TS o CM x) sx HT6.out.flow (tp_r sx hsx)
                rw [HNW.out] at hw1
                simp only [Option.getD_none, Option.isSome_none] at hw1
                have HW1 := Lib.hid hw1
                clear hw1
                go_wp2_with fail
                refine HW1.out.mono ?_
                rintro e w6' ⟨rfl, rfl⟩
                clear HW1
                have hw2 : Calls Tryd.prog 24 #[.pointer (some ⟨N + 3, 0, none⟩), .int .u64 sx, .string ⟨#[97, 99, 107]⟩] w6 _ := fwrite_is w6 HT6.out.glob ⟨N + 3, N, N + 1, N + 2⟩ _ (TS o CM x) sx ackT HT6.out.flow (tp_r sx hsx) (by decide) (by unfold maxLen; omega)
                rw [HN2.out, HN3.out] at hw2
                have HW2 := Lib.hid hw2
                clear hw2
                go_wp2_with fail
                refine HW2.out.mono ?_
                rintro e w7 ⟨rfl, hf7, ho7⟩
                have HT7 := Lib.hid (HT6.out.only HLy.out hf7 ho7)
                clear hf7 ho7 HT6 HW2 p0
                have p0 : w7.cell? ⟨M, 0, none⟩ = some (.int .u64 sx) := HT7.out.pk.cell 0
                have cc : w7.cell? ⟨N + 4, sx, none⟩ = some (.bool false) := (HT7.out.came.cell sx).trans ((cmA_get _ sx hsx).trans (by rw [HC5.out]))
                have hw3 := written_is w7 ⟨N + 3, N, N + 1, N + 2⟩ _ (TS o CM (x)) sx HT7.out.flow (tp_r sx hsx)
                rw [ts_written, HC5.out] at hw3
                simp only [Bool.false_eq_true, if_false, Option.getD_none, Option.isSome_none] at hw3
                have HW3 := Lib.hid hw3
                clear hw3
                go_wp2_with fail
                refine HW3.out.mono ?_
                rintro e w7' ⟨rfl, rfl⟩
                clear HW3
                have HT8 := HT7
                go_wp2_with fail
                go_roundg (40 - (j + 1))
                case measure => rw [HK.out]; omega
                case rel => exact ⟨j + 1, CM, x, by omega, rfl, by go_num, by go_num, by omega, by omega, HT8.out.rest HI.out (by omega)⟩
    · clear HBl
      by_cases ha : j < l1.length
      · by_cases hb : j < l2.length
        · have hc : ¬ j < 40 := fun h => hlt ⟨ha, hb, h⟩
          clear hlt
          go_wp2_with fail
          go_ret
          exact ⟨rfl, HR.out.bel⟩
        · clear hlt
          go_wp2_with fail
          go_ret
          exact ⟨rfl, HR.out.bel⟩
      · clear hlt
        go_wp2_with fail
        go_ret
        exact ⟨rfl, HR.out.bel⟩
end Go.Proofs.YtpekbnkmnellpaaDoor
