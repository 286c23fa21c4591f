/-
  The walk of FlowOnce: heights rise.
-/
import Derived.Test.YtpekbnkmnellpaaDoorOnceC
namespace Go.Proofs.YtpekbnkmnellpaaDoor
open Go.RowKit Go.Maps
set_option linter.unusedVariables false
set_option maxRecDepth 100000 in
set_option maxHeartbeats 32000000 in
theorem once_height (w : World) (h2w : 2 ≤ w.heap.size) (o : Bool) (v1 : Option Addr) (c1 : Nat) (acts : List ActR) (A1 : ActsAt w (.slice v1 acts.length c1) acts) (N M : Nat) (K2 : Act → World → Prop) (Q2 : Exit → Act → World → Prop) (hK2 : ∀ (a : Act) (W : World), a.tmps.size = 312 → a.defers = [] → Below w.heap.size w W → K2 a W) (gk : Nat) (a0 : Act) (wr : World) (J : Nat → Act → World → Prop) (K : Act → World → Prop)
    (hJ : ∀ k a' w', OFr o w N M (.slice v1 acts.length c1) k a' w' → J k a' w') (hK : ∀ a' w', Handed J gk a' w' → K a' w')
    (hs : a0.tmps.size = 312) (hd : a0.defers = []) (e0 : a0.tmps.getD 0 undef = .bool o) (e1 : a0.tmps.getD 1 undef = .slice v1 acts.length c1) (e6 : a0.tmps.getD 6 undef = .pointer (some ⟨N + 3, 0, none⟩)) (e7 : a0.tmps.getD 7 undef = .pointer (some ⟨M + 3, 0, none⟩))
    (j : Nat) (fs : List Ft) (ss : List ByteArray) (a b : Fl) (hh last : Int) (m n : Nat) (hj : j ≤ 80) (hk : gk = 80 - j) (h12 : a0.tmps.getD 12 undef = .int .i64 j) (h10 : a0.tmps.getD 10 undef = .int .u64 hh) (h11 : a0.tmps.getD 11 undef = .int .u64 last) (hsl : ss.length ≤ j) (hmj : m ≤ j) (hnj : n ≤ j)
    (hI : OInv o j fs a b hh last) (hW : OW w ⟨N + 3, N, N + 1, N + 2⟩ ⟨M + 3, M, M + 1, M + 2⟩ (a0.tmps.getD 8 undef) (a0.tmps.getD 9 undef) fs ss a b m n wr) (hj1 : j < acts.length) (hj3 : j < 80) (t8 : Int) (ht8 : pickI acts[j].what 8 = t8) (HCls : Hid (t8 = 7)) : onceCut.c.wp Tryd.prog (Exit.then K (Exit.inBlock 0 (Exit.then K2 Q2))) a0 wr := by
  obtain ⟨v1', c1', e1', m1, hc1⟩ := A1
  cases e1'
  have HC := Lib.hid hc1
  clear hc1
  unfold onceCut
  dsimp only
  obtain ⟨u, hu, ha⟩ := frame312 a0 hs hd
  rw [hu] at e0 e1 e6 e7 h12 h10 h11
  rw [hu, hu] at hW
  rw [ha, e0, e1, e6, e7]
  clear hs hd hu ha e0 e1 e6 e7
  clear a0
  rw [h12, h10, h11]
  clear h12 h10 h11
  have HK := Lib.hid hk
  have hfl : fs.length ≤ j := hI.len
  have hh0 := hI.h0
  have hh1 := hI.h1
  have hl0 := hI.l0
  have hl1 := hI.l1
  have HI := Lib.hid hI
  clear hk hI
  obtain ⟨ao8, cp8, h8, _⟩ := hW.rowf.at_
  obtain ⟨ao9, cp9, h9⟩ := hW.rows.at_
  rw [h8, h9] at hW
  rw [h8, h9]
  clear h8 h9
  have HW := Lib.hid hW
  clear hW
  obtain ⟨q, off, rfl, hb, k0, k1, k2, k3, hok⟩ := HC.out j hj1
  have hw0 := HW.out.bel
  have d0 := (hw0.cell (p := ⟨q, off + j * 4, none⟩) hb).trans k0
  have d1 := (hw0.cell (p := ⟨q, off + j * 4 + 1, none⟩) hb).trans k1
  have d2 := (hw0.cell (p := ⟨q, off + j * 4 + 2, none⟩) hb).trans k2
  have d3 := (hw0.cell (p := ⟨q, off + j * 4 + 3, none⟩) hb).trans k3
  clear k0 k1 k2 k3 hw0
  generalize acts[j] = x at d0 d1 d2 d3 hok ht8
  obtain ⟨what, which, later, dt⟩ := x
  have ow : i64r what := hok.what
  have oh : i64r which := hok.which
  have ol : i64r later := hok.later
  have od : dt.size ≤ 140737488351232 := hok.data
  simp only at d0 d1 d2 d3 ht8
  clear hok
  go_upto_region 14 with fail
  clear d0 d1 d2 d3
  have HX := Lib.hid (Blk.new wr 48 (actC what which later dt))
  have HW3 := Lib.hid (HW.out.below (balloc (Below.refl _ wr) (.cells (actC what which later dt) 48)))
  clear HW
  change Code.wp _ _ _ _ (wr.alloc (.cells (actC what which later dt) 48))
  generalize wr.alloc (.cells (actC what which later dt) 48) = w3 at HX HW3 ⊢
  generalize wr.heap.size = X at HX ⊢
  have x0 : w3.cell? ⟨X, 0, none⟩ = some (.int .i64 what) := HX.out.cell 0
  have x1 : w3.cell? ⟨X, 1, none⟩ = some (.int .i64 which) := HX.out.cell 1
  have x2 : w3.cell? ⟨X, 2, none⟩ = some (.int .i64 later) := HX.out.cell 2
  have x3 : w3.cell? ⟨X, 3, none⟩ = some (.string dt) := HX.out.cell 3
  have HPk8 := Lib.hid (fun W => pick_is what 8 W ow.1 ow.2 (by omega) (by omega))
  have hp8 := pickI_r what 8 (by omega)
  rw [ht8] at HPk8 hp8
  clear ht8
  obtain ⟨t80, t81⟩ := hp8
  go_wp2_with fail
  refine (HPk8.out w3).mono ?_
  rintro e w3' ⟨rfl, rfl⟩
  have h7 := HCls.out
  have h2 : ¬ t8 < 2 := by omega
  have t7 : (t8 == 7) = true := by simp [h7]
  clear h7
  go_wp2_with fail
  refine (HPk8.out w3).mono ?_
  rintro e w3' ⟨rfl, rfl⟩
  go_wp2_with fail
  refine (pick_is later 3 w3 ol.1 ol.2 (by omega) (by omega)).mono ?_
  rintro e w3' ⟨rfl, rfl⟩
  have hp3 := pickI_r later 3 (by omega)
  generalize pickI later 3 = t3 at hp3 ⊢
  obtain ⟨p30, p31⟩ := hp3
  have HI1 := Lib.hid (HI.out.higher t3 p30 (by omega))
  go_wp2_with fail
  go_loopg [17] fs.length (fun c v wq => ∃ (k : Nat) (fz : List Ft), k ≤ fs.length ∧ c = fs.length - k ∧ v = .int .i64 k ∧ fz.length = fs.length ∧ OInv o (j + 1) fz a b (hh + t3) last ∧ OW w ⟨N + 3, N, N + 1, N + 2⟩ ⟨M + 3, M, M + 1, M + 2⟩ (.slice ao8 fs.length cp8) (.slice ao9 ss.length cp9) fz ss a b m n wq)
  case atStart => exact ⟨0, fs, by omega, rfl, rfl, rfl, HI1.out, HW3.out⟩
  case round =>
    clear HI1 HW3 HX x0 x1 x2 x3
    obtain ⟨k, fz, hk, hkq, rfl, hzl, hIz, hWz⟩ := hrel
    have HKq := Lib.hid hkq
    have HZl := Lib.hid hzl
    have HIz := Lib.hid hIz
    have HWz := Lib.hid hWz
    clear hkq hzl hIz hWz
    by_cases hl : k < fs.length
    · have hkz : k < fz.length := by have := HZl.out; omega
      obtain ⟨gz, ez, obz, qz, frz⟩ := HWz.out.f_at k hkz rfl
      subst ez
      have r4 := qz 4 _ rfl
      have r5 := qz 5 _ rfl
      have r8 : wr.cell? ⟨gz, k * 9 + 8, none⟩ = some (.bool fz[k].missed) := qz 8 _ rfl
      have f8 := frz (k * 9 + 8)
      have hto := HIz.out.each k hkz
      have hok := hto.ok.timeout
      obtain ⟨u0, u1⟩ := hok
      obtain ⟨tm, hto'⟩ : ∃ x, fz[k].p.timeout = x := ⟨_, rfl⟩
      obtain ⟨cz, hcz'⟩ : ∃ x, fz[k].came = x := ⟨_, rfl⟩
      rw [hto'] at r4 u0 u1
      rw [hcz'] at r5
      have HTo := Lib.hid hto'
      clear hto hto' hcz' qz frz
      have hup : ¬ fs.length ≤ k := by omega
      by_cases e0 : tm = 0
      · subst e0
        go_wp2_with fail
        go_roundg (fs.length - (k + 1))
        case measure => rw [HKq.out]; omega
        case rel => exact ⟨k + 1, fz, by omega, rfl, by go_num, HZl.out, HIz.out, HWz.out⟩
      · have b0 : (tm != 0) = true := by simp [e0]
        by_cases e1 : tm ≤ hh + t3
        · have b1 : decide (tm ≤ hh + t3) = true := by simp [e1]
          cases cz with
          | zero =>
            have HIy := Lib.hid (oi_miss HIz.out k hkz (by rw [HTo.out]; exact e0) (by rw [HTo.out]; exact e1))
            have HWy := Lib.hid (HWz.out.set_ obz k hkz 8 (by omega) (.bool true) fz[k].m rfl)
            clear e0 e1
            go_wp2_with fail
            go_roundg (fs.length - (k + 1))
            case measure => rw [HKq.out]; omega
            case rel => exact ⟨k + 1, _, by omega, rfl, by go_num, by rw [List.length_set]; exact HZl.out, HIy.out, HWy.out⟩
          | succ cy =>
            have b2 : ((((cy + 1 : Nat)) : Int) == 0) = false := by rw [beq_eq_false_iff_ne]; omega
            clear e0 e1
            go_wp2_with fail
            go_roundg (fs.length - (k + 1))
            case measure => rw [HKq.out]; omega
            case rel => exact ⟨k + 1, fz, by omega, rfl, by go_num, HZl.out, HIz.out, HWz.out⟩
        · have b1 : decide (tm ≤ hh + t3) = false := by simp; omega
          clear e0 e1
          go_wp2_with fail
          go_roundg (fs.length - (k + 1))
          case measure => rw [HKq.out]; omega
          case rel => exact ⟨k + 1, fz, by omega, rfl, by go_num, HZl.out, HIz.out, HWz.out⟩
    · have hln : ¬ (k : Int) < (fs.length : Int) := by omega
      go_wp2_with fail
      exact Handed.intro (80 - (j + 1)) (by rw [HK.out]; omega) (hJ _ _ _ ⟨rfl, rfl, rfl, rfl, rfl, rfl, j + 1, fz, ss, a, b, hh + t3, last, m, n, by omega, rfl, congrArg (Value.int .i64) (show (j : Int) + 1 = ((j + 1 : Nat) : Int) by omega), rfl, rfl, by omega, by omega, by omega, HIz.out, HWz.out⟩)
end Go.Proofs.YtpekbnkmnellpaaDoor
