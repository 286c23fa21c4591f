/-
  The walk of FlowOnce: an act of the kind 3.
-/
import Derived.Test.YtpekbnkmnellpaaDoorOnceC
namespace Go.Proofs.YtpekbnkmnellpaaDoor
open Go.RowKit Go.Maps
set_option linter.unusedVariables false
set_option maxRecDepth 100000 in
set_option maxHeartbeats 32000000 in
theorem once_three (w : World) (h2w : 2 ≤ w.heap.size) (o : Bool) (v1 : Option Addr) (c1 : Nat) (acts : List ActR) (A1 : ActsAt w (.slice v1 acts.length c1) acts) (N M : Nat) (K2 : Act → World → Prop) (Q2 : Exit → Act → World → Prop) (hK2 : ∀ (a : Act) (W : World), a.tmps.size = 312 → a.defers = [] → Below w.heap.size w W → K2 a W) (gk : Nat) (a0 : Act) (wr : World) (J : Nat → Act → World → Prop) (K : Act → World → Prop)
    (hJ : ∀ k a' w', OFr o w N M (.slice v1 acts.length c1) k a' w' → J k a' w') (hK : ∀ a' w', Handed J gk a' w' → K a' w')
    (hs : a0.tmps.size = 312) (hd : a0.defers = []) (e0 : a0.tmps.getD 0 undef = .bool o) (e1 : a0.tmps.getD 1 undef = .slice v1 acts.length c1) (e6 : a0.tmps.getD 6 undef = .pointer (some ⟨N + 3, 0, none⟩)) (e7 : a0.tmps.getD 7 undef = .pointer (some ⟨M + 3, 0, none⟩))
    (j : Nat) (fs : List Ft) (ss : List ByteArray) (a b : Fl) (hh last : Int) (m n : Nat) (hj : j ≤ 80) (hk : gk = 80 - j) (h12 : a0.tmps.getD 12 undef = .int .i64 j) (h10 : a0.tmps.getD 10 undef = .int .u64 hh) (h11 : a0.tmps.getD 11 undef = .int .u64 last) (hsl : ss.length ≤ j) (hmj : m ≤ j) (hnj : n ≤ j)
    (hI : OInv o j fs a b hh last) (hW : OW w ⟨N + 3, N, N + 1, N + 2⟩ ⟨M + 3, M, M + 1, M + 2⟩ (a0.tmps.getD 8 undef) (a0.tmps.getD 9 undef) fs ss a b m n wr) (hj1 : j < acts.length) (hj3 : j < 80) (t8 : Int) (ht8 : pickI acts[j].what 8 = t8) (HCls : Hid (t8 = 3)) : onceCut.c.wp Tryd.prog (Exit.then K (Exit.inBlock 0 (Exit.then K2 Q2))) a0 wr := by
  obtain ⟨v1', c1', e1', m1, hc1⟩ := A1
  cases e1'
  have HC := Lib.hid hc1
  clear hc1
  unfold onceCut
  dsimp only
  obtain ⟨u, hu, ha⟩ := frame312 a0 hs hd
  rw [hu] at e0 e1 e6 e7 h12 h10 h11
  rw [hu, hu] at hW
  rw [ha, e0, e1, e6, e7]
  clear hs hd hu ha e0 e1 e6 e7
  clear a0
  rw [h12, h10, h11]
  clear h12 h10 h11
  have HK := Lib.hid hk
  have hfl : fs.length ≤ j := hI.len
  have hh0 := hI.h0
  have hh1 := hI.h1
  have hl0 := hI.l0
  have hl1 := hI.l1
  have HI := Lib.hid hI
  clear hk hI
  obtain ⟨ao8, cp8, h8, _⟩ := hW.rowf.at_
  obtain ⟨ao9, cp9, h9⟩ := hW.rows.at_
  rw [h8, h9] at hW
  rw [h8, h9]
  clear h8 h9
  have HW := Lib.hid hW
  clear hW
  obtain ⟨q, off, rfl, hb, k0, k1, k2, k3, hok⟩ := HC.out j hj1
  have hw0 := HW.out.bel
  have d0 := (hw0.cell (p := ⟨q, off + j * 4, none⟩) hb).trans k0
  have d1 := (hw0.cell (p := ⟨q, off + j * 4 + 1, none⟩) hb).trans k1
  have d2 := (hw0.cell (p := ⟨q, off + j * 4 + 2, none⟩) hb).trans k2
  have d3 := (hw0.cell (p := ⟨q, off + j * 4 + 3, none⟩) hb).trans k3
  clear k0 k1 k2 k3 hw0
  generalize acts[j] = x at d0 d1 d2 d3 hok ht8
  obtain ⟨what, which, later, dt⟩ := x
  have ow : i64r what := hok.what
  have oh : i64r which := hok.which
  have ol : i64r later := hok.later
  have od : dt.size ≤ 140737488351232 := hok.data
  simp only at d0 d1 d2 d3 ht8
  clear hok
  go_upto_region 14 with fail
  clear d0 d1 d2 d3
  have HX := Lib.hid (Blk.new wr 48 (actC what which later dt))
  have HW3 := Lib.hid (HW.out.below (balloc (Below.refl _ wr) (.cells (actC what which later dt) 48)))
  clear HW
  change Code.wp _ _ _ _ (wr.alloc (.cells (actC what which later dt) 48))
  generalize wr.alloc (.cells (actC what which later dt) 48) = w3 at HX HW3 ⊢
  generalize wr.heap.size = X at HX ⊢
  have x0 : w3.cell? ⟨X, 0, none⟩ = some (.int .i64 what) := HX.out.cell 0
  have x1 : w3.cell? ⟨X, 1, none⟩ = some (.int .i64 which) := HX.out.cell 1
  have x2 : w3.cell? ⟨X, 2, none⟩ = some (.int .i64 later) := HX.out.cell 2
  have x3 : w3.cell? ⟨X, 3, none⟩ = some (.string dt) := HX.out.cell 3
  have HPk8 := Lib.hid (fun W => pick_is what 8 W ow.1 ow.2 (by omega) (by omega))
  have hp8 := pickI_r what 8 (by omega)
  rw [ht8] at HPk8 hp8
  clear ht8
  obtain ⟨t80, t81⟩ := hp8
  go_wp2_with fail
  refine (HPk8.out w3).mono ?_
  rintro e w3' ⟨rfl, rfl⟩
  have h7 : ¬ t8 = 7 := by have := HCls.out; omega
  have h2 : ¬ t8 < 2 := by have := HCls.out; omega
  have t7 : (t8 == 7) = false := by simp [h7]
  go_wp2_with fail
  refine (HPk8.out w3).mono ?_
  rintro e w3' ⟨rfl, rfl⟩
  by_cases hz : fs.length = 0
  · have tz : ((fs.length : Int) == 0) = true := by simp [hz]
    clear hz h7
    go_wp2_with fail
    exact Handed.intro (80 - (j + 1)) (by rw [HK.out]; omega) (hJ _ _ _ ⟨rfl, rfl, rfl, rfl, rfl, rfl, j + 1, fs, ss, a, b, hh, last, m, n, by omega, rfl, congrArg (Value.int .i64) (show (j : Int) + 1 = ((j + 1 : Nat) : Int) by omega), rfl, rfl, by omega, by omega, by omega, HI.out.mono, HW3.out⟩)
  · have tz : ((fs.length : Int) == 0) = false := by rw [beq_eq_false_iff_ne]; omega
    have hz0 : 0 < fs.length := by omega
    clear hz
    go_wp2_with fail
    refine (pick_is which fs.length w3 oh.1 oh.2 (by omega) (by omega)).mono ?_
    rintro e w3' ⟨rfl, rfl⟩
    have hpk := pickI_r which fs.length (by omega)
    generalize pickI which fs.length = kk at hpk ⊢
    obtain ⟨k, rfl⟩ : ∃ k : Nat, kk = k := ⟨kk.toNat, by omega⟩
    have hk : k < fs.length := by omega
    clear hpk
    obtain ⟨g1, e1, ob1, q9, fr9⟩ := HW3.out.f_at k hk rfl
    subst e1
    have r0 : w3.cell? ⟨g1, k * 9, none⟩ = some (.int .u64 fs[k].p.seq) := q9 0 _ rfl
    have r1 := q9 1 _ rfl
    have r2 := q9 2 _ rfl
    have r3 := q9 3 _ rfl
    have r4 := q9 4 _ rfl
    have HPo := Lib.hid (HI.out.each k hk).ok
    obtain ⟨pp, hpp⟩ : ∃ x, fs[k].p = x := ⟨_, rfl⟩
    rw [hpp] at r0 r1 r2 r3 r4 HPo
    have HPP := Lib.hid hpp
    clear hpp q9 fr9
    obtain ⟨sq, sr, ds, da, tm⟩ := pp
    simp only at r0 r1 r2 r3 r4
    have hkI : (k : Int) < (fs.length : Int) := by omega
    go_upto_region 33 with fail
    have HW5 := Lib.hid (HW3.out.below (balloc (Below.refl _ w3) (.cells #[.int .u64 sq, .int .u64 sr, .int .u64 ds, .string da, .int .u64 tm] 24)))
    have HY := Lib.hid (Blk.new w3 24 #[.int .u64 sq, .int .u64 sr, .int .u64 ds, .string da, .int .u64 tm])
    have HX5 := Lib.hid (HX.out.alloc (.cells #[.int .u64 sq, .int .u64 sr, .int .u64 ds, .string da, .int .u64 tm] 24))
    clear HW3 HX x0 x1 x2 x3 r0 r1 r2 r3 r4
    generalize w3.alloc (.cells #[.int .u64 sq, .int .u64 sr, .int .u64 ds, .string da, .int .u64 tm] 24) = w5 at HW5 HY HX5 ⊢
    generalize w3.heap.size = Y at HY ⊢
    have x0 : w5.cell? ⟨X, 0, none⟩ = some (.int .i64 what) := HX5.out.cell 0
    have y0 : w5.cell? ⟨Y, 0, none⟩ = some (.int .u64 sq) := HY.out.cell 0
    have y1 : w5.cell? ⟨Y, 1, none⟩ = some (.int .u64 sr) := HY.out.cell 1
    have y2 : w5.cell? ⟨Y, 2, none⟩ = some (.int .u64 ds) := HY.out.cell 2
    have y3 : w5.cell? ⟨Y, 3, none⟩ = some (.string da) := HY.out.cell 3
    have y4 : w5.cell? ⟨Y, 4, none⟩ = some (.int .u64 tm) := HY.out.cell 4
    go_wp2_with fail
    refine (HPk8.out w5).mono ?_
    rintro e w5' ⟨rfl, rfl⟩
    clear x0 HX5 HPk8
    clear t7 h7 h2 t80 t81
    obtain rfl := HCls.out
    clear HCls
    go_wp2_with fail
    obtain ⟨rc, hrc⟩ : ∃ x, b.recvCode ⟨sq, sr, ds, da, tm⟩ hh = x := ⟨_, rfl⟩
    have hrv : Calls Tryd.prog 21 #[.pointer (some ⟨M + 3, 0, none⟩), .agg #[.int .u64 sq, .int .u64 sr, .int .u64 ds, .string da, .int .u64 tm], .int .u64 hh] w5 _ := recv_is w5 ⟨M + 3, M, M + 1, M + 2⟩ n b ⟨sq, sr, ds, da, tm⟩ hh HW5.out.fb HPo.out.seq (by unfold maxLen; omega)
    rw [hrc] at hrv
    have HRc := Lib.hid hrc
    clear hrc
    refine hrv.mono ?_
    clear hrv
    rintro e w6 ⟨rfl, hf6, ho6⟩
    have HW6 := Lib.hid (HW5.out.onlyB hf6 ho6)
    have HY6 := Lib.hid (HY.out.only ho6 (HW5.out.fb.apart HY.out (by decide)))
    clear hf6 ho6 HW5 HY y0 y1 y2 y3 y4
    by_cases hc : rc = 0
    · subst hc
      have hoi := oi_recv HI.out (by omega) k hk (by rw [HPP.out]; exact HRc.out)
      rw [HPP.out] at hoi
      obtain ⟨i1, i2, i3, i4⟩ := hoi
      have HIz := Lib.hid i4
      have HI3 := Lib.hid i3
      have HTz : Hid (fs[k].c.timed = 0) := Lib.hid i2
      have HSet : Hid ((fs.set k fs[k].c)[k]? = some fs[k].c) := Lib.hid (by simp [hk])
      clear i1 i2 i3 i4
      generalize hfc : fs[k].c = fc at HTz HSet
      obtain ⟨g1', e1', ob6, q9, fr9⟩ := HW6.out.f_at k hk rfl
      cases e1'
      have s5 : w6.cell? ⟨g1, k * 9 + 5, none⟩ = some (.int .i64 ((fs[k].came : Nat) : Int)) := q9 5 _ rfl
      have f5 := fr9 (k * 9 + 5)
      obtain ⟨fv, hfv⟩ : ∃ x, fs[k].came = x := ⟨_, rfl⟩
      have hfb : fv ≤ 1 := by rw [← hfv]; have h1 := (HI.out.each k hk).c1; have h2 := (HI.out.each k hk).at1; omega
      have hwz := HW6.out.set_ ob6 k hk 5 (by omega) (.int .i64 ((fs[k].came : Int) + 1)) fs[k].c (by simp [ftC, Ft.c])
      have hyz := HW6.out.blk_set ob6 HY6.out (by decide) (k * 9 + 5) (.int .i64 ((fs[k].came : Int) + 1))
      rw [hfv] at s5 hwz hyz
      have HWz := Lib.hid hwz
      have HYz := Lib.hid hyz
      have HZl : Hid ((fs.set k fs[k].c).length = fs.length) := Lib.hid (by simp)
      clear hwz hyz q9 fr9 hfv
      rw [← hfc] at HSet HTz
      clear hfc
      generalize fs.set k fs[k].c = fz at HIz HWz HZl HSet
      have HTm : Hid (∀ h : k < fz.length, fz[k].timed = 0) := Lib.hid (fun h => by have := HSet.out; rw [List.getElem?_eq_getElem h] at this; have := Option.some.inj this; rw [this]; exact HTz.out)
      clear HSet HTz
      go_upto_region 40 with fail
      clear s5 f5
      generalize (w6.setCell ⟨g1, k * 9 + 5, none⟩ (.int .i64 ((fv : Int) + 1))) = wz at HWz HYz ⊢
      clear HW6 HY6
      have hkz0 : k < fz.length := by have := HZl.out; omega
      obtain ⟨gz, ez, obz, qz, frz⟩ := HWz.out.f_at k hkz0 rfl
      cases ez
      have s7 : wz.cell? ⟨g1, k * 9 + 7, none⟩ = some (.int .i64 ((fz[k].timed : Nat) : Int)) := qz 7 _ rfl
      rw [HTm.out hkz0] at s7
      change _ = some (Value.int .i64 0) at s7
      have y0 : wz.cell? ⟨Y, 0, none⟩ = some (.int .u64 sq) := HYz.out.cell 0
      clear qz frz obz
      cases o with
      | true =>
        have hq : (sq != last + 1) = false := by rw [HI3.out rfl]; simp
        go_upto_region 53 with fail
        clear s7 y0 hq
        have hkz : k < fz.length := by have := HZl.out; omega
        obtain ⟨gz, ez, obz, qz, frz⟩ := HWz.out.f_at k hkz rfl
        cases ez
        have r5 : wz.cell? ⟨g1, k * 9 + 5, none⟩ = some (.int .i64 ((fz[k].came : Nat) : Int)) := qz 5 _ rfl
        have r6 : wz.cell? ⟨g1, k * 9 + 6, none⟩ = some (.int .i64 ((fz[k].acked : Nat) : Int)) := qz 6 _ rfl
        have r7 : wz.cell? ⟨g1, k * 9 + 7, none⟩ = some (.int .i64 ((fz[k].timed : Nat) : Int)) := qz 7 _ rfl
        have hez := HIz.out.each k hkz
        have hc1 := hez.c1
        have hat := hez.at1
        have htm : 0 < fz[k].timed → fz[k].came = 0 := fun h => (hez.tim h).2
        clear hez qz frz
        generalize fz[k].came = cz at r5 hc1 htm
        generalize fz[k].acked = az at r6 hat
        generalize fz[k].timed = tz at r7 hat htm
        by_cases htz : tz = 0
        · subst htz
          clear htm
          have e1 : decide ((1 : Int) < (cz : Int)) = false := by simp; omega
          have e2 : decide ((1 : Int) < (az : Int) + ((0 : Nat) : Int)) = false := by simp; omega
          have e3 : decide ((1 : Int) < (az : Int)) = false := by simp; omega
          go_upto_region 53 with fail
          go_quiet (fail)
          go_wp2_with fail
          exact Handed.intro (80 - (j + 1)) (by rw [HK.out]; omega) (hJ _ _ _ ⟨rfl, rfl, rfl, rfl, rfl, rfl, j + 1, fz, ss, _, _, hh, _, m, (n + 1), by omega, rfl, congrArg (Value.int .i64) (show (j : Int) + 1 = ((j + 1 : Nat) : Int) by omega), rfl, rfl, by omega, by omega, by omega, HIz.out.mono, HWz.out.below (below_drewN' (Below.refl _ _) nq)⟩)
        · have htz1 : tz = 1 := by omega
          have haz : az = 0 := by omega
          have hcz : cz = 0 := htm (by omega)
          subst htz1 haz hcz
          clear htz htm hat hc1
          go_upto_region 53 with fail
          go_quiet (fail)
          go_wp2_with fail
          exact Handed.intro (80 - (j + 1)) (by rw [HK.out]; omega) (hJ _ _ _ ⟨rfl, rfl, rfl, rfl, rfl, rfl, j + 1, fz, ss, _, _, hh, _, m, (n + 1), by omega, rfl, congrArg (Value.int .i64) (show (j : Int) + 1 = ((j + 1 : Nat) : Int) by omega), rfl, rfl, by omega, by omega, by omega, HIz.out.mono, HWz.out.below (below_drewN' (Below.refl _ _) nq)⟩)
      | false =>
        go_upto_region 53 with fail
        clear s7 y0
        have hkz : k < fz.length := by have := HZl.out; omega
        obtain ⟨gz, ez, obz, qz, frz⟩ := HWz.out.f_at k hkz rfl
        cases ez
        have r5 : wz.cell? ⟨g1, k * 9 + 5, none⟩ = some (.int .i64 ((fz[k].came : Nat) : Int)) := qz 5 _ rfl
        have r6 : wz.cell? ⟨g1, k * 9 + 6, none⟩ = some (.int .i64 ((fz[k].acked : Nat) : Int)) := qz 6 _ rfl
        have r7 : wz.cell? ⟨g1, k * 9 + 7, none⟩ = some (.int .i64 ((fz[k].timed : Nat) : Int)) := qz 7 _ rfl
        have hez := HIz.out.each k hkz
        have hc1 := hez.c1
        have hat := hez.at1
        have htm : 0 < fz[k].timed → fz[k].came = 0 := fun h => (hez.tim h).2
        clear hez qz frz
        generalize fz[k].came = cz at r5 hc1 htm
        generalize fz[k].acked = az at r6 hat
        generalize fz[k].timed = tz at r7 hat htm
        by_cases htz : tz = 0
        · subst htz
          clear htm
          have e1 : decide ((1 : Int) < (cz : Int)) = false := by simp; omega
          have e2 : decide ((1 : Int) < (az : Int) + ((0 : Nat) : Int)) = false := by simp; omega
          have e3 : decide ((1 : Int) < (az : Int)) = false := by simp; omega
          go_upto_region 53 with fail
          go_quiet (fail)
          go_wp2_with fail
          exact Handed.intro (80 - (j + 1)) (by rw [HK.out]; omega) (hJ _ _ _ ⟨rfl, rfl, rfl, rfl, rfl, rfl, j + 1, fz, ss, _, _, hh, _, m, (n + 1), by omega, rfl, congrArg (Value.int .i64) (show (j : Int) + 1 = ((j + 1 : Nat) : Int) by omega), rfl, rfl, by omega, by omega, by omega, HIz.out.mono, HWz.out.below (below_drewN' (Below.refl _ _) nq)⟩)
        · have htz1 : tz = 1 := by omega
          have haz : az = 0 := by omega
          have hcz : cz = 0 := htm (by omega)
          subst htz1 haz hcz
          clear htz htm hat hc1
          go_upto_region 53 with fail
          go_quiet (fail)
          go_wp2_with fail
          exact Handed.intro (80 - (j + 1)) (by rw [HK.out]; omega) (hJ _ _ _ ⟨rfl, rfl, rfl, rfl, rfl, rfl, j + 1, fz, ss, _, _, hh, _, m, (n + 1), by omega, rfl, congrArg (Value.int .i64) (show (j : Int) + 1 = ((j + 1 : Nat) : Int) by omega), rfl, rfl, by omega, by omega, by omega, HIz.out.mono, HWz.out.below (below_drewN' (Below.refl _ _) nq)⟩)
    · have tc : (rc == 0) = false := by simp [hc]
      have hno : b.recvd ⟨sq, sr, ds, da, tm⟩ hh = b := oi_recv_no (by rw [HRc.out]; exact hc)
      rw [hno] at HW6
      clear hno hc
      have HWz := HW6
      have HIz := HI
      have HZl : Hid (fs.length = fs.length) := Lib.hid rfl
      have hkz : k < fs.length := by have := HZl.out; omega
      obtain ⟨gz, ez, obz, qz, frz⟩ := HWz.out.f_at k hkz rfl
      cases ez
      have r5 : w6.cell? ⟨g1, k * 9 + 5, none⟩ = some (.int .i64 ((fs[k].came : Nat) : Int)) := qz 5 _ rfl
      have r6 : w6.cell? ⟨g1, k * 9 + 6, none⟩ = some (.int .i64 ((fs[k].acked : Nat) : Int)) := qz 6 _ rfl
      have r7 : w6.cell? ⟨g1, k * 9 + 7, none⟩ = some (.int .i64 ((fs[k].timed : Nat) : Int)) := qz 7 _ rfl
      have hez := HIz.out.each k hkz
      have hc1 := hez.c1
      have hat := hez.at1
      have htm : 0 < fs[k].timed → fs[k].came = 0 := fun h => (hez.tim h).2
      clear hez qz frz
      generalize fs[k].came = cz at r5 hc1 htm
      generalize fs[k].acked = az at r6 hat
      generalize fs[k].timed = tz at r7 hat htm
      by_cases htz : tz = 0
      · subst htz
        clear htm
        have e1 : decide ((1 : Int) < (cz : Int)) = false := by simp; omega
        have e2 : decide ((1 : Int) < (az : Int) + ((0 : Nat) : Int)) = false := by simp; omega
        have e3 : decide ((1 : Int) < (az : Int)) = false := by simp; omega
        go_upto_region 53 with fail
        go_quiet (fail)
        go_wp2_with fail
        exact Handed.intro (80 - (j + 1)) (by rw [HK.out]; omega) (hJ _ _ _ ⟨rfl, rfl, rfl, rfl, rfl, rfl, j + 1, fs, ss, _, _, hh, _, m, (n + 1), by omega, rfl, congrArg (Value.int .i64) (show (j : Int) + 1 = ((j + 1 : Nat) : Int) by omega), rfl, rfl, by omega, by omega, by omega, HIz.out.mono, HWz.out.below (below_drewN' (Below.refl _ _) nq)⟩)
      · have htz1 : tz = 1 := by omega
        have haz : az = 0 := by omega
        have hcz : cz = 0 := htm (by omega)
        subst htz1 haz hcz
        clear htz htm hat hc1
        go_upto_region 53 with fail
        go_quiet (fail)
        go_wp2_with fail
        exact Handed.intro (80 - (j + 1)) (by rw [HK.out]; omega) (hJ _ _ _ ⟨rfl, rfl, rfl, rfl, rfl, rfl, j + 1, fs, ss, _, _, hh, _, m, (n + 1), by omega, rfl, congrArg (Value.int .i64) (show (j : Int) + 1 = ((j + 1 : Nat) : Int) by omega), rfl, rfl, by omega, by omega, by omega, HIz.out.mono, HWz.out.below (below_drewN' (Below.refl _ _) nq)⟩)
end Go.Proofs.YtpekbnkmnellpaaDoor
