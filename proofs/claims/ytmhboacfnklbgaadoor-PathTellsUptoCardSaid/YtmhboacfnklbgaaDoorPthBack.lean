/-
  The walks of PathBack and PathOthers.
-/
import Derived.Test.YtmhboacfnklbgaaDoorPthAwake
namespace Go.Proofs.YtmhboacfnklbgaaDoor
open Go.RowKit
set_option linter.unusedVariables false

section
variable {w w' : World} {g : Nat} {t : TypeId} {cs : Array Value}
theorem Blk.below (h : Blk w g t cs) (hb : Below w.heap.size w w') : Blk w' g t cs := (hb.block g h.lt).trans h
theorem Blk.alloc (h : Blk w g t cs) (o : Obj) : Blk (w.alloc o) g t cs := (Below.heap_alloc w o g h.lt).trans h
theorem Blk.three {x y z : Value} (h : Blk w g t #[x, y, z]) : w.cell? ⟨g, 0, none⟩ = some x ∧ w.cell? ⟨g, 1, none⟩ = some y ∧ w.cell? ⟨g, 2, none⟩ = some z ∧ g < w.heap.size := ⟨h.cell 0, h.cell 1, h.cell 2, h.lt⟩
theorem Blk.new1 (w : World) (o : Obj) (t : TypeId) (cs : Array Value) : Blk ((w.alloc o).alloc (.cells cs t)) (w.heap.size + 1) t cs := by
  have := Blk.new (w.alloc o) t cs
  simpa using this
end

theorem eq_texts {k1 a1 d1 k2 a2 d2 : Nat} (R1 : Pth.Right k1 a1 d1) (R2 : Pth.Right k2 a2 d2) : (Pth.text k1 a1 d1 == Pth.text k2 a2 d2) = (((k1 : Int) == k2) && ((a1 : Int) == a2) && ((d1 : Int) == d2)) := by
  rw [Bool.eq_iff_iff]
  simp only [beq_iff_eq, Bool.and_eq_true]
  constructor
  · intro h
    obtain ⟨rfl, rfl, rfl⟩ := Pth.text_inj R1 R2 h
    exact ⟨⟨rfl, rfl⟩, rfl⟩
  · rintro ⟨⟨e1, e2⟩, e3⟩
    have : k1 = k2 := by omega
    have : a1 = a2 := by omega
    have : d1 = d2 := by omega
    subst_vars
    rfl

set_option maxRecDepth 100000 in
set_option maxHeartbeats 1000000 in
theorem back_core (c1 c2 : Int) (a1 b1 a2 b2 k1 d1 k2 d2 : Nat) (X Y : List UInt8) (w : World) (G : Glob w) (h0 : -9223372036854775808 ≤ c1) (h1 : c1 ≤ 9223372036854775807) (g0 : -9223372036854775808 ≤ c2) (g1 : c2 ≤ 9223372036854775807)
    (hk1 : Hid (1 + pickN c1 8 = k1)) (hd1 : Hid (fitB k1 b1 = d1)) (hk2 : Hid (1 + pickN c2 8 = k2)) (hd2 : Hid (fitB k2 b2 = d2)) (R1 : Hid (Pth.Right k1 a1 d1)) (R2 : Hid (Pth.Right k2 a2 d2)) (HX : Hid (Pth.text k1 a1 d1 = X)) (HY : Hid (Pth.text k2 a2 d2 = Y)) :
    Calls Tryd.prog 4 #[.agg #[.int .i64 c1, .int .u64 a1, .int .u64 b1], .agg #[.int .i64 c2, .int .u64 a2, .int .u64 b2]] w fun e w' => e = .returned (.bool true) ∧ Below w.heap.size w w' := by
  have f1 := fun W => fit_is c1 a1 b1 h0 h1 W
  have f2 := fun W => fit_is c2 a2 b2 g0 g1 W
  rw [hk1.out, hd1.out] at f1
  rw [hk2.out, hd2.out] at f2
  have F1 := Lib.hid f1
  have F2 := Lib.hid f2
  have p1 := fun W G => pprint_text k1 a1 d1 R1.out W G
  have p2 := fun W G => pprint_text k2 a2 d2 R2.out W G
  rw [HX.out] at p1
  rw [HY.out] at p2
  have P1 := Lib.hid p1
  have P2 := Lib.hid p2
  clear f1 f2 p1 p2
  have HG := Lib.hid G
  clear G
  have heq := eq_texts R1.out R2.out
  rw [HX.out, HY.out] at heq
  have HEQ := Lib.hid heq
  clear heq
  go_enter Tryd.func4, Tryd.ntmps4
  go_wp2_with fail
  have O0 := Lib.hid ((Blk.new w 24 #[.int .i64 c1, .int .u64 a1, .int .u64 b1]).alloc (.cells #[.int .i64 c2, .int .u64 a2, .int .u64 b2] 24))
  have T0 := Lib.hid (Blk.new1 w (.cells #[.int .i64 c1, .int .u64 a1, .int .u64 b1] 24) 24 #[.int .i64 c2, .int .u64 a2, .int .u64 b2])
  refine (awake_ok _ (HG.out.below (balloc (balloc (Below.refl _ _) _) _))).mono ?_
  rintro e w1 ⟨rfl, hb1⟩
  have B1 := Lib.hid (bstep (balloc (balloc (Below.refl _ w) _) _) hb1)
  have T1 := Lib.hid (T0.out.below hb1)
  obtain ⟨q0, q1, q2, q3⟩ := (O0.out.below hb1).three
  clear hb1 O0 T0
  go_wp2_with fail
  refine (F1.out _).mono ?_
  rintro e w2 ⟨rfl, hb2⟩
  have B2 := Lib.hid (bstep B1.out hb2)
  obtain ⟨r0, r1, r2, r3⟩ := (T1.out.below hb2).three
  clear hb2 T1 B1 q0 q1 q2 q3
  have A2 := Lib.hid (Blk.new w2 24 #[.int .i64 k1, .int .u64 a1, .int .u64 d1])
  go_wp2_with fail
  refine (F2.out _).mono ?_
  rintro e w3 ⟨rfl, hb3⟩
  have B3 := Lib.hid (balloc (bstep (balloc B2.out _) hb3) (.cells #[.int .i64 k2, .int .u64 a2, .int .u64 d2] 24))
  have A3 := Lib.hid (((A2.out.below hb3)).alloc (.cells #[.int .i64 k2, .int .u64 a2, .int .u64 d2] 24))
  have E3 := Lib.hid (Blk.new w3 24 #[.int .i64 k2, .int .u64 a2, .int .u64 d2])
  obtain ⟨q0, q1, q2, q3⟩ := (A2.out.below hb3).three
  clear hb3 B2 A2 r0 r1 r2 r3
  go_wp2_with fail
  refine (P1.out _ (HG.out.below B3.out)).mono ?_
  rintro e w4 ⟨rfl, hb4⟩
  have B4 := Lib.hid (bstep B3.out hb4)
  have A4 := Lib.hid (A3.out.below hb4)
  have E4 := Lib.hid (E3.out.below hb4)
  obtain ⟨r0, r1, r2, r3⟩ := E4.out.three
  clear hb4 A3 E3 B3 q0 q1 q2 q3
  go_wp2_with fail
  refine (P2.out _ (HG.out.below B4.out)).mono ?_
  rintro e w5 ⟨rfl, hb5⟩
  have B5 := Lib.hid (bstep B4.out hb5)
  have A5 := Lib.hid (A4.out.below hb5)
  have E5 := Lib.hid (E4.out.below hb5)
  clear hb5 A4 E4 B4 r0 r1 r2 r3
  go_wp2_with fail
  refine (pparse_text k1 a1 d1 R1.out _ (by rw [HX.out]) _ (HG.out.below B5.out)).mono ?_
  rintro e w6 ⟨rfl, hb6⟩
  have B6 := Lib.hid (bstep B5.out hb6)
  obtain ⟨q0, q1, q2, q3⟩ := (A5.out.below hb6).three
  obtain ⟨r0, r1, r2, r3⟩ := (E5.out.below hb6).three
  clear hb6 A5 E5 B5
  have heq := HEQ.out
  clear HEQ
  rcases x1 : ((k1 : Int) == k2) with _ | _ <;> rcases x2 : ((a1 : Int) == a2) with _ | _ <;> rcases x3 : ((d1 : Int) == d2) with _ | _
  all_goals
    rw [x1, x2, x3] at heq
    simp only [Bool.and_true, Bool.and_false] at heq
    go_wp2_with fail
    go_ret
    exact ⟨rfl, balloc B6.out _⟩

theorem back_walk (c1 a1 b1 c2 a2 b2 : Int) (v1 : (Lit.int .i64 c1).wf = true) (v2 : (Lit.int .u64 a1).wf = true) (v3 : (Lit.int .u64 b1).wf = true) (u1 : (Lit.int .i64 c2).wf = true) (u2 : (Lit.int .u64 a2).wf = true) (u3 : (Lit.int .u64 b2).wf = true) (w : World) (G : Glob w) :
    Calls Tryd.prog 4 #[.agg #[.int .i64 c1, .int .u64 a1, .int .u64 b1], .agg #[.int .i64 c2, .int .u64 a2, .int .u64 b2]] w fun e w' => e = .returned (.bool true) ∧ Below w.heap.size w w' := by
  obtain ⟨h0, h1⟩ := bounds_i64 v1
  obtain ⟨g0, g1⟩ := bounds_i64 u1
  obtain ⟨x0, x1⟩ := bounds_u64 v2
  obtain ⟨x2, x3⟩ := bounds_u64 v3
  obtain ⟨y0, y1⟩ := bounds_u64 u2
  obtain ⟨y2, y3⟩ := bounds_u64 u3
  obtain ⟨A1, rfl⟩ := Int.eq_ofNat_of_zero_le x0
  obtain ⟨B1, rfl⟩ := Int.eq_ofNat_of_zero_le x2
  obtain ⟨A2, rfl⟩ := Int.eq_ofNat_of_zero_le y0
  obtain ⟨B2, rfl⟩ := Int.eq_ofNat_of_zero_le y2
  exact back_core c1 c2 A1 B1 A2 B2 _ _ _ _ _ _ w G h0 h1 g0 g1 (Lib.hid rfl) (Lib.hid rfl) (Lib.hid rfl) (Lib.hid rfl) (Lib.hid (fit_right c1 A1 B1 (by omega) (by omega))) (Lib.hid (fit_right c2 A2 B2 (by omega) (by omega))) (Lib.hid rfl) (Lib.hid rfl)

set_option maxRecDepth 100000 in
set_option maxHeartbeats 1000000 in
theorem others_core (c1 : Int) (a1 b1 k1 d1 : Nat) (k2 a2 d2 : Int) (X Y : List UInt8) (e2 : Int) (w : World) (G : Glob w) (h0 : -9223372036854775808 ≤ c1) (h1 : c1 ≤ 9223372036854775807)
    (hk1 : Hid (1 + pickN c1 8 = k1)) (hd1 : Hid (fitB k1 b1 = d1)) (R1 : Hid (Pth.Right k1 a1 d1)) (HX : Hid (Pth.text k1 a1 d1 = X))
    (P2 : Hid (∀ W, Glob W → Calls Tryd.prog 10 #[.agg #[.int .i64 k2, .int .u64 a2, .int .u64 d2]] W fun r W' => r = .returned (.tuple #[.string ⟨Y.toArray⟩, .int .i64 e2]) ∧ Below W.heap.size W W'))
    (x1 x2 x3 z : Bool) (t1 : (k2 == (k1 : Int)) = x1) (t2 : (a2 == (a1 : Int)) = x2) (t3 : (d2 == (d1 : Int)) = x3) (t4 : Hid ((e2 = 0 ∧ (X == Y) = (x1 && x2 && x3)) ∨ (e2 = 40 ∧ (x1 && x2 && x3) = false))) :
    Calls Tryd.prog 8 #[.agg #[.int .i64 c1, .int .u64 a1, .int .u64 b1], .agg #[.int .i64 k2, .int .u64 a2, .int .u64 d2]] w fun e w' => e = .returned (.bool true) ∧ Below w.heap.size w w' := by
  have f1 := fun W => fit_is c1 a1 b1 h0 h1 W
  rw [hk1.out, hd1.out] at f1
  have F1 := Lib.hid f1
  have p1 := fun W G => pprint_text k1 a1 d1 R1.out W G
  rw [HX.out] at p1
  have P1 := Lib.hid p1
  clear f1 p1
  have HG := Lib.hid G
  clear G
  go_enter Tryd.func8, Tryd.ntmps8
  go_wp2_with fail
  have O0 := Lib.hid ((Blk.new w 24 #[.int .i64 c1, .int .u64 a1, .int .u64 b1]).alloc (.cells #[.int .i64 k2, .int .u64 a2, .int .u64 d2] 24))
  have T0 := Lib.hid (Blk.new1 w (.cells #[.int .i64 c1, .int .u64 a1, .int .u64 b1] 24) 24 #[.int .i64 k2, .int .u64 a2, .int .u64 d2])
  refine (awake_ok _ (HG.out.below (balloc (balloc (Below.refl _ _) _) _))).mono ?_
  rintro e w1 ⟨rfl, hb1⟩
  have B1 := Lib.hid (bstep (balloc (balloc (Below.refl _ w) _) _) hb1)
  have T1 := Lib.hid (T0.out.below hb1)
  obtain ⟨q0, q1, q2, q3⟩ := (O0.out.below hb1).three
  clear hb1 O0 T0
  go_wp2_with fail
  refine (F1.out _).mono ?_
  rintro e w2 ⟨rfl, hb2⟩
  have B2 := Lib.hid (balloc (bstep B1.out hb2) (.cells #[.int .i64 k1, .int .u64 a1, .int .u64 d1] 24))
  have T2 := Lib.hid ((T1.out.below hb2).alloc (.cells #[.int .i64 k1, .int .u64 a1, .int .u64 d1] 24))
  clear hb2 T1 B1 q0 q1 q2 q3
  have A2 := Lib.hid (Blk.new w2 24 #[.int .i64 k1, .int .u64 a1, .int .u64 d1])
  go_wp2_with fail
  refine (P1.out _ (HG.out.below B2.out)).mono ?_
  rintro e w3 ⟨rfl, hb3⟩
  have B3 := Lib.hid (bstep B2.out hb3)
  have A3 := Lib.hid (A2.out.below hb3)
  have T3 := Lib.hid (T2.out.below hb3)
  obtain ⟨q0, q1, q2, q3⟩ := T3.out.three
  clear hb3 B2 A2 T2
  go_wp2_with fail
  refine (P2.out _ (HG.out.below B3.out)).mono ?_
  rintro e w4 ⟨rfl, hb4⟩
  have B4 := Lib.hid (bstep B3.out hb4)
  clear q0 q1 q2 q3
  obtain ⟨q0, q1, q2, q3⟩ := (A3.out.below hb4).three
  obtain ⟨r0, r1, r2, r3⟩ := (T3.out.below hb4).three
  clear hb4 A3 T3 B3
  have heq := t4.out
  clear t4
  cases x1 <;> cases x2 <;> cases x3
  all_goals
    rcases heq with ⟨rfl, heq⟩ | ⟨rfl, heq⟩
    all_goals
      first
        | (exfalso; revert heq; decide)
        | (simp only [Bool.and_true, Bool.and_false] at heq
           go_wp2_with fail
           go_ret
           exact ⟨rfl, B4.out⟩)

theorem others_walk (c1 a1 b1 k2 a2 d2 : Int) (v1 : (Lit.int .i64 c1).wf = true) (v2 : (Lit.int .u64 a1).wf = true) (v3 : (Lit.int .u64 b1).wf = true) (u1 : (Lit.int .i64 k2).wf = true) (u2 : (Lit.int .u64 a2).wf = true) (u3 : (Lit.int .u64 d2).wf = true) (w : World) (G : Glob w) :
    Calls Tryd.prog 8 #[.agg #[.int .i64 c1, .int .u64 a1, .int .u64 b1], .agg #[.int .i64 k2, .int .u64 a2, .int .u64 d2]] w fun e w' => e = .returned (.bool true) ∧ Below w.heap.size w w' := by
  obtain ⟨h0, h1⟩ := bounds_i64 v1
  obtain ⟨x0, x1⟩ := bounds_u64 v2
  obtain ⟨x2, x3⟩ := bounds_u64 v3
  obtain ⟨y0, y1⟩ := bounds_u64 u2
  obtain ⟨y2, y3⟩ := bounds_u64 u3
  obtain ⟨A1, rfl⟩ := Int.eq_ofNat_of_zero_le x0
  obtain ⟨B1, rfl⟩ := Int.eq_ofNat_of_zero_le x2
  have R1 := fit_right c1 A1 B1 (by omega) (by omega)
  by_cases hr : 0 ≤ k2 ∧ Pth.Right k2.toNat a2.toNat d2.toNat
  · obtain ⟨hk, R2⟩ := hr
    refine others_core c1 A1 B1 _ _ k2 a2 d2 _ (Pth.text k2.toNat a2.toNat d2.toNat) 0 w G h0 h1 (Lib.hid rfl) (Lib.hid rfl) (Lib.hid R1) (Lib.hid rfl) (Lib.hid fun W g => ?_) _ _ _ true rfl rfl rfl (Lib.hid (.inl ⟨rfl, ?_⟩))
    · have := pprint_text k2.toNat a2.toNat d2.toNat R2 W g
      rw [Int.toNat_of_nonneg hk, Int.toNat_of_nonneg y0, Int.toNat_of_nonneg y2] at this
      exact this
    · have h := eq_texts R1 R2
      rw [h, Int.toNat_of_nonneg hk, Int.toNat_of_nonneg y0, Int.toNat_of_nonneg y2]
      rw [Bool.eq_iff_iff]
      simp only [beq_iff_eq, Bool.and_eq_true]
      omega
  · refine others_core c1 A1 B1 _ _ k2 a2 d2 _ [] 40 w G h0 h1 (Lib.hid rfl) (Lib.hid rfl) (Lib.hid R1) (Lib.hid rfl) (Lib.hid fun W g => ?_) _ _ _ true rfl rfl rfl (Lib.hid (.inr ⟨rfl, ?_⟩))
    · refine pprint_no k2 a2 d2 y0 y1 y2 y3 ?_ W g
      by_cases hk : k2 < 0
      · exact .inr hk
      · exact .inl fun h => hr ⟨by omega, h⟩
    · rw [Bool.and_eq_false_iff, Bool.and_eq_false_iff]
      rw [Classical.or_iff_not_imp_right]
      intro h3
      rw [Classical.or_iff_not_imp_right]
      intro h2
      rw [beq_eq_false_iff_ne]
      intro h1'
      have h3' : d2 = ((fitB (1 + pickN c1 8) B1 : Nat) : Int) := by simpa using h3
      have h2' : a2 = (A1 : Int) := by simpa using h2
      refine hr ⟨by omega, ?_⟩
      rw [h1', h2', h3', Int.toNat_natCast, Int.toNat_natCast, Int.toNat_natCast]
      exact R1
end Go.Proofs.YtmhboacfnklbgaaDoor
