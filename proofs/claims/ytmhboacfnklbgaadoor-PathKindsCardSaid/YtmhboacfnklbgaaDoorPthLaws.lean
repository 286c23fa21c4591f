/-
  The walks of PathKinds, PathBack and PathOthers.
-/
import Derived.Test.YtmhboacfnklbgaaDoorPthAwake
namespace Go.Proofs.YtmhboacfnklbgaaDoor
open Go.RowKit
set_option linter.unusedVariables false

theorem print_x (k a b : Int) (X : List UInt8) (e : Int) (w : World) (G : Glob w) (a0 : 0 ≤ a) (a1 : a ≤ 18446744073709551615) (b0 : 0 ≤ b) (b1 : b ≤ 18446744073709551615)
    (h : Hid ((0 ≤ k ∧ Pth.Right k.toNat a.toNat b.toNat ∧ X = Pth.text k.toNat a.toNat b.toNat ∧ e = 0) ∨ ((¬ Pth.Right k.toNat a.toNat b.toNat ∨ k < 0) ∧ X = [] ∧ e = 40))) :
    Calls Tryd.prog 10 #[.agg #[.int .i64 k, .int .u64 a, .int .u64 b]] w fun r w' => r = .returned (.tuple #[.string ⟨X.toArray⟩, .int .i64 e]) ∧ Below w.heap.size w w' := by
  rcases h.out with ⟨hk, hr, rfl, rfl⟩ | ⟨hn, rfl, rfl⟩
  · have := pprint_text k.toNat a.toNat b.toNat hr w G
    rw [Int.toNat_of_nonneg hk, Int.toNat_of_nonneg a0, Int.toNat_of_nonneg b0] at this
    exact this
  · exact pprint_no k a b a0 a1 b0 b1 hn w G

set_option maxRecDepth 100000 in
set_option maxHeartbeats 1000000 in
theorem kinds_good (k a b : Int) (X : List UInt8) (w : World) (G : Glob w) (hk : 1 ≤ k) (hk8 : k ≤ 8) (hb : (k = 2 ∨ k = 5 ∨ k = 6 ∨ k = 7) ∨ (b = 0 ∧ (k = 1 ∨ k = 3 ∨ k = 4 ∨ k = 8))) (a0 : 0 ≤ a) (a1 : a ≤ 18446744073709551615) (b0 : 0 ≤ b) (b1 : b ≤ 18446744073709551615)
    (h : Hid (0 ≤ k ∧ Pth.Right k.toNat a.toNat b.toNat ∧ X = Pth.text k.toNat a.toNat b.toNat)) :
    Calls Tryd.prog 6 #[.int .i64 k, .int .u64 a, .int .u64 b] w fun e w' => e = .returned (.bool true) ∧ Below w.heap.size w w' := by
  have hx1 : X.isEmpty = false := by
    obtain ⟨_, _, rfl⟩ := h.out
    cases hx : Pth.text k.toNat a.toNat b.toNat with
    | nil => exact absurd hx (Pth.text_ne _ _ _)
    | cons => rfl
  have hx2 : ¬ X = [] := by
    rintro rfl; cases hx1
  have HX := Lib.hid hx2
  have HG := Lib.hid G
  clear G
  have HPR := Lib.hid (fun W g => print_x k a b X 0 W g a0 a1 b0 b1 (Lib.hid (.inl ⟨h.out.1, h.out.2.1, h.out.2.2, rfl⟩)))
  rcases hb with (rfl | rfl | rfl | rfl) | ⟨rfl, rfl | rfl | rfl | rfl⟩
  all_goals
    go_enter Tryd.func6, Tryd.ntmps6
    go_wp2_with fail
    refine (awake_ok _ HG.out).mono ?_
    rintro e w1 ⟨rfl, hb1⟩
    have G1 := Lib.hid (HG.out.below hb1)
    go_wp2_with fail
    refine (HPR.out _ G1.out).mono ?_
    rintro e w2 ⟨rfl, hb2⟩
    go_wp2_with fail
    go_ret
    exact ⟨rfl, bstep hb1 hb2⟩

set_option maxRecDepth 100000 in
set_option maxHeartbeats 1000000 in
theorem kinds_bad (k a b : Int) (w : World) (G : Glob w) (may : Bool) (h : (k < 1 ∧ may = false) ∨ (8 < k ∧ may = false) ∨ ((k = 1 ∨ k = 3 ∨ k = 4 ∨ k = 8) ∧ b ≠ 0)) (a0 : 0 ≤ a) (a1 : a ≤ 18446744073709551615) (b0 : 0 ≤ b) (b1 : b ≤ 18446744073709551615)
    (hr : ¬ Pth.Right k.toNat a.toNat b.toNat ∨ k < 0) :
    Calls Tryd.prog 6 #[.int .i64 k, .int .u64 a, .int .u64 b] w fun e w' => e = .returned (.bool true) ∧ Below w.heap.size w w' := by
  have HG := Lib.hid G
  clear G
  have HPR := Lib.hid (fun W g => print_x k a b [] 40 W g a0 a1 b0 b1 (Lib.hid (.inr ⟨hr, rfl, rfl⟩)))
  clear hr
  have hb' : Hid (b ≠ 0 → (b == 0) = false) := Lib.hid fun h => beq_eq_false_iff_ne.2 h
  rcases h with ⟨h, _⟩ | ⟨h, _⟩ | ⟨rfl | rfl | rfl | rfl, hb⟩
  case' inl => (have t1 : decide (1 ≤ k) = false := decide_eq_false (by omega)); (have e2 : (k == 2) = false := beq_eq_false_iff_ne.2 (by omega)); (have e5 : (k == 5) = false := beq_eq_false_iff_ne.2 (by omega)); (have e6 : (k == 6) = false := beq_eq_false_iff_ne.2 (by omega)); (have e7 : (k == 7) = false := beq_eq_false_iff_ne.2 (by omega))
  case' inr.inl => (have t1 : decide (1 ≤ k) = true := decide_eq_true (by omega)); (have t2 : decide (k ≤ 8) = false := decide_eq_false (by omega)); (have e2 : (k == 2) = false := beq_eq_false_iff_ne.2 (by omega)); (have e5 : (k == 5) = false := beq_eq_false_iff_ne.2 (by omega)); (have e6 : (k == 6) = false := beq_eq_false_iff_ne.2 (by omega)); (have e7 : (k == 7) = false := beq_eq_false_iff_ne.2 (by omega))
  all_goals
    try (have tb := hb'.out hb; clear hb)
    go_enter Tryd.func6, Tryd.ntmps6
    go_wp2_with fail
    refine (awake_ok _ HG.out).mono ?_
    rintro e w1 ⟨rfl, hb1⟩
    have G1 := Lib.hid (HG.out.below hb1)
    go_wp2_with fail
    refine (HPR.out _ G1.out).mono ?_
    rintro e w2 ⟨rfl, hb2⟩
    go_wp2_with fail
    go_ret
    exact ⟨rfl, bstep hb1 hb2⟩

theorem right_iff (k a b : Int) (a0 : 0 ≤ a) (a1 : a ≤ 18446744073709551615) (b0 : 0 ≤ b) (b1 : b ≤ 18446744073709551615) :
    (1 ≤ k ∧ k ≤ 8 ∧ ((k = 2 ∨ k = 5 ∨ k = 6 ∨ k = 7) ∨ (b = 0 ∧ (k = 1 ∨ k = 3 ∨ k = 4 ∨ k = 8)))) → Pth.Right k.toNat a.toNat b.toNat := by
  rintro ⟨h1, h8, h⟩
  refine ⟨by omega, by omega, by omega, by omega, fun hf => ?_⟩
  rcases h with (rfl | rfl | rfl | rfl) | ⟨rfl, _⟩
  · cases hf
  · cases hf
  · cases hf
  · cases hf
  · rfl

theorem kinds_walk (k a b : Int) (wk : (Lit.int .i64 k).wf = true) (wa : (Lit.int .u64 a).wf = true) (wb : (Lit.int .u64 b).wf = true) (w : World) (G : Glob w) :
    Calls Tryd.prog 6 #[.int .i64 k, .int .u64 a, .int .u64 b] w fun e w' => e = .returned (.bool true) ∧ Below w.heap.size w w' := by
  obtain ⟨a0, a1⟩ := bounds_u64 wa
  obtain ⟨b0, b1⟩ := bounds_u64 wb
  by_cases h : 1 ≤ k ∧ k ≤ 8 ∧ ((k = 2 ∨ k = 5 ∨ k = 6 ∨ k = 7) ∨ (b = 0 ∧ (k = 1 ∨ k = 3 ∨ k = 4 ∨ k = 8)))
  · exact kinds_good k a b _ w G h.1 h.2.1 h.2.2 a0 a1 b0 b1 (Lib.hid ⟨by omega, right_iff k a b a0 a1 b0 b1 h, rfl⟩)
  · refine kinds_bad k a b w G false ?_ a0 a1 b0 b1 ?_
    · by_cases h1 : k < 1
      · exact .inl ⟨h1, rfl⟩
      · by_cases h8 : 8 < k
        · exact .inr (.inl ⟨h8, rfl⟩)
        · exact .inr (.inr (by omega))
    · by_cases h0 : k < 0
      · exact .inr h0
      · left
        rintro ⟨r1, r8, _, _, rz⟩
        refine h ⟨by omega, by omega, ?_⟩
        obtain ⟨n, rfl⟩ := Int.eq_ofNat_of_zero_le (show 0 ≤ k by omega)
        rw [Int.toNat_natCast] at r1 r8 rz
        have hc : n = 1 ∨ n = 2 ∨ n = 3 ∨ n = 4 ∨ n = 5 ∨ n = 6 ∨ n = 7 ∨ n = 8 := by omega
        rcases hc with rfl | rfl | rfl | rfl | rfl | rfl | rfl | rfl
        · have := rz rfl; right; omega
        · left; omega
        · have := rz rfl; right; omega
        · have := rz rfl; right; omega
        · left; omega
        · left; omega
        · left; omega
        · have := rz rfl; right; omega
end Go.Proofs.YtmhboacfnklbgaaDoor
