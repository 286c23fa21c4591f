/-
  The walk of AmountSums; Add and Sub by their contracts.
-/
import Derived.Test.YtckehnippnpkaaaAmtAwake
import Derived.OpenShut
namespace Go.Proofs.Ytckehnippnpkaaa
open Go.RowKit
set_option linter.unusedVariables false

/-- what Add answers -/
def addV (a b : Int) : Int × Int := if a + b ≤ 18446744073709551615 then (a + b, 0) else (0, 31)
/-- what Sub answers -/
def subV (a b : Int) : Int × Int := if b ≤ a then (a - b, 0) else (0, 31)
theorem addV_ok {a b : Int} (h : a + b ≤ 18446744073709551615) : addV a b = (a + b, 0) := if_pos h
theorem addV_over {a b : Int} (h : 18446744073709551615 < a + b) : addV a b = (0, 31) := if_neg (by omega)
theorem subV_ok {a b : Int} (h : b ≤ a) : subV a b = (a - b, 0) := if_pos h
theorem subV_over {a b : Int} (h : a < b) : subV a b = (0, 31) := if_neg (by omega)

set_option maxHeartbeats 400000 in
theorem add_is (a b n e : Int) (h : addV a b = (n, e)) (a0 : 0 ≤ a) (a1 : a ≤ 18446744073709551615) (b0 : 0 ≤ b) (b1 : b ≤ 18446744073709551615) (w : World) :
    Calls Try.prog 13 #[.int .u64 a, .int .u64 b] w fun r w' => r = .returned (.tuple #[.int .u64 n, .int .i64 e]) ∧ w = w' := by
  unfold addV at h
  by_cases hc : a + b ≤ 18446744073709551615
  · rw [if_pos hc] at h
    simp only [Prod.mk.injEq] at h
    obtain ⟨rfl, rfl⟩ := h
    have : ¬ 18446744073709551615 - b < a := by omega
    go_enter Try.func13, Try.ntmps13
    go_wp2
    go_ret2
    exact ⟨rfl, rfl⟩
  · rw [if_neg hc] at h
    simp only [Prod.mk.injEq] at h
    obtain ⟨rfl, rfl⟩ := h
    have : 18446744073709551615 - b < a := by omega
    go_enter Try.func13, Try.ntmps13
    go_wp2
    go_ret2
    exact ⟨rfl, rfl⟩

set_option maxHeartbeats 400000 in
theorem sub_is (a b n e : Int) (h : subV a b = (n, e)) (a0 : 0 ≤ a) (a1 : a ≤ 18446744073709551615) (b0 : 0 ≤ b) (b1 : b ≤ 18446744073709551615) (w : World) :
    Calls Try.prog 15 #[.int .u64 a, .int .u64 b] w fun r w' => r = .returned (.tuple #[.int .u64 n, .int .i64 e]) ∧ w = w' := by
  unfold subV at h
  by_cases hc : b ≤ a
  · rw [if_pos hc] at h
    simp only [Prod.mk.injEq] at h
    obtain ⟨rfl, rfl⟩ := h
    have : ¬ a < b := by omega
    go_enter Try.func15, Try.ntmps15
    go_wp2
    go_ret2
    exact ⟨rfl, rfl⟩
  · rw [if_neg hc] at h
    simp only [Prod.mk.injEq] at h
    obtain ⟨rfl, rfl⟩ := h
    have : a < b := by omega
    go_enter Try.func15, Try.ntmps15
    go_wp2
    go_ret2
    exact ⟨rfl, rfl⟩


set_option maxHeartbeats 400000 in
theorem sums_0 (a b c : Int) (a0 : 0 ≤ a) (a1 : a ≤ 18446744073709551615) (b0 : 0 ≤ b) (b1 : b ≤ 18446744073709551615) (c0 : 0 ≤ c) (c1 : c ≤ 18446744073709551615) (w : World) (h1 : 18446744073709551615 < a + b) (h2 : b ≤ a) :
    Calls Try.prog 8 #[.int .u64 a, .int .u64 b, .int .u64 c] w fun e w' => e = .returned (.bool true) ∧ Below w.heap.size w w' := by
  have t1 : (a + b == b + a) = true := beq_iff_eq.2 (by omega)
  have t2 : (a + b != b + a) = false := by rw [bne, t1]; rfl
  have t3 : (a - b + b != a) = false := by rw [bne_eq_false_iff_eq]; omega
  go_enter Try.func8, Try.ntmps8
  go_wp2_with fail
  refine (awake_ok _).mono ?_
  rintro e w1 ⟨rfl, hb1⟩
  go_wp2_with fail
  refine (add_is (a) (b) 0 31 (addV_over (by omega)) (by omega) (by omega) (by omega) (by omega) _).mono ?_
  rintro e w2 ⟨rfl, rfl⟩
  go_wp2_with fail
  refine (add_is (b) (a) 0 31 (addV_over (by omega)) (by omega) (by omega) (by omega) (by omega) _).mono ?_
  rintro e w2 ⟨rfl, rfl⟩
  go_wp2_with fail
  refine (sub_is (a) (b) (a - b) 0 (subV_ok (by omega)) (by omega) (by omega) (by omega) (by omega) _).mono ?_
  rintro e w2 ⟨rfl, rfl⟩
  go_wp2_with fail
  refine (add_is (a - b) (b) (a - b + b) 0 (addV_ok (by omega)) (by omega) (by omega) (by omega) (by omega) _).mono ?_
  rintro e w2 ⟨rfl, rfl⟩
  go_wp2_with fail
  go_ret
  exact ⟨rfl, hb1⟩

set_option maxHeartbeats 400000 in
theorem sums_1 (a b c : Int) (a0 : 0 ≤ a) (a1 : a ≤ 18446744073709551615) (b0 : 0 ≤ b) (b1 : b ≤ 18446744073709551615) (c0 : 0 ≤ c) (c1 : c ≤ 18446744073709551615) (w : World) (h1 : a + b ≤ 18446744073709551615) (h2 : b ≤ a) (h3 : a + b + c ≤ 18446744073709551615) (h4 : b + c ≤ 18446744073709551615) :
    Calls Try.prog 8 #[.int .u64 a, .int .u64 b, .int .u64 c] w fun e w' => e = .returned (.bool true) ∧ Below w.heap.size w w' := by
  have t1 : (a + b == b + a) = true := beq_iff_eq.2 (by omega)
  have t2 : (a + b != b + a) = false := by rw [bne, t1]; rfl
  have t3 : (a - b + b != a) = false := by rw [bne_eq_false_iff_eq]; omega
  have t4 : (a + b - b == a) = true := beq_iff_eq.2 (by omega)
  have t5 : (a + b + c == a + (b + c)) = true := beq_iff_eq.2 (by omega)
  go_enter Try.func8, Try.ntmps8
  go_wp2_with fail
  refine (awake_ok _).mono ?_
  rintro e w1 ⟨rfl, hb1⟩
  go_wp2_with fail
  refine (add_is (a) (b) (a + b) 0 (addV_ok (by omega)) (by omega) (by omega) (by omega) (by omega) _).mono ?_
  rintro e w2 ⟨rfl, rfl⟩
  go_wp2_with fail
  refine (add_is (b) (a) (b + a) 0 (addV_ok (by omega)) (by omega) (by omega) (by omega) (by omega) _).mono ?_
  rintro e w2 ⟨rfl, rfl⟩
  go_wp2_with fail
  refine (sub_is (a) (b) (a - b) 0 (subV_ok (by omega)) (by omega) (by omega) (by omega) (by omega) _).mono ?_
  rintro e w2 ⟨rfl, rfl⟩
  go_wp2_with fail
  refine (add_is (a - b) (b) (a - b + b) 0 (addV_ok (by omega)) (by omega) (by omega) (by omega) (by omega) _).mono ?_
  rintro e w2 ⟨rfl, rfl⟩
  go_wp2_with fail
  refine (sub_is (a + b) (b) (a + b - b) 0 (subV_ok (by omega)) (by omega) (by omega) (by omega) (by omega) _).mono ?_
  rintro e w2 ⟨rfl, rfl⟩
  go_wp2_with fail
  refine (add_is (a + b) (c) (a + b + c) 0 (addV_ok (by omega)) (by omega) (by omega) (by omega) (by omega) _).mono ?_
  rintro e w2 ⟨rfl, rfl⟩
  go_wp2_with fail
  refine (add_is (b) (c) (b + c) 0 (addV_ok (by omega)) (by omega) (by omega) (by omega) (by omega) _).mono ?_
  rintro e w2 ⟨rfl, rfl⟩
  go_wp2_with fail
  refine (add_is (a) (b + c) (a + (b + c)) 0 (addV_ok (by omega)) (by omega) (by omega) (by omega) (by omega) _).mono ?_
  rintro e w2 ⟨rfl, rfl⟩
  go_wp2_with fail
  go_ret
  exact ⟨rfl, hb1⟩

set_option maxHeartbeats 400000 in
theorem sums_2 (a b c : Int) (a0 : 0 ≤ a) (a1 : a ≤ 18446744073709551615) (b0 : 0 ≤ b) (b1 : b ≤ 18446744073709551615) (c0 : 0 ≤ c) (c1 : c ≤ 18446744073709551615) (w : World) (h1 : a + b ≤ 18446744073709551615) (h2 : b ≤ a) (h3 : 18446744073709551615 < a + b + c) (h4 : b + c ≤ 18446744073709551615) :
    Calls Try.prog 8 #[.int .u64 a, .int .u64 b, .int .u64 c] w fun e w' => e = .returned (.bool true) ∧ Below w.heap.size w w' := by
  have t1 : (a + b == b + a) = true := beq_iff_eq.2 (by omega)
  have t2 : (a + b != b + a) = false := by rw [bne, t1]; rfl
  have t3 : (a - b + b != a) = false := by rw [bne_eq_false_iff_eq]; omega
  have t4 : (a + b - b == a) = true := beq_iff_eq.2 (by omega)
  go_enter Try.func8, Try.ntmps8
  go_wp2_with fail
  refine (awake_ok _).mono ?_
  rintro e w1 ⟨rfl, hb1⟩
  go_wp2_with fail
  refine (add_is (a) (b) (a + b) 0 (addV_ok (by omega)) (by omega) (by omega) (by omega) (by omega) _).mono ?_
  rintro e w2 ⟨rfl, rfl⟩
  go_wp2_with fail
  refine (add_is (b) (a) (b + a) 0 (addV_ok (by omega)) (by omega) (by omega) (by omega) (by omega) _).mono ?_
  rintro e w2 ⟨rfl, rfl⟩
  go_wp2_with fail
  refine (sub_is (a) (b) (a - b) 0 (subV_ok (by omega)) (by omega) (by omega) (by omega) (by omega) _).mono ?_
  rintro e w2 ⟨rfl, rfl⟩
  go_wp2_with fail
  refine (add_is (a - b) (b) (a - b + b) 0 (addV_ok (by omega)) (by omega) (by omega) (by omega) (by omega) _).mono ?_
  rintro e w2 ⟨rfl, rfl⟩
  go_wp2_with fail
  refine (sub_is (a + b) (b) (a + b - b) 0 (subV_ok (by omega)) (by omega) (by omega) (by omega) (by omega) _).mono ?_
  rintro e w2 ⟨rfl, rfl⟩
  go_wp2_with fail
  refine (add_is (a + b) (c) 0 31 (addV_over (by omega)) (by omega) (by omega) (by omega) (by omega) _).mono ?_
  rintro e w2 ⟨rfl, rfl⟩
  go_wp2_with fail
  refine (add_is (b) (c) (b + c) 0 (addV_ok (by omega)) (by omega) (by omega) (by omega) (by omega) _).mono ?_
  rintro e w2 ⟨rfl, rfl⟩
  go_wp2_with fail
  refine (add_is (a) (b + c) 0 31 (addV_over (by omega)) (by omega) (by omega) (by omega) (by omega) _).mono ?_
  rintro e w2 ⟨rfl, rfl⟩
  go_wp2_with fail
  go_ret
  exact ⟨rfl, hb1⟩

set_option maxHeartbeats 400000 in
theorem sums_3 (a b c : Int) (a0 : 0 ≤ a) (a1 : a ≤ 18446744073709551615) (b0 : 0 ≤ b) (b1 : b ≤ 18446744073709551615) (c0 : 0 ≤ c) (c1 : c ≤ 18446744073709551615) (w : World) (h1 : a + b ≤ 18446744073709551615) (h2 : b ≤ a) (h3 : 18446744073709551615 < a + b + c) (h4 : 18446744073709551615 < b + c) :
    Calls Try.prog 8 #[.int .u64 a, .int .u64 b, .int .u64 c] w fun e w' => e = .returned (.bool true) ∧ Below w.heap.size w w' := by
  have t1 : (a + b == b + a) = true := beq_iff_eq.2 (by omega)
  have t2 : (a + b != b + a) = false := by rw [bne, t1]; rfl
  have t3 : (a - b + b != a) = false := by rw [bne_eq_false_iff_eq]; omega
  have t4 : (a + b - b == a) = true := beq_iff_eq.2 (by omega)
  go_enter Try.func8, Try.ntmps8
  go_wp2_with fail
  refine (awake_ok _).mono ?_
  rintro e w1 ⟨rfl, hb1⟩
  go_wp2_with fail
  refine (add_is (a) (b) (a + b) 0 (addV_ok (by omega)) (by omega) (by omega) (by omega) (by omega) _).mono ?_
  rintro e w2 ⟨rfl, rfl⟩
  go_wp2_with fail
  refine (add_is (b) (a) (b + a) 0 (addV_ok (by omega)) (by omega) (by omega) (by omega) (by omega) _).mono ?_
  rintro e w2 ⟨rfl, rfl⟩
  go_wp2_with fail
  refine (sub_is (a) (b) (a - b) 0 (subV_ok (by omega)) (by omega) (by omega) (by omega) (by omega) _).mono ?_
  rintro e w2 ⟨rfl, rfl⟩
  go_wp2_with fail
  refine (add_is (a - b) (b) (a - b + b) 0 (addV_ok (by omega)) (by omega) (by omega) (by omega) (by omega) _).mono ?_
  rintro e w2 ⟨rfl, rfl⟩
  go_wp2_with fail
  refine (sub_is (a + b) (b) (a + b - b) 0 (subV_ok (by omega)) (by omega) (by omega) (by omega) (by omega) _).mono ?_
  rintro e w2 ⟨rfl, rfl⟩
  go_wp2_with fail
  refine (add_is (a + b) (c) 0 31 (addV_over (by omega)) (by omega) (by omega) (by omega) (by omega) _).mono ?_
  rintro e w2 ⟨rfl, rfl⟩
  go_wp2_with fail
  refine (add_is (b) (c) 0 31 (addV_over (by omega)) (by omega) (by omega) (by omega) (by omega) _).mono ?_
  rintro e w2 ⟨rfl, rfl⟩
  go_wp2_with fail
  refine (add_is (a) (0) (a + 0) 0 (addV_ok (by omega)) (by omega) (by omega) (by omega) (by omega) _).mono ?_
  rintro e w2 ⟨rfl, rfl⟩
  go_wp2_with fail
  go_ret
  exact ⟨rfl, hb1⟩

set_option maxHeartbeats 400000 in
theorem sums_4 (a b c : Int) (a0 : 0 ≤ a) (a1 : a ≤ 18446744073709551615) (b0 : 0 ≤ b) (b1 : b ≤ 18446744073709551615) (c0 : 0 ≤ c) (c1 : c ≤ 18446744073709551615) (w : World) (h1 : 18446744073709551615 < a + b) (h2 : a < b) :
    Calls Try.prog 8 #[.int .u64 a, .int .u64 b, .int .u64 c] w fun e w' => e = .returned (.bool true) ∧ Below w.heap.size w w' := by
  have t1 : (a + b == b + a) = true := beq_iff_eq.2 (by omega)
  have t2 : (a + b != b + a) = false := by rw [bne, t1]; rfl
  go_enter Try.func8, Try.ntmps8
  go_wp2_with fail
  refine (awake_ok _).mono ?_
  rintro e w1 ⟨rfl, hb1⟩
  go_wp2_with fail
  refine (add_is (a) (b) 0 31 (addV_over (by omega)) (by omega) (by omega) (by omega) (by omega) _).mono ?_
  rintro e w2 ⟨rfl, rfl⟩
  go_wp2_with fail
  refine (add_is (b) (a) 0 31 (addV_over (by omega)) (by omega) (by omega) (by omega) (by omega) _).mono ?_
  rintro e w2 ⟨rfl, rfl⟩
  go_wp2_with fail
  refine (sub_is (a) (b) 0 31 (subV_over (by omega)) (by omega) (by omega) (by omega) (by omega) _).mono ?_
  rintro e w2 ⟨rfl, rfl⟩
  go_wp2_with fail
  go_ret
  exact ⟨rfl, hb1⟩

set_option maxHeartbeats 400000 in
theorem sums_5 (a b c : Int) (a0 : 0 ≤ a) (a1 : a ≤ 18446744073709551615) (b0 : 0 ≤ b) (b1 : b ≤ 18446744073709551615) (c0 : 0 ≤ c) (c1 : c ≤ 18446744073709551615) (w : World) (h1 : a + b ≤ 18446744073709551615) (h2 : a < b) (h3 : a + b + c ≤ 18446744073709551615) (h4 : b + c ≤ 18446744073709551615) :
    Calls Try.prog 8 #[.int .u64 a, .int .u64 b, .int .u64 c] w fun e w' => e = .returned (.bool true) ∧ Below w.heap.size w w' := by
  have t1 : (a + b == b + a) = true := beq_iff_eq.2 (by omega)
  have t2 : (a + b != b + a) = false := by rw [bne, t1]; rfl
  have t4 : (a + b - b == a) = true := beq_iff_eq.2 (by omega)
  have t5 : (a + b + c == a + (b + c)) = true := beq_iff_eq.2 (by omega)
  go_enter Try.func8, Try.ntmps8
  go_wp2_with fail
  refine (awake_ok _).mono ?_
  rintro e w1 ⟨rfl, hb1⟩
  go_wp2_with fail
  refine (add_is (a) (b) (a + b) 0 (addV_ok (by omega)) (by omega) (by omega) (by omega) (by omega) _).mono ?_
  rintro e w2 ⟨rfl, rfl⟩
  go_wp2_with fail
  refine (add_is (b) (a) (b + a) 0 (addV_ok (by omega)) (by omega) (by omega) (by omega) (by omega) _).mono ?_
  rintro e w2 ⟨rfl, rfl⟩
  go_wp2_with fail
  refine (sub_is (a) (b) 0 31 (subV_over (by omega)) (by omega) (by omega) (by omega) (by omega) _).mono ?_
  rintro e w2 ⟨rfl, rfl⟩
  go_wp2_with fail
  refine (sub_is (a + b) (b) (a + b - b) 0 (subV_ok (by omega)) (by omega) (by omega) (by omega) (by omega) _).mono ?_
  rintro e w2 ⟨rfl, rfl⟩
  go_wp2_with fail
  refine (add_is (a + b) (c) (a + b + c) 0 (addV_ok (by omega)) (by omega) (by omega) (by omega) (by omega) _).mono ?_
  rintro e w2 ⟨rfl, rfl⟩
  go_wp2_with fail
  refine (add_is (b) (c) (b + c) 0 (addV_ok (by omega)) (by omega) (by omega) (by omega) (by omega) _).mono ?_
  rintro e w2 ⟨rfl, rfl⟩
  go_wp2_with fail
  refine (add_is (a) (b + c) (a + (b + c)) 0 (addV_ok (by omega)) (by omega) (by omega) (by omega) (by omega) _).mono ?_
  rintro e w2 ⟨rfl, rfl⟩
  go_wp2_with fail
  go_ret
  exact ⟨rfl, hb1⟩

set_option maxHeartbeats 400000 in
theorem sums_6 (a b c : Int) (a0 : 0 ≤ a) (a1 : a ≤ 18446744073709551615) (b0 : 0 ≤ b) (b1 : b ≤ 18446744073709551615) (c0 : 0 ≤ c) (c1 : c ≤ 18446744073709551615) (w : World) (h1 : a + b ≤ 18446744073709551615) (h2 : a < b) (h3 : 18446744073709551615 < a + b + c) (h4 : b + c ≤ 18446744073709551615) :
    Calls Try.prog 8 #[.int .u64 a, .int .u64 b, .int .u64 c] w fun e w' => e = .returned (.bool true) ∧ Below w.heap.size w w' := by
  have t1 : (a + b == b + a) = true := beq_iff_eq.2 (by omega)
  have t2 : (a + b != b + a) = false := by rw [bne, t1]; rfl
  have t4 : (a + b - b == a) = true := beq_iff_eq.2 (by omega)
  go_enter Try.func8, Try.ntmps8
  go_wp2_with fail
  refine (awake_ok _).mono ?_
  rintro e w1 ⟨rfl, hb1⟩
  go_wp2_with fail
  refine (add_is (a) (b) (a + b) 0 (addV_ok (by omega)) (by omega) (by omega) (by omega) (by omega) _).mono ?_
  rintro e w2 ⟨rfl, rfl⟩
  go_wp2_with fail
  refine (add_is (b) (a) (b + a) 0 (addV_ok (by omega)) (by omega) (by omega) (by omega) (by omega) _).mono ?_
  rintro e w2 ⟨rfl, rfl⟩
  go_wp2_with fail
  refine (sub_is (a) (b) 0 31 (subV_over (by omega)) (by omega) (by omega) (by omega) (by omega) _).mono ?_
  rintro e w2 ⟨rfl, rfl⟩
  go_wp2_with fail
  refine (sub_is (a + b) (b) (a + b - b) 0 (subV_ok (by omega)) (by omega) (by omega) (by omega) (by omega) _).mono ?_
  rintro e w2 ⟨rfl, rfl⟩
  go_wp2_with fail
  refine (add_is (a + b) (c) 0 31 (addV_over (by omega)) (by omega) (by omega) (by omega) (by omega) _).mono ?_
  rintro e w2 ⟨rfl, rfl⟩
  go_wp2_with fail
  refine (add_is (b) (c) (b + c) 0 (addV_ok (by omega)) (by omega) (by omega) (by omega) (by omega) _).mono ?_
  rintro e w2 ⟨rfl, rfl⟩
  go_wp2_with fail
  refine (add_is (a) (b + c) 0 31 (addV_over (by omega)) (by omega) (by omega) (by omega) (by omega) _).mono ?_
  rintro e w2 ⟨rfl, rfl⟩
  go_wp2_with fail
  go_ret
  exact ⟨rfl, hb1⟩

set_option maxHeartbeats 400000 in
theorem sums_7 (a b c : Int) (a0 : 0 ≤ a) (a1 : a ≤ 18446744073709551615) (b0 : 0 ≤ b) (b1 : b ≤ 18446744073709551615) (c0 : 0 ≤ c) (c1 : c ≤ 18446744073709551615) (w : World) (h1 : a + b ≤ 18446744073709551615) (h2 : a < b) (h3 : 18446744073709551615 < a + b + c) (h4 : 18446744073709551615 < b + c) :
    Calls Try.prog 8 #[.int .u64 a, .int .u64 b, .int .u64 c] w fun e w' => e = .returned (.bool true) ∧ Below w.heap.size w w' := by
  have t1 : (a + b == b + a) = true := beq_iff_eq.2 (by omega)
  have t2 : (a + b != b + a) = false := by rw [bne, t1]; rfl
  have t4 : (a + b - b == a) = true := beq_iff_eq.2 (by omega)
  go_enter Try.func8, Try.ntmps8
  go_wp2_with fail
  refine (awake_ok _).mono ?_
  rintro e w1 ⟨rfl, hb1⟩
  go_wp2_with fail
  refine (add_is (a) (b) (a + b) 0 (addV_ok (by omega)) (by omega) (by omega) (by omega) (by omega) _).mono ?_
  rintro e w2 ⟨rfl, rfl⟩
  go_wp2_with fail
  refine (add_is (b) (a) (b + a) 0 (addV_ok (by omega)) (by omega) (by omega) (by omega) (by omega) _).mono ?_
  rintro e w2 ⟨rfl, rfl⟩
  go_wp2_with fail
  refine (sub_is (a) (b) 0 31 (subV_over (by omega)) (by omega) (by omega) (by omega) (by omega) _).mono ?_
  rintro e w2 ⟨rfl, rfl⟩
  go_wp2_with fail
  refine (sub_is (a + b) (b) (a + b - b) 0 (subV_ok (by omega)) (by omega) (by omega) (by omega) (by omega) _).mono ?_
  rintro e w2 ⟨rfl, rfl⟩
  go_wp2_with fail
  refine (add_is (a + b) (c) 0 31 (addV_over (by omega)) (by omega) (by omega) (by omega) (by omega) _).mono ?_
  rintro e w2 ⟨rfl, rfl⟩
  go_wp2_with fail
  refine (add_is (b) (c) 0 31 (addV_over (by omega)) (by omega) (by omega) (by omega) (by omega) _).mono ?_
  rintro e w2 ⟨rfl, rfl⟩
  go_wp2_with fail
  refine (add_is (a) (0) (a + 0) 0 (addV_ok (by omega)) (by omega) (by omega) (by omega) (by omega) _).mono ?_
  rintro e w2 ⟨rfl, rfl⟩
  go_wp2_with fail
  go_ret
  exact ⟨rfl, hb1⟩

theorem sums_walk (a b c : Int) (wa : (Lit.int .u64 a).wf = true) (wb : (Lit.int .u64 b).wf = true) (wc : (Lit.int .u64 c).wf = true) (w : World) :
    Calls Try.prog 8 #[.int .u64 a, .int .u64 b, .int .u64 c] w fun e w' => e = .returned (.bool true) ∧ Below w.heap.size w w' := by
  obtain ⟨a0, a1⟩ := bounds_u64 wa
  obtain ⟨b0, b1⟩ := bounds_u64 wb
  obtain ⟨c0, c1⟩ := bounds_u64 wc
  rcases Int.lt_or_le a b with h2 | h2
  · rcases Int.lt_or_le 18446744073709551615 (a + b) with h1 | h1
    · exact sums_4 a b c a0 a1 b0 b1 c0 c1 w h1 h2
    · rcases Int.lt_or_le 18446744073709551615 (a + b + c) with h3 | h3
      · rcases Int.lt_or_le 18446744073709551615 (b + c) with h4 | h4
        · exact sums_7 a b c a0 a1 b0 b1 c0 c1 w h1 h2 h3 h4
        · exact sums_6 a b c a0 a1 b0 b1 c0 c1 w h1 h2 h3 h4
      · exact sums_5 a b c a0 a1 b0 b1 c0 c1 w h1 h2 h3 (by omega)
  · rcases Int.lt_or_le 18446744073709551615 (a + b) with h1 | h1
    · exact sums_0 a b c a0 a1 b0 b1 c0 c1 w h1 h2
    · rcases Int.lt_or_le 18446744073709551615 (a + b + c) with h3 | h3
      · rcases Int.lt_or_le 18446744073709551615 (b + c) with h4 | h4
        · exact sums_3 a b c a0 a1 b0 b1 c0 c1 w h1 h2 h3 h4
        · exact sums_2 a b c a0 a1 b0 b1 c0 c1 w h1 h2 h3 h4
      · exact sums_1 a b c a0 a1 b0 b1 c0 c1 w h1 h2 h3 (by omega)
end Go.Proofs.Ytckehnippnpkaaa
