/-
  The walk of AmountTells.
-/
import Derived.Test.YtckehnippnpkaaaAmtRef
import Derived.Test.YtckehnippnpkaaaAmtSums
namespace Go.Proofs.Ytckehnippnpkaaa
open Go.RowKit
set_option linter.unusedVariables false

set_option maxHeartbeats 400000 in
theorem radd_is (a b n e : Int) (h : addV a b = (n, e)) (a0 : 0 ≤ a) (a1 : a ≤ 18446744073709551615) (b0 : 0 ≤ b) (b1 : b ≤ 18446744073709551615) (w : World) :
    Calls Try.prog 14 #[.int .u64 a, .int .u64 b] w fun r w' => r = .returned (.tuple #[.int .u64 n, .int .i64 e]) ∧ w = w' := by
  unfold addV at h
  by_cases hc : a + b ≤ 18446744073709551615
  · rw [if_pos hc] at h
    simp only [Prod.mk.injEq] at h
    obtain ⟨rfl, rfl⟩ := h
    have : ¬ 18446744073709551615 - a < b := by omega
    go_enter Try.func14, Try.ntmps14
    go_wp2
    go_ret2
    exact ⟨rfl, rfl⟩
  · rw [if_neg hc] at h
    simp only [Prod.mk.injEq] at h
    obtain ⟨rfl, rfl⟩ := h
    have : 18446744073709551615 - a < b := by omega
    go_enter Try.func14, Try.ntmps14
    go_wp2
    go_ret2
    exact ⟨rfl, rfl⟩

set_option maxHeartbeats 400000 in
theorem rsub_is (a b n e : Int) (h : subV a b = (n, e)) (a0 : 0 ≤ a) (a1 : a ≤ 18446744073709551615) (b0 : 0 ≤ b) (b1 : b ≤ 18446744073709551615) (w : World) :
    Calls Try.prog 16 #[.int .u64 a, .int .u64 b] w fun r w' => r = .returned (.tuple #[.int .u64 n, .int .i64 e]) ∧ w = w' := by
  unfold subV at h
  by_cases hc : b ≤ a
  · rw [if_pos hc] at h
    simp only [Prod.mk.injEq] at h
    obtain ⟨rfl, rfl⟩ := h
    have : ¬ a < b := by omega
    go_enter Try.func16, Try.ntmps16
    go_wp2
    go_ret2
    exact ⟨rfl, rfl⟩
  · rw [if_neg hc] at h
    simp only [Prod.mk.injEq] at h
    obtain ⟨rfl, rfl⟩ := h
    have : a < b := by omega
    go_enter Try.func16, Try.ntmps16
    go_wp2
    go_ret2
    exact ⟨rfl, rfl⟩

theorem rparse_is (s : ByteArray) (n : Nat) (e : Int) (h : Amt.parse s.data.toList = (n, e)) (w : World) (hs : s.size ≤ maxLen) :
    Calls Try.prog 12 #[.string s] w fun r w' => r = .returned (.tuple #[.int .u64 (n : Int), .int .i64 e]) ∧ w = w' :=
  (rparse_any s w hs).mono fun _ _ ⟨he, hw⟩ => ⟨by rw [he, h], hw⟩
theorem print_lst (n : Int) (X : List UInt8) (h : Hid (Amt.dec n.toNat = X)) (w : World) (h0 : 0 ≤ n) (h1 : n ≤ 18446744073709551615) :
    Calls Try.prog 10 #[.int .u64 n] w fun r w' => r = .returned (.string ⟨X.toArray⟩) ∧ Below w.heap.size w w' :=
  (print_any n w h0 h1).mono fun _ _ ⟨he, hw⟩ => ⟨by rw [he, h.out], hw⟩
theorem rprint_lst (n : Int) (X : List UInt8) (h : Hid (Amt.dec n.toNat = X)) (w : World) (h0 : 0 ≤ n) (h1 : n ≤ 18446744073709551615) :
    Calls Try.prog 17 #[.int .u64 n] w fun r w' => r = .returned (.string ⟨X.toArray⟩) ∧ Below w.heap.size w w' :=
  (rprint_any n w h0 h1).mono fun _ _ ⟨he, hw⟩ => ⟨by rw [he, h.out], hw⟩

set_option maxHeartbeats 1000000 in
theorem tells_walk (a b : Int) (s : ByteArray) (wa : (Lit.int .u64 a).wf = true) (wb : (Lit.int .u64 b).wf = true) (hs : s.size ≤ maxLen) (w : World) :
    Calls Try.prog 7 #[.int .u64 a, .int .u64 b, .string s] w fun e w' => e = .returned (.bool true) ∧ Below w.heap.size w w' := by
  obtain ⟨a0, a1⟩ := bounds_u64 wa
  obtain ⟨b0, b1⟩ := bounds_u64 wb
  clear wa wb
  obtain ⟨n, e, hp⟩ : ∃ n e, Amt.parse s.data.toList = (n, e) := ⟨_, _, rfl⟩
  have HP := Lib.hid hp
  clear hp
  obtain ⟨x, g, hx⟩ : ∃ x g, addV a b = (x, g) := ⟨_, _, rfl⟩
  have HX := Lib.hid hx
  clear hx
  obtain ⟨p, i, hq⟩ : ∃ p i, subV a b = (p, i) := ⟨_, _, rfl⟩
  have HQ := Lib.hid hq
  clear hq
  obtain ⟨X, hX⟩ : ∃ X, Amt.dec a.toNat = X := ⟨_, rfl⟩
  have HX2 := Lib.hid hX
  clear hX
  go_enter Try.func7, Try.ntmps7
  go_wp2_with fail
  refine (awake_ok _).mono ?_
  rintro e w1 ⟨rfl, hb1⟩
  go_wp2_with fail
  refine (parse_is s _ _ HP.out _ hs).mono ?_
  rintro e w2 ⟨rfl, rfl⟩
  go_wp2_with fail
  refine (rparse_is s _ _ HP.out _ hs).mono ?_
  rintro e w2 ⟨rfl, rfl⟩
  go_wp2_with fail
  refine (add_is a b x g HX.out a0 a1 b0 b1 _).mono ?_
  rintro e w2 ⟨rfl, rfl⟩
  go_wp2_with fail
  refine (radd_is a b x g HX.out a0 a1 b0 b1 _).mono ?_
  rintro e w2 ⟨rfl, rfl⟩
  go_wp2_with fail
  refine (sub_is a b p i HQ.out a0 a1 b0 b1 _).mono ?_
  rintro e w2 ⟨rfl, rfl⟩
  go_wp2_with fail
  refine (rsub_is a b p i HQ.out a0 a1 b0 b1 _).mono ?_
  rintro e w2 ⟨rfl, rfl⟩
  go_wp2_with fail
  refine (print_lst a X HX2 _ a0 a1).mono ?_
  rintro e w2 ⟨rfl, hb2⟩
  go_wp2_with fail
  refine (rprint_lst a X HX2 _ a0 a1).mono ?_
  rintro e w3 ⟨rfl, hb3⟩
  go_wp2_with fail
  go_ret
  exact ⟨rfl, hb1.trans ((hb2.mono hb1.size).trans (hb3.mono (Nat.le_trans hb1.size hb2.size)))⟩
end Go.Proofs.Ytckehnippnpkaaa
