/-
  Chapter 3's examples are answered as they should; Add and Sub.
-/
import Derived.Test.YtckehnippnpkaaaAmtWalk
namespace Go.Proofs.Ytckehnippnpkaaa
open Go.RowKit

theorem parse_is (s : ByteArray) (n : Nat) (e : Int) (h : Amt.parse s.data.toList = (n, e)) (w : World) (hs : s.size ≤ maxLen) :
    Calls Try.prog 11 #[.string s] w fun r w' => r = .returned (.tuple #[.int .u64 (n : Int), .int .i64 e]) ∧ w = w' :=
  (parse_any s w hs).mono fun _ _ ⟨he, hw⟩ => ⟨by rw [he, h], hw⟩
theorem parse_dec (n : Int) (w : World) (h0 : 0 ≤ n) (h1 : n ≤ 18446744073709551615) :
    Calls Try.prog 11 #[.string ⟨(Amt.dec n.toNat).toArray⟩] w fun r w' => r = .returned (.tuple #[.int .u64 n, .int .i64 0]) ∧ w = w' := by
  have hl := Amt.dec_len_le n.toNat (by omega)
  have h := parse_is ⟨(Amt.dec n.toNat).toArray⟩ n.toNat 0 (by simpa using Amt.parse_dec n.toNat (by omega)) w (by unfold maxLen; simp [ByteArray.size]; omega)
  rw [Int.toNat_of_nonneg h0] at h
  exact h
theorem print_is (n : Nat) (l : List UInt8) (h : Amt.dec n = l) (w : World) (h1 : (n : Int) ≤ 18446744073709551615) :
    Calls Try.prog 10 #[.int .u64 (n : Int)] w fun r w' => r = .returned (.string ⟨l.toArray⟩) ∧ Below w.heap.size w w' :=
  (print_any n w (by omega) h1).mono fun _ _ ⟨he, hw⟩ => ⟨by rw [he, Int.toNat_natCast, h], hw⟩

theorem p007 : Amt.parse [48, 48, 55] = (0, 30) := by decide
theorem pbig : Amt.parse [49, 56, 52, 52, 54, 55, 52, 52, 48, 55, 51, 55, 48, 57, 53, 53, 49, 54, 49, 54] = (0, 31) := by decide
theorem pmax : Amt.parse [49, 56, 52, 52, 54, 55, 52, 52, 48, 55, 51, 55, 48, 57, 53, 53, 49, 54, 49, 53] = (18446744073709551615, 0) := by decide
theorem d120 : Amt.dec 120 = [49, 50, 48] := by decide

set_option maxHeartbeats 400000 in
theorem awake_ok (w : World) : Calls Try.prog 9 #[] w fun e w' => e = .returned (.bool true) ∧ Below w.heap.size w w' := by
  go_enter Try.func9, Try.ntmps9
  go_wp2_with fail
  refine (parse_is _ _ _ p007 _ (by decide)).mono ?_
  rintro e w' ⟨rfl, rfl⟩
  go_wp2_with fail
  refine (parse_is _ _ _ pbig _ (by decide)).mono ?_
  rintro e w' ⟨rfl, rfl⟩
  go_wp2_with fail
  refine (parse_is _ _ _ pmax _ (by decide)).mono ?_
  rintro e w' ⟨rfl, rfl⟩
  go_wp2_with fail
  refine (print_is 120 _ d120 _ (by omega)).mono ?_
  rintro e w' ⟨rfl, hb⟩
  go_wp2_with fail
  go_ret
  exact ⟨rfl, hb⟩
end Go.Proofs.Ytckehnippnpkaaa
