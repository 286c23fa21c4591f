/-
  Print and Parse of amounts, at answers that are known by a name.
-/
import Derived.Test.YtmhboacfnklbgaaDoorAmtWalk
namespace Go.Proofs.YtmhboacfnklbgaaDoor
open Go.RowKit

theorem parse_is (s : ByteArray) (n : Nat) (e : Int) (h : Amt.parse s.data.toList = (n, e)) (w : World) (hs : s.size ≤ maxLen) :
    Calls Tryd.prog 24 #[.string s] w fun r w' => r = .returned (.tuple #[.int .u64 (n : Int), .int .i64 e]) ∧ w = w' :=
  (parse_any s w hs).mono fun _ _ ⟨he, hw⟩ => ⟨by rw [he, h], hw⟩
theorem print_is (n : Int) (X : List UInt8) (h : Hid (Amt.dec n.toNat = X)) (w : World) (h0 : 0 ≤ n) (h1 : n ≤ 18446744073709551615) :
    Calls Tryd.prog 17 #[.int .u64 n] w fun r w' => r = .returned (.string ⟨X.toArray⟩) ∧ Below w.heap.size w w' :=
  (print_any n w h0 h1).mono fun _ _ ⟨he, hw⟩ => ⟨by rw [he, h.out], hw⟩
end Go.Proofs.YtmhboacfnklbgaaDoor
