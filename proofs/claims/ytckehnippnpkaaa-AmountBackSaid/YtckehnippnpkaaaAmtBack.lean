/-
  The walk of AmountBack.
-/
import Derived.Test.YtckehnippnpkaaaAmtAwake
import Derived.OpenShut
namespace Go.Proofs.Ytckehnippnpkaaa
open Go.RowKit

theorem dec_beq (a b : Int) (a0 : 0 ≤ a) (b0 : 0 ≤ b) : (Amt.dec a.toNat == Amt.dec b.toNat) = (a == b) := by
  rw [Bool.eq_iff_iff, beq_iff_eq, beq_iff_eq]
  exact ⟨fun h => by have := Amt.dec_inj h; omega, fun h => by rw [h]⟩
theorem dec_eq_text {s : ByteArray} {m : Nat} (h : Amt.dec m = s.data.toList) : (Amt.dec m == s.toList) = true := by rw [ByteArray.toList_eq, h, beq_self_eq_true]

set_option maxHeartbeats 400000 in
theorem back_walk (a b : Int) (s : ByteArray) (wa : (Lit.int .u64 a).wf = true) (wb : (Lit.int .u64 b).wf = true) (hs : s.size ≤ maxLen) (w : World) :
    Calls Try.prog 3 #[.int .u64 a, .int .u64 b, .string s] w fun e w' => e = .returned (.bool true) ∧ Below w.heap.size w w' := by
  obtain ⟨a0, a1⟩ := bounds_u64 wa
  obtain ⟨b0, b1⟩ := bounds_u64 wb
  clear wa wb
  have hq := dec_beq a b a0 b0
  have hlen : a ≤ b → (Amt.dec a.toNat).length ≤ (Amt.dec b.toNat).length := fun h => Amt.dec_len_mono (by omega)
  obtain ⟨m, e, hp, hc⟩ : ∃ m e, Amt.parse s.data.toList = (m, e) ∧ ((e = 0 ∧ Amt.dec m = s.data.toList ∧ m < 18446744073709551616) ∨ (e ≠ 0 ∧ m = 0)) := ⟨_, _, rfl, Amt.parse_cases _⟩
  have HP := Lib.hid hp
  clear hp
  have hab : a ≤ b ∧ (Amt.dec a.toNat).length ≤ (Amt.dec b.toNat).length ∨ b < a := by
    rcases Int.lt_or_le b a with h | h
    · exact .inr h
    · exact .inl ⟨h, hlen h⟩
  clear hlen
  rcases hab with ⟨hab, hlen⟩ | hab <;> rcases hc with ⟨rfl, ht, hm⟩ | ⟨he, rfl⟩
  case' inl.inl => have hx := dec_eq_text ht; clear ht
  case' inr.inl => have hx := dec_eq_text ht; clear ht
  case' inl.inr => have hx : (e == 0) = false := (beq_eq_false_iff_ne.2 he); have hy : (e != 0) = true := bne_iff_ne.2 he; clear he
  case' inr.inr => have hx : (e == 0) = false := (beq_eq_false_iff_ne.2 he); have hy : (e != 0) = true := bne_iff_ne.2 he; clear he
  all_goals
    go_enter Try.func3, Try.ntmps3
    go_wp2_with fail
    refine (awake_ok _).mono ?_
    rintro e w1 ⟨rfl, hb1⟩
    go_wp2_with fail
    refine (print_any a _ a0 a1).mono ?_
    rintro e w2 ⟨rfl, hb2⟩
    go_wp2_with fail
    refine (print_any b _ b0 b1).mono ?_
    rintro e w3 ⟨rfl, hb3⟩
    go_wp2_with fail
    refine (parse_dec a _ a0 a1).mono ?_
    rintro e w' ⟨rfl, rfl⟩
    go_wp2_with fail
    refine (parse_is s _ _ HP.out _ hs).mono ?_
    rintro e w' ⟨rfl, rfl⟩
    go_wp2_with fail
    first
      | (go_ret; exact ⟨rfl, hb1.trans (((hb2.mono hb1.size).trans ((hb3.mono (Nat.le_trans hb1.size hb2.size)))))⟩)
      | (refine (print_is m _ rfl _ (by omega)).mono ?_
         rintro e w4 ⟨rfl, hb4⟩
         go_wp2_with fail
         go_ret
         exact ⟨rfl, hb1.trans (((hb2.mono hb1.size).trans ((hb3.mono (Nat.le_trans hb1.size hb2.size)).trans (hb4.mono (Nat.le_trans hb1.size (Nat.le_trans hb2.size hb3.size))))))⟩)
end Go.Proofs.Ytckehnippnpkaaa
