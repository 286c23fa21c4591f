/-
  The walk of the document's own Print (voussoirref03).
-/
import Derived.Test.YtmhboacfnklbgaaDoorAmtIs
import Derived.OpenShut
import Derived.Deep.RegionWith
import Derived.Deep.DeepCutAuto
import Derived.Laws.BytesArg
namespace Go.Proofs.YtmhboacfnklbgaaDoor
open Go.RowKit
set_option linter.unusedVariables false

/-- 'string([]byte{c})' -/
theorem one_byte_r (c : Int) (g : Nat) (W : World) (h : W.cell? ⟨g, 0, none⟩ = some (.int .u8 c)) :
    (convert 35 9 (.slice (some ⟨g, 0, none⟩) 1 1)).run Tryd.prog W = .ok (.string ⟨#[UInt8.ofNat c.toNat]⟩) W :=
  run_convert_bytes_arg W 35 5 Tryd.underlying35 Tryd.underlying5 g 0 1 1 [c] rfl (fun i hi => by
    have : i = 0 := by omega
    subst this
    simpa using h) 9 Tryd.underlying9
theorem kept_byte_r {W w2 : World} {c : Int} (hb : Below (W.alloc (.cells #[.int .u8 c] 5)).drew.heap.size (W.alloc (.cells #[.int .u8 c] 5)).drew w2) : w2.cell? ⟨W.heap.size, 0, none⟩ = some (.int .u8 c) :=
  (hb.cell (p := ⟨W.heap.size, 0, none⟩) (by simp)).trans (by simp)

theorem cat_bytes (X : List UInt8) (c : UInt8) : (⟨X.toArray⟩ ++ ⟨#[c]⟩ : ByteArray) = ⟨(X ++ [c]).toArray⟩ := by
  apply ByteArray.ext
  simp

set_option maxHeartbeats 1000000 in
theorem rprint (k : Nat) : ∀ (n : Int) (w : World), 0 ≤ n → n ≤ k → n ≤ 18446744073709551615 →
    Calls Tryd.prog 16 #[.int .u64 n] w fun r w' => r = .returned (.string ⟨(Amt.dec n.toNat).toArray⟩) ∧ Below w.heap.size w w' := by
  induction k with
  | zero =>
    intro n w h0 h1 h2
    obtain rfl : n = 0 := by omega
    have hone := fun (g : Nat) (W : World) (h : W.cell? ⟨g, 0, none⟩ = some (.int .u8 48)) => one_byte_r 48 g W h
    go_enter Tryd.func16, Tryd.ntmps16
    go_wp2_with fail
    go_ret
    exact ⟨rfl, (Below.refl _ _).alloc (Nat.le_refl _) _⟩
  | succ k ih =>
    intro n w h0 h1 h2
    by_cases h10 : n < 10
    · have hone := fun (g : Nat) (W : World) (h : W.cell? ⟨g, 0, none⟩ = some (.int .u8 (48 + n))) => one_byte_r (48 + n) g W h
      have HD : Hid ((⟨#[UInt8.ofNat (48 + n).toNat]⟩ : ByteArray) = ⟨(Amt.dec n.toNat).toArray⟩) := by
        rw [Amt.dec_eq, if_pos (by omega)]
        have : (48 + n).toNat = 48 + n.toNat := by omega
        rw [this]
        exact Lib.hid rfl
      clear ih
      go_enter Tryd.func16, Tryd.ntmps16
      go_wp2_with fail
      go_ret
      exact ⟨by rw [← HD.out]; rfl, (Below.refl _ _).alloc (Nat.le_refl _) _⟩
    · have hone := fun (g : Nat) (W : World) (h : W.cell? ⟨g, 0, none⟩ = some (.int .u8 (48 + n % 10))) => one_byte_r (48 + n % 10) g W h
      have hl := Amt.dec_len_le (n / 10).toNat (by omega)
      have HD : Hid ((⟨(Amt.dec (n / 10).toNat).toArray⟩ ++ ⟨#[UInt8.ofNat (48 + n % 10).toNat]⟩ : ByteArray) = ⟨(Amt.dec n.toNat).toArray⟩) := by
        rw [Amt.dec_eq n.toNat, if_neg (by omega), cat_bytes]
        have e1 : (48 + n % 10).toNat = 48 + n.toNat % 10 := by omega
        have e2 : (n / 10).toNat = n.toNat / 10 := by omega
        rw [e1, e2]
        exact Lib.hid rfl
      have IH := Lib.hid ih
      clear ih
      go_enter Tryd.func16, Tryd.ntmps16
      go_upto_region 3 with fail
      have q1 : IntKind.u64.wrap (n.tdiv 10) = n / 10 := by rw [Int.tdiv_eq_ediv_of_nonneg h0, IntKind.wrap_u64]; omega
      have q2 : n.tmod 10 = n % 10 := Int.tmod_eq_emod_of_nonneg h0
      have q3 : IntKind.u64.wrap (48 + n % 10) = 48 + n % 10 := by rw [IntKind.wrap_u64]; omega
      have q4 : IntKind.u8.wrap (48 + n % 10) = 48 + n % 10 := by rw [IntKind.wrap_u8]; omega
      have d1 : 0 ≤ n / 10 := by omega
      have d2 : n / 10 ≤ (k : Int) := by omega
      have d3 : n / 10 ≤ 18446744073709551615 := by omega
      go_region_with (first
        | (go_at_call 16; refine (IH.out (n / 10) _ d1 d2 d3).mono ?_; rintro e w2 ⟨rfl, hb2⟩; (try (have hc2 := kept_byte_r hb2))))
      all_goals clear q1 q2 q3 q4
      all_goals go_wp2_with fail
      all_goals go_ret
      · exact ⟨by rw [← HD.out]; rfl, Below.alloc (Below.trans (Below.drew (Below.refl _ _)) hb2) hb2.size _⟩
      all_goals exact ⟨by rw [← HD.out]; rfl, (((Below.refl _ _).alloc (Nat.le_refl _) _).drew).trans (hb2.mono (by simp))⟩
theorem rprint_any (n : Int) (w : World) (h0 : 0 ≤ n) (h1 : n ≤ 18446744073709551615) :
    Calls Tryd.prog 16 #[.int .u64 n] w fun r w' => r = .returned (.string ⟨(Amt.dec n.toNat).toArray⟩) ∧ Below w.heap.size w w' :=
  rprint n.toNat n w h0 (by omega) h1
end Go.Proofs.YtmhboacfnklbgaaDoor
