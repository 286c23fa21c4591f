/-
  The walks of AmountDigits, AmountOrder and AmountRefuses.
-/
import Derived.Test.YtckehnippnpkaaaAmtAwake
import Derived.OpenShut
import Derived.Deep.RegionWith
import Derived.Deep.DeepCutAuto
import Derived.Laws.BytesArg
namespace Go.Proofs.Ytckehnippnpkaaa
open Go.RowKit

theorem bel3 {w w1 w2 w3 : World} (h1 : Below w.heap.size w w1) (h2 : Below w1.heap.size w1 w2) (h3 : Below w2.heap.size w2 w3) : Below w.heap.size w w3 :=
  h1.trans ((h2.mono h1.size).trans (h3.mono (Nat.le_trans h1.size h2.size)))
theorem bel2 {w w1 w2 : World} (h1 : Below w.heap.size w w1) (h2 : Below w1.heap.size w1 w2) : Below w.heap.size w w2 := h1.trans (h2.mono h1.size)

theorem less_eq : ∀ x y : List UInt8, Op.bytesLess x y = Amt.less x y
  | _, [] => by cases ‹List UInt8› <;> rfl
  | [], _ :: _ => rfl
  | a :: x, b :: y => by
    rw [Op.bytesLess, Amt.less, less_eq x y]
    by_cases h1 : a < b
    · simp [h1]
    · by_cases h2 : b < a
      · have : a ≠ b := by rintro rfl; exact h1 h2
        simp [h1, h2, this]
      · have : a = b := UInt8.toNat_inj.1 (by have := UInt8.not_lt.1 h1; have := UInt8.not_lt.1 h2; rw [UInt8.le_iff_toNat_le] at *; omega)
        simp [this]

theorem order_cases (a b : Int) (a0 : 0 ≤ a) (b0 : 0 ≤ b) : ((Amt.dec a.toNat).length < (Amt.dec b.toNat).length ∧ a < b) ∨ ((Amt.dec b.toNat).length < (Amt.dec a.toNat).length ∧ b < a) ∨
    ((Amt.dec a.toNat).length ≤ (Amt.dec b.toNat).length ∧ (Amt.dec b.toNat).length ≤ (Amt.dec a.toNat).length ∧ (a < b ∧ Op.bytesLess (Amt.dec a.toNat) (Amt.dec b.toNat) = true ∨ b ≤ a ∧ Op.bytesLess (Amt.dec a.toNat) (Amt.dec b.toNat) = false)) := by
  have hx := Amt.order_dec a.toNat b.toNat
  rw [← less_eq] at hx
  rcases Nat.lt_trichotomy (Amt.dec a.toNat).length (Amt.dec b.toNat).length with h | h | h
  · left
    refine ⟨h, ?_⟩
    simp [h] at hx
    omega
  · right; right
    refine ⟨by omega, by omega, ?_⟩
    have hx' : Op.bytesLess (Amt.dec a.toNat) (Amt.dec b.toNat) = decide (a.toNat < b.toNat) := by rw [← hx]; simp [h]
    by_cases hab : a < b
    · left; exact ⟨hab, by rw [hx', decide_eq_true_iff]; omega⟩
    · right
      exact ⟨by omega, by rw [hx', decide_eq_false_iff_not]; omega⟩
  · right; left
    have hn : ¬ (Amt.dec a.toNat).length < (Amt.dec b.toNat).length := by omega
    have hn2 : ¬ (Amt.dec a.toNat).length = (Amt.dec b.toNat).length := by omega
    simp [hn, hn2] at hx
    refine ⟨h, ?_⟩
    rcases Int.lt_or_le b a with h2 | h2
    · exact h2
    · have : a = b := by omega
      subst this; omega

theorem print_list (n : Int) (X : List UInt8) (h : Hid (Amt.dec n.toNat = X)) (w : World) (h0 : 0 ≤ n) (h1 : n ≤ 18446744073709551615) :
    Calls Try.prog 10 #[.int .u64 n] w fun r w' => r = .returned (.string ⟨X.toArray⟩) ∧ Below w.heap.size w w' :=
  (print_any n w h0 h1).mono fun _ _ ⟨he, hw⟩ => ⟨by rw [he, h.out], hw⟩

set_option maxHeartbeats 400000 in
theorem order_walk (a b : Int) (wa : (Lit.int .u64 a).wf = true) (wb : (Lit.int .u64 b).wf = true) (w : World) :
    Calls Try.prog 5 #[.int .u64 a, .int .u64 b] w fun e w' => e = .returned (.bool true) ∧ Below w.heap.size w w' := by
  obtain ⟨a0, a1⟩ := bounds_u64 wa
  obtain ⟨b0, b1⟩ := bounds_u64 wb
  clear wa wb
  have h1 := Amt.dec_length_pos a.toNat
  have h2 := Amt.dec_len_le a.toNat (by omega)
  have h5 := Amt.dec_len_le b.toNat (by omega)
  have h6 := Amt.dec_length_pos b.toNat
  have hc := order_cases a b a0 b0
  generalize hX : Amt.dec a.toNat = X at *
  generalize hY : Amt.dec b.toNat = Y at *
  have HX := Lib.hid hX
  have HY := Lib.hid hY
  clear hX hY
  have h3 : (X.length : Int) ≤ 20 := by omega
  have h4 : (1 : Int) ≤ X.length := by omega
  have h7 : (Y.length : Int) ≤ 20 := by omega
  have h8 : (1 : Int) ≤ Y.length := by omega
  rcases hc with ⟨c1, c2⟩ | ⟨c1, c2⟩ | ⟨c1, c2, ⟨c3, c4⟩ | ⟨c3, c4⟩⟩
  all_goals
    go_enter Try.func5, Try.ntmps5
    go_wp2_with fail
    refine (awake_ok _).mono ?_
    rintro e w1 ⟨rfl, hb1⟩
    go_wp2_with fail
    refine (print_list a X HX _ a0 a1).mono ?_
    rintro e w2 ⟨rfl, hb2⟩
    go_wp2_with fail
    refine (print_list b Y HY _ b0 b1).mono ?_
    rintro e w3 ⟨rfl, hb3⟩
    go_wp2_with fail
    go_ret
    exact ⟨rfl, bel3 hb1 hb2 hb3⟩

theorem digits_cases (a c : Int) (a0 : 0 ≤ a) (c0 : 0 ≤ c) (c1 : c ≤ 255) :
    ((c < 48 ∨ 57 < c ∨ a = 0) ∧ Amt.parse (Amt.dec a.toNat ++ [UInt8.ofNat c.toNat]) = (0, 30)) ∨
    (48 ≤ c ∧ c ≤ 57 ∧ 0 < a ∧ (18446744073709551615 - (c - 48)) / 10 < a ∧ Amt.parse (Amt.dec a.toNat ++ [UInt8.ofNat c.toNat]) = (0, 31)) ∨
    (48 ≤ c ∧ c ≤ 57 ∧ 0 < a ∧ a ≤ (18446744073709551615 - (c - 48)) / 10 ∧ Amt.parse (Amt.dec a.toNat ++ [UInt8.ofNat c.toNat]) = ((10 * a + (c - 48)).toNat, 0)) := by
  have hb : (UInt8.ofNat c.toNat).toNat = c.toNat := by rw [UInt8.toNat_ofNat']; omega
  by_cases h : c < 48 ∨ 57 < c ∨ a = 0
  · left
    refine ⟨h, Amt.parse_bad ?_⟩
    by_cases h2 : a = 0
    · subst h2; exact Amt.form_zero _
    · refine Amt.form_not_dig _ _ ?_
      unfold Amt.isDig
      rw [hb, Bool.and_eq_false_iff]
      rcases h with h | h | h
      · left; simp; omega
      · right; simp; omega
      · exact absurd h h2
  · right
    have hd : Amt.isDig (UInt8.ofNat c.toNat) = true := by
      unfold Amt.isDig
      rw [hb]; simp; omega
    have hf := Amt.form_digits a.toNat (UInt8.ofNat c.toNat) (by omega) hd
    have hv : Amt.val (Amt.dec a.toNat ++ [UInt8.ofNat c.toNat]) = (10 * a + (c - 48)).toNat := by
      rw [Amt.val_snoc, Amt.val_dec, hb]; omega
    by_cases h3 : (18446744073709551615 - (c - 48)) / 10 < a
    · left
      exact ⟨by omega, by omega, by omega, h3, Amt.parse_over hf (by rw [hv]; omega)⟩
    · right
      refine ⟨by omega, by omega, by omega, by omega, ?_⟩
      rw [Amt.parse_good hf (by rw [hv]; omega), hv]

/-- 'string([]byte{c})' -/
theorem one_byte (c : Int) (g : Nat) (W : World) (h : W.cell? ⟨g, 0, none⟩ = some (.int .u8 c)) :
    (convert 29 9 (.slice (some ⟨g, 0, none⟩) 1 1)).run Try.prog W = .ok (.string ⟨#[UInt8.ofNat c.toNat]⟩) W :=
  run_convert_bytes_arg W 29 5 Try.underlying29 Try.underlying5 g 0 1 1 [c] rfl (fun i hi => by
    have : i = 0 := by omega
    subst this
    simpa using h) 9 Try.underlying9

theorem kept_byte {W w2 : World} {c : Int} (hb : Below (W.alloc (.cells #[.int .u8 c] 5)).drew.heap.size (W.alloc (.cells #[.int .u8 c] 5)).drew w2) : w2.cell? ⟨W.heap.size, 0, none⟩ = some (.int .u8 c) :=
  (hb.cell (p := ⟨W.heap.size, 0, none⟩) (by simp)).trans (by simp)
theorem parse_cat (X : List UInt8) (c : UInt8) (w : World) (h : X.length ≤ 20) :
    Calls Try.prog 11 #[.string (⟨X.toArray⟩ ++ ⟨#[c]⟩)] w fun r w' => r = .returned (.tuple #[.int .u64 (Amt.parse (X ++ [c])).1, .int .i64 (Amt.parse (X ++ [c])).2]) ∧ w = w' := by
  have e : ((⟨X.toArray⟩ ++ ⟨#[c]⟩ : ByteArray)).data.toList = X ++ [c] := by simp
  have h2 := parse_any (⟨X.toArray⟩ ++ ⟨#[c]⟩) w (by rw [← len_data, e]; unfold maxLen; simp; omega)
  rw [e] at h2
  exact h2

set_option maxHeartbeats 1000000 in
theorem digits_walk (a c : Int) (wa : (Lit.int .u64 a).wf = true) (wc : (Lit.int .u8 c).wf = true) (w : World) :
    Calls Try.prog 4 #[.int .u64 a, .int .u8 c] w fun e w' => e = .returned (.bool true) ∧ Below w.heap.size w w' := by
  obtain ⟨a0, a1⟩ := bounds_u64 wa
  obtain ⟨c0, c1⟩ := bounds_u8 wc
  have hl := Amt.dec_len_le a.toNat (by omega)
  have hone := fun (g : Nat) (W : World) (h : W.cell? ⟨g, 0, none⟩ = some (.int .u8 c)) => one_byte c g W h
  clear wa wc
  go_enter Try.func4, Try.ntmps4
  go_wp2_with fail
  refine (awake_ok _).mono ?_
  rintro e w1 ⟨rfl, hb1⟩
  go_upto_region 2 with fail
  go_cut [6, 7] (fun n e wx => n = .int .u64 (Amt.parse (Amt.dec a.toNat ++ [UInt8.ofNat c.toNat])).1 ∧ e = .int .i64 (Amt.parse (Amt.dec a.toNat ++ [UInt8.ofNat c.toNat])).2 ∧ Below w1.heap.size w1 wx)
  case first =>
    go_region_with (first
      | (go_at_call 10; refine (print_any a _ a0 a1).mono ?_; rintro e w2 ⟨rfl, hb2⟩; (try (have hc2 := kept_byte hb2)))
      | (go_at_call 11; refine (parse_cat _ _ _ hl).mono ?_; rintro e w3 ⟨rfl, rfl⟩))
    all_goals go_wp2_with fail
    all_goals go_meet
    · exact ⟨rfl, rfl, Below.alloc (Below.trans (Below.drew (Below.refl _ _)) hb2) hb2.size _⟩
    all_goals exact ⟨rfl, rfl, (((Below.refl _ _).alloc (Nat.le_refl _) _).drew).trans (hb2.mono (by simp))⟩
  case rest =>
    obtain ⟨rfl, rfl, hb3⟩ := hcut
    rcases digits_cases a c a0 c0 c1 with ⟨h1, h2⟩ | ⟨h1, h2, h3, h4, h5⟩ | ⟨h1, h2, h3, h4, h5⟩
    · rw [h2]
      have H2 := Lib.hid h2
      clear h2
      rcases h1 with h1 | h1 | h1
      · go_wp2_with fail
        go_ret
        exact ⟨rfl, bel2 hb1 hb3⟩
      · have h48 : 48 ≤ c := by omega
        go_wp2_with fail
        go_ret
        exact ⟨rfl, bel2 hb1 hb3⟩
      · subst h1
        go_wp2_with fail
        all_goals go_ret
        all_goals exact ⟨rfl, bel2 hb1 hb3⟩
    · rw [h5]
      have H5 := Lib.hid h5
      clear h5
      have t1 : decide (c < 48) = false := decide_eq_false (by omega)
      have t2 : decide (57 < c) = false := decide_eq_false (by omega)
      have t3 : (a == 0) = false := beq_eq_false_iff_ne.2 (by omega)
      try rw [Int.toNat_of_nonneg (by omega)]
      go_wp2_with fail
      go_ret
      exact ⟨rfl, bel2 hb1 hb3⟩
    · rw [h5]
      have H5 := Lib.hid h5
      clear h5
      have t1 : decide (c < 48) = false := decide_eq_false (by omega)
      have t2 : decide (57 < c) = false := decide_eq_false (by omega)
      have t3 : (a == 0) = false := beq_eq_false_iff_ne.2 (by omega)
      try rw [Int.toNat_of_nonneg (by omega)]
      go_wp2_with fail
      go_ret
      exact ⟨rfl, bel2 hb1 hb3⟩
end Go.Proofs.Ytckehnippnpkaaa
