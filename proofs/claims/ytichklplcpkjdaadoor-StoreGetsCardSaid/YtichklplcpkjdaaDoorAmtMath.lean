/-
  Plain facts on amounts: digits, the number that they make, what a text must be. No program in sight.
-/
namespace Amt
/-- The digits of a number, the highest first; the first argument bounds their count. -/
def decF : Nat → Nat → List UInt8
  | 0, n => [UInt8.ofNat (48 + n)]
  | f + 1, n => if n < 10 then [UInt8.ofNat (48 + n)] else decF f (n / 10) ++ [UInt8.ofNat (48 + n % 10)]
theorem decF_same (f : Nat) : ∀ g n, n ≤ f → n ≤ g → decF f n = decF g n := by
  induction f with
  | zero =>
    intro g n h _
    have : n = 0 := by omega
    subst this
    cases g with
    | zero => rfl
    | succ g => rfl
  | succ f ih =>
    intro g n h1 h2
    cases g with
    | zero =>
      have : n = 0 := by omega
      subst this
      rfl
    | succ g =>
      unfold decF
      by_cases h : n < 10
      · rw [if_pos h, if_pos h]
      · rw [if_neg h, if_neg h, ih g (n / 10) (by omega) (by omega)]
/-- The digits of a number, the highest first. -/
def dec (n : Nat) : List UInt8 := decF n n
theorem dec_eq (n : Nat) : dec n = if n < 10 then [UInt8.ofNat (48 + n)] else dec (n / 10) ++ [UInt8.ofNat (48 + n % 10)] := by
  unfold dec
  cases n with
  | zero => rfl
  | succ n =>
    rw [decF]
    by_cases h : n + 1 < 10
    · rw [if_pos h, if_pos h]
    · rw [if_neg h, if_neg h, decF_same n ((n + 1) / 10) ((n + 1) / 10) (by omega) (Nat.le_refl _)]
theorem dec_ind {P : Nat → Prop} (h1 : ∀ n, n < 10 → P n) (h2 : ∀ n, ¬ n < 10 → P (n / 10) → P n) (n : Nat) : P n := by
  induction n using Nat.strongRecOn with
  | _ n ih =>
    by_cases h : n < 10
    · exact h1 n h
    · exact h2 n h (ih (n / 10) (by omega))

/-- What stands ahead, where there is something. -/
def ahead (ok : Bool) (n : Nat) : List UInt8 := if ok then dec n else []
theorem dec_step (n : Nat) : dec n = ahead (decide (0 < n / 10)) (n / 10) ++ [UInt8.ofNat (48 + n % 10)] := by
  rw [dec_eq]
  unfold ahead
  by_cases h : n < 10
  · have h1 : n / 10 = 0 := by omega
    have h2 : n % 10 = n := by omega
    simp [h, h1, h2]
  · have h1 : 0 < n / 10 := by omega
    simp [h, h1]
theorem dec_ne (n : Nat) : dec n ≠ [] := by rw [dec_eq]; split <;> simp
theorem dec_length_pos (n : Nat) : 0 < (dec n).length := List.length_pos_iff.2 (dec_ne n)

/-- the number that digits make -/
def val (l : List UInt8) : Nat := l.foldl (fun n c => 10 * n + (c.toNat - 48)) 0
theorem val_snoc (l : List UInt8) (c : UInt8) : val (l ++ [c]) = 10 * val l + (c.toNat - 48) := by simp [val]
def isDig (c : UInt8) : Bool := decide (48 ≤ c.toNat) && decide (c.toNat ≤ 57)
theorem byte_dig (d : Nat) (h : d < 10) : (UInt8.ofNat (48 + d)).toNat = 48 + d := by
  rw [UInt8.toNat_ofNat']; omega
theorem val_dec (n : Nat) : val (dec n) = n := by
  induction n using dec_ind with
  | h1 n h => rw [dec_eq, if_pos h]; simp only [val, List.foldl]; rw [byte_dig n h]; omega
  | h2 n h ih => rw [dec_eq, if_neg h, val_snoc, ih, byte_dig _ (by omega)]; omega
theorem all_dec (n : Nat) : (dec n).all isDig = true := by
  induction n using dec_ind with
  | h1 n h => rw [dec_eq, if_pos h]; simp [isDig]; omega
  | h2 n h ih => rw [dec_eq, if_neg h, List.all_append, ih]; simp [isDig]; omega
/-- no 0 ahead, but in 0 itself -/
theorem head_dec (n : Nat) (h : 0 < n) : ∃ c r, dec n = c :: r ∧ 49 ≤ c.toNat := by
  induction n using dec_ind with
  | h1 n h' => rw [dec_eq, if_pos h']; exact ⟨_, [], rfl, by rw [byte_dig n h']; omega⟩
  | h2 n h' ih =>
    obtain ⟨c, r, e, hc⟩ := ih (by omega)
    rw [dec_eq, if_neg h', e]
    exact ⟨c, r ++ [_], rfl, hc⟩
theorem dec_zero : dec 0 = [48] := by rw [dec_eq]; rfl

theorem snoc_ind {α : Type} {P : List α → Prop} (h0 : P []) (h1 : ∀ l c, P l → P (l ++ [c])) : ∀ l, P l := by
  intro l
  have h : ∀ (r : List α), P r.reverse := by
    intro r
    induction r with
    | nil => exact h0
    | cons c r ih => rw [List.reverse_cons]; exact h1 _ _ ih
  have := h l.reverse
  rwa [List.reverse_reverse] at this
theorem dig_bounds {c : UInt8} (h : isDig c = true) : 48 ≤ c.toNat ∧ c.toNat ≤ 57 := by simpa [isDig] using h
theorem all_snoc {l : List UInt8} {c : UInt8} (h : (l ++ [c]).all isDig = true) : l.all isDig = true ∧ isDig c = true := by
  rw [List.all_append, Bool.and_eq_true] at h
  exact ⟨h.1, by simpa using h.2⟩
/-- the number lies between powers of ten -/
theorem val_lt (l : List UInt8) : l.all isDig = true → val l < 10 ^ l.length := by
  induction l using snoc_ind with
  | h0 => intro _; simp [val]
  | h1 l c ih =>
    intro h
    obtain ⟨h1, h2⟩ := all_snoc h
    have := ih h1
    have hb := dig_bounds h2
    rw [val_snoc, List.length_append, List.length_singleton, Nat.pow_succ]
    omega
theorem val_ge (c : UInt8) (l : List UInt8) (hc : 49 ≤ c.toNat) : 10 ^ l.length ≤ val (c :: l) := by
  induction l using snoc_ind with
  | h0 => simp [val]; omega
  | h1 l d ih =>
    rw [← List.cons_append, val_snoc, List.length_append, List.length_singleton, Nat.pow_succ]
    omega
/-- a text that is an amount: digits, no 0 ahead of others -/
def form (l : List UInt8) : Bool := !l.isEmpty && (decide (l.head? ≠ some 48) || decide (l.length = 1)) && l.all isDig
theorem form_snoc {l : List UInt8} {c : UInt8} (hl : l ≠ []) (h : form (l ++ [c]) = true) : form l = true ∧ l ≠ [48] ∧ isDig c = true := by
  cases l with
  | nil => exact absurd rfl hl
  | cons a l =>
    simp [form] at h ⊢
    refine ⟨⟨.inl h.1, h.2.1, h.2.2.1⟩, fun e => absurd e h.1, h.2.2.2⟩
theorem dec_val (l : List UInt8) : form l = true → dec (val l) = l := by
  induction l using snoc_ind with
  | h0 => intro h; simp [form] at h
  | h1 l c ih =>
    intro h
    by_cases hl : l = []
    · subst hl
      have hd : isDig c = true := by simpa [form] using h
      have hb := dig_bounds hd
      have hv : val ([] ++ [c]) = c.toNat - 48 := by simp [val]
      rw [hv, dec_eq, if_pos (by omega)]
      have : 48 + (c.toNat - 48) = c.toNat := by omega
      rw [this]
      simp
    · obtain ⟨hf, hne, hd⟩ := form_snoc hl h
      have hb := dig_bounds hd
      have h0 : 0 < val l := by
        rcases l with _ | ⟨a, r⟩
        · exact absurd rfl hl
        · have ha : 49 ≤ a.toNat := by
            have hh : a ≠ 48 := by
              simp [form] at h; exact h.1
            have hda : isDig a = true := by
              simp [form] at h; exact h.2.1
            have := dig_bounds hda
            have h48 : a.toNat ≠ 48 := fun e => hh (UInt8.toNat_inj.1 e)
            omega
          have := val_ge a r ha
          have : 0 < 10 ^ r.length := Nat.pow_pos (by omega)
          omega
      rw [val_snoc, dec_eq, if_neg (by omega)]
      have e1 : (10 * val l + (c.toNat - 48)) / 10 = val l := by omega
      have e2 : (10 * val l + (c.toNat - 48)) % 10 = c.toNat - 48 := by omega
      rw [e1, e2, ih hf]
      have : 48 + (c.toNat - 48) = c.toNat := by omega
      rw [this]
      simp
theorem form_dec (n : Nat) : form (dec n) = true := by
  have ha := all_dec n
  by_cases h : 0 < n
  · obtain ⟨c, r, e, hc⟩ := head_dec n h
    rw [e] at ha ⊢
    have : c ≠ 48 := by rintro rfl; simp at hc
    have ha' : isDig c = true ∧ ∀ x, x ∈ r → isDig x = true := by simpa using ha
    simp only [form, List.isEmpty_cons, Bool.not_false, List.head?_cons, Bool.true_and, ha, Bool.and_true]
    simp [this]
  · have : n = 0 := by omega
    subst this
    rw [dec_zero]; decide
/-- what Parse answers: the number, and the error's number -/
def parse (l : List UInt8) : Nat × Int := if form l then (if val l < 18446744073709551616 then (val l, 0) else (0, 31)) else (0, 30)
theorem parse_dec (n : Nat) (h : n < 18446744073709551616) : parse (dec n) = (n, 0) := by
  unfold parse; rw [form_dec, val_dec]; simp [h]
theorem dec_inj {a b : Nat} (h : dec a = dec b) : a = b := by rw [← val_dec a, h, val_dec]
theorem dec_len {n : Nat} : (n < 10 ^ (dec n).length) ∧ (0 < n → 10 ^ ((dec n).length - 1) ≤ n) := by
  constructor
  · have := val_lt (dec n) (all_dec n); rwa [val_dec] at this
  · intro h
    obtain ⟨c, r, e, hc⟩ := head_dec n h
    have := val_ge c r hc
    rw [← e, val_dec] at this
    rw [e]; simpa using this
theorem dec_len_mono {a b : Nat} (h : a ≤ b) : (dec a).length ≤ (dec b).length := by
  by_cases h0 : 0 < a
  · have h1 := (dec_len (n := a)).2 h0
    have h2 := (dec_len (n := b)).1
    have h3 : 10 ^ ((dec a).length - 1) < 10 ^ (dec b).length := by omega
    have := (Nat.pow_lt_pow_iff_right (by omega : 1 < 10)).1 h3
    have := dec_length_pos a
    omega
  · have : a = 0 := by omega
    subst this
    rw [dec_zero]
    exact dec_length_pos b
theorem dec_len_le (n : Nat) (h : n < 18446744073709551616) : (dec n).length ≤ 20 := by
  have h1 := dec_len_mono (show n ≤ 99999999999999999999 by omega)
  have h2 : (dec 99999999999999999999).length ≤ 20 := by
    have := (dec_len (n := 99999999999999999999)).2 (by omega)
    rcases Nat.lt_or_ge 20 (dec 99999999999999999999).length with h | h
    · have h3 : 10 ^ 20 ≤ 10 ^ ((dec 99999999999999999999).length - 1) := Nat.pow_le_pow_right (by omega) (by omega)
      have h4 : (10 : Nat) ^ 20 = 100000000000000000000 := by decide
      omega
    · exact h
  omega
theorem parse_ok {l : List UInt8} {n : Nat} (h : parse l = (n, 0)) : dec n = l := by
  unfold parse at h
  split at h
  · rename_i hf
    split at h
    · have : n = val l := by simpa using h.symm
      subst this
      exact dec_val l hf
    · simp at h
  · simp at h
theorem parse_cases (l : List UInt8) : ((parse l).2 = 0 ∧ dec (parse l).1 = l ∧ (parse l).1 < 18446744073709551616) ∨ ((parse l).2 ≠ 0 ∧ (parse l).1 = 0) := by
  unfold parse
  split
  · rename_i hf
    split
    · rename_i h; exact .inl ⟨rfl, dec_val l hf, h⟩
    · exact .inr ⟨by decide, rfl⟩
  · exact .inr ⟨by decide, rfl⟩
theorem form_digits (a : Nat) (c : UInt8) (h0 : 0 < a) (hc : isDig c = true) : form (dec a ++ [c]) = true := by
  have ha := all_dec a
  obtain ⟨d, r, e, hd⟩ := head_dec a h0
  rw [e] at ha ⊢
  have : d ≠ 48 := by rintro rfl; simp at hd
  have hal : ((d :: r) ++ [c]).all isDig = true := by rw [List.all_append, ha]; simpa using hc
  simp only [form, hal, Bool.and_true]
  simp [this]
theorem form_not_dig (a : Nat) (c : UInt8) (hc : isDig c = false) : form (dec a ++ [c]) = false := by
  have : (dec a ++ [c]).all isDig = false := by rw [List.all_append]; simp [hc]
  simp [form, this]
theorem form_zero (c : UInt8) : form (dec 0 ++ [c]) = false := by
  rw [dec_zero]; simp [form]
theorem parse_bad {l : List UInt8} (h : form l = false) : parse l = (0, 30) := by simp [parse, h]
theorem parse_good {l : List UInt8} (h : form l = true) (hv : val l < 18446744073709551616) : parse l = (val l, 0) := by simp [parse, h, hv]
theorem parse_over {l : List UInt8} (h : form l = true) (hv : 18446744073709551616 ≤ val l) : parse l = (0, 31) := by
  have : ¬ val l < 18446744073709551616 := by omega
  simp [parse, h, this]
theorem val_cons (c : UInt8) (l : List UInt8) : val (c :: l) = (c.toNat - 48) * 10 ^ l.length + val l := by
  induction l using snoc_ind with
  | h0 => simp [val]
  | h1 l d ih =>
    rw [← List.cons_append, val_snoc, val_snoc, ih, List.length_append, List.length_singleton, Nat.pow_succ]
    rw [← Nat.mul_assoc]
    omega
def less : List UInt8 → List UInt8 → Bool
  | [], [] => false
  | [], _ :: _ => true
  | _ :: _, [] => false
  | a :: l, b :: r => if a < b then true else if b < a then false else less l r
theorem less_val : ∀ (x y : List UInt8), x.length = y.length → x.all isDig = true → y.all isDig = true → less x y = decide (val x < val y)
  | [], [], _, _, _ => by simp [less, val]
  | a :: l, b :: r, hl, hx, hy => by
    have hl' : l.length = r.length := by simpa using hl
    have hx' : isDig a = true ∧ l.all isDig = true := by simpa using hx
    have hy' : isDig b = true ∧ r.all isDig = true := by simpa using hy
    have ih := less_val l r hl' hx'.2 hy'.2
    have h1 := val_lt l hx'.2
    have h2 := val_lt r hy'.2
    have ba := dig_bounds hx'.1
    have bb := dig_bounds hy'.1
    rw [hl'] at h1
    rw [less, val_cons, val_cons, hl', ih]
    generalize hp : 10 ^ r.length = p at *
    by_cases hab : a.toNat < b.toNat
    · have : a < b := UInt8.lt_iff_toNat_lt.2 hab
      rw [if_pos this]
      have h3 : (a.toNat - 48 + 1) * p ≤ (b.toNat - 48) * p := Nat.mul_le_mul_right p (by omega)
      rw [Nat.add_mul] at h3
      symm; simp; omega
    · have n1 : ¬ a < b := fun h => hab (UInt8.lt_iff_toNat_lt.1 h)
      rw [if_neg n1]
      by_cases hba : b.toNat < a.toNat
      · have : b < a := UInt8.lt_iff_toNat_lt.2 hba
        rw [if_pos this]
        have h3 : (b.toNat - 48 + 1) * p ≤ (a.toNat - 48) * p := Nat.mul_le_mul_right p (by omega)
        rw [Nat.add_mul] at h3
        symm; simp; omega
      · have n2 : ¬ b < a := fun h => hba (UInt8.lt_iff_toNat_lt.1 h)
        rw [if_neg n2]
        have : a.toNat = b.toNat := by omega
        rw [this]
        congr 1
        rw [eq_iff_iff]
        omega
/-- of two amounts: fewer digits, or as many and less -/
theorem order_dec (a b : Nat) : (decide ((dec a).length < (dec b).length) || (decide ((dec a).length = (dec b).length) && less (dec a) (dec b))) = decide (a < b) := by
  by_cases hl : (dec a).length = (dec b).length
  · rw [less_val _ _ hl (all_dec a) (all_dec b), val_dec, val_dec]
    simp [hl]
  · by_cases hab : a < b
    · have := dec_len_mono (Nat.le_of_lt hab)
      have : (dec a).length < (dec b).length := by omega
      simp [this, hab]
    · have := dec_len_mono (Nat.le_of_not_lt hab)
      have h3 : ¬ (dec a).length < (dec b).length := by omega
      simp [hl, h3, hab]
/-- texts of more than 20 digits are beyond, those of fewer are not -/
theorem form_long {l : List UInt8} (h : form l = true) (hl : 20 < l.length) : parse l = (0, 31) := by
  refine parse_over h ?_
  rcases l with _ | ⟨a, r⟩
  · simp at hl
  · have hh : a ≠ 48 := by
      simp [form] at h
      rcases h.1 with h | h
      · exact h
      · subst h; simp at hl
    have hd : isDig a = true := by simp [form] at h; exact h.2.1
    have := dig_bounds hd
    have h48 : a.toNat ≠ 48 := fun e => hh (UInt8.toNat_inj.1 e)
    have h1 := val_ge a r (by omega)
    have h2 : 10 ^ 20 ≤ 10 ^ r.length := Nat.pow_le_pow_right (by omega) (by simp at hl; omega)
    have h4 : (10 : Nat) ^ 20 = 100000000000000000000 := by decide
    omega
theorem form_short {l : List UInt8} (h : form l = true) (hl : l.length < 20) : (parse l).2 = 0 := by
  have ha : l.all isDig = true := by simp only [form, Bool.and_eq_true] at h; exact h.2
  have h1 := val_lt l ha
  have h2 : 10 ^ l.length ≤ 10 ^ 19 := Nat.pow_le_pow_right (by omega) (by omega)
  have h4 : (10 : Nat) ^ 19 = 10000000000000000000 := by decide
  rw [parse_good h (by omega)]
theorem form_twenty {l : List UInt8} (h : form l = true) : (parse l).2 = 0 ∨ parse l = (0, 31) := by
  by_cases hv : val l < 18446744073709551616
  · exact .inl (by rw [parse_good h hv])
  · exact .inr (parse_over h (by omega))
end Amt

