/-
  Plain facts on paths: their texts, and which text is whose. No program in sight.
-/
import Derived.Test.YtichklplcpkjdaaDoorAmtMath
import Derived.Lib.IndexMore
namespace Pth
open Go

/-- what stands ahead of the first number, behind it, and whether a second one follows -/
def fm : Nat → List UInt8 × List UInt8 × Bool
  | 1 => ([99, 108, 105, 101, 110, 116, 115, 47], [47, 99, 108, 105, 101, 110, 116, 83, 116, 97, 116, 101], false)
  | 2 => ([99, 108, 105, 101, 110, 116, 115, 47], [47, 99, 111, 110, 115, 101, 110, 115, 117, 115, 83, 116, 97, 116, 101, 115, 47], true)
  | 3 => ([99, 111, 110, 110, 101, 99, 116, 105, 111, 110, 115, 47], [], false)
  | 4 => ([99, 104, 97, 110, 110, 101, 108, 69, 110, 100, 115, 47, 99, 104, 97, 110, 110, 101, 108, 115, 47], [], false)
  | 5 => ([99, 111, 109, 109, 105, 116, 109, 101, 110, 116, 115, 47, 99, 104, 97, 110, 110, 101, 108, 115, 47], [47, 115, 101, 113, 117, 101, 110, 99, 101, 115, 47], true)
  | 6 => ([114, 101, 99, 101, 105, 112, 116, 115, 47, 99, 104, 97, 110, 110, 101, 108, 115, 47], [47, 115, 101, 113, 117, 101, 110, 99, 101, 115, 47], true)
  | 7 => ([97, 99, 107, 115, 47, 99, 104, 97, 110, 110, 101, 108, 115, 47], [47, 115, 101, 113, 117, 101, 110, 99, 101, 115, 47], true)
  | 8 => ([110, 101, 120, 116, 83, 101, 113, 117, 101, 110, 99, 101, 82, 101, 99, 118, 47, 99, 104, 97, 110, 110, 101, 108, 115, 47], [], false)
  | _ => ([], [], false)
def tail (k b : Nat) : List UInt8 := if (fm k).2.2 then Amt.dec b else []
/-- a path's text -/
def text (k a b : Nat) : List UInt8 := (fm k).1 ++ (Amt.dec a ++ ((fm k).2.1 ++ tail k b))
/-- a path that may be -/
def Right (k a b : Nat) : Prop := 1 ≤ k ∧ k ≤ 8 ∧ a < 18446744073709551616 ∧ b < 18446744073709551616 ∧ ((fm k).2.2 = false → b = 0)
/-- what a text is as a path of one kind -/
def parseK (k : Nat) (s : List UInt8) : Option (Nat × Nat) :=
  if (fm k).1.isPrefixOf s then
    if (fm k).2.2 then
      if (Lib.cut (s.drop (fm k).1.length) (fm k).2.1).2.2 = true ∧ (Amt.parse (Lib.cut (s.drop (fm k).1.length) (fm k).2.1).1).2 = 0 ∧ (Amt.parse (Lib.cut (s.drop (fm k).1.length) (fm k).2.1).2.1).2 = 0 then
        some ((Amt.parse (Lib.cut (s.drop (fm k).1.length) (fm k).2.1).1).1, (Amt.parse (Lib.cut (s.drop (fm k).1.length) (fm k).2.1).2.1).1)
      else none
    else if (fm k).2.1.isSuffixOf (s.drop (fm k).1.length) = true ∧ (Amt.parse ((s.drop (fm k).1.length).take ((s.drop (fm k).1.length).length - (fm k).2.1.length))).2 = 0 then
      some ((Amt.parse ((s.drop (fm k).1.length).take ((s.drop (fm k).1.length).length - (fm k).2.1.length))).1, 0)
    else none
  else none

theorem parse_eq {l : List UInt8} (h : (Amt.parse l).2 = 0) : Amt.dec (Amt.parse l).1 = l ∧ (Amt.parse l).1 < 18446744073709551616 := by
  rcases Amt.parse_cases l with h1 | h1
  · exact h1.2
  · exact absurd h h1.1
theorem kinds {k : Nat} (h1 : 1 ≤ k) (h8 : k ≤ 8) {P : Nat → Prop} (p : P 1 ∧ P 2 ∧ P 3 ∧ P 4 ∧ P 5 ∧ P 6 ∧ P 7 ∧ P 8) : P k := by
  obtain ⟨p1, p2, p3, p4, p5, p6, p7, p8⟩ := p
  have : k = 1 ∨ k = 2 ∨ k = 3 ∨ k = 4 ∨ k = 5 ∨ k = 6 ∨ k = 7 ∨ k = 8 := by omega
  rcases this with rfl | rfl | rfl | rfl | rfl | rfl | rfl | rfl <;> assumption

theorem drop_pre {a s : List UInt8} (h : a.isPrefixOf s = true) : s = a ++ s.drop a.length := by
  obtain ⟨t, rfl⟩ := List.isPrefixOf_iff_prefix.1 h
  simp
theorem take_suf {b r : List UInt8} (h : b.isSuffixOf r = true) : r = r.take (r.length - b.length) ++ b := by
  obtain ⟨t, rfl⟩ := List.isSuffixOf_iff_suffix.1 h
  simp
/-- where the cut falls, the text is what stands ahead, the sign, and the rest -/
theorem cut_eq {s sep : List UInt8} (h : (Lib.cut s sep).2.2 = true) : s = (Lib.cut s sep).1 ++ (sep ++ (Lib.cut s sep).2.1) := by
  unfold Lib.cut at h ⊢
  by_cases h0 : 0 ≤ Lib.index s sep
  · simp only [h0, if_true]
    have key : ∀ (s : List UInt8), 0 ≤ Lib.index s sep → s = s.take (Lib.index s sep).toNat ++ (sep ++ s.drop ((Lib.index s sep).toNat + sep.length)) := by
      intro s
      induction s with
      | nil =>
        intro h
        unfold Lib.index at h ⊢
        by_cases he : sep.isEmpty = true
        · have : sep = [] := by simpa using he
          subst this; simp
        · simp [he] at h
      | cons c l ih =>
        intro h
        unfold Lib.index at h ⊢
        by_cases hp : sep.isPrefixOf (c :: l) = true
        · simp only [hp, if_true]
          have := drop_pre hp
          simpa using this
        · simp only [hp, Bool.false_eq_true, if_false] at h ⊢
          by_cases hm : (Lib.index l sep == -1) = true
          · simp [hm] at h
          · simp only [hm, Bool.false_eq_true, if_false] at h ⊢
            have hg := Lib.index_ge l sep
            have hne : Lib.index l sep ≠ -1 := by simpa using hm
            have h1 : 0 ≤ Lib.index l sep := by omega
            have e : (Lib.index l sep + 1).toNat = (Lib.index l sep).toNat + 1 := by omega
            rw [e, List.take_succ_cons]
            have e2 : (Lib.index l sep).toNat + 1 + sep.length = ((Lib.index l sep).toNat + sep.length) + 1 := by omega
            rw [e2, List.drop_succ_cons, List.cons_append, ← ih h1]
    exact key s h0
  · simp [h0] at h
/-- a sign that begins with a byte that is no digit is found behind digits, and no sooner -/
theorem index_digits (d : List UInt8) (c : UInt8) (sep r : List UInt8) (hd : d.all Amt.isDig = true) (hc : Amt.isDig c = false) : Lib.index (d ++ (c :: sep ++ r)) (c :: sep) = d.length := by
  induction d with
  | nil =>
    simp only [List.nil_append, List.length_nil, List.cons_append]
    unfold Lib.index
    have : (c :: sep).isPrefixOf (c :: (sep ++ r)) = true := by
      rw [List.isPrefixOf_iff_prefix]; exact ⟨r, by simp⟩
    simp [this]
  | cons x d ih =>
    have hx : Amt.isDig x = true ∧ d.all Amt.isDig = true := by simpa using hd
    have hne : x ≠ c := by rintro rfl; rw [hx.1] at hc; cases hc
    rw [List.cons_append]
    unfold Lib.index
    have hp : (c :: sep).isPrefixOf (x :: (d ++ (c :: sep ++ r))) = false := by
      simp [List.isPrefixOf]; intro h; exact absurd h.symm hne
    rw [hp, ih hx.2]
    have : ((d.length : Int) == -1) = false := by rw [beq_eq_false_iff_ne]; omega
    simp [this]
theorem cut_digits (d : List UInt8) (c : UInt8) (sep r : List UInt8) (hd : d.all Amt.isDig = true) (hc : Amt.isDig c = false) : Lib.cut (d ++ (c :: sep ++ r)) (c :: sep) = (d, r, true) := by
  unfold Lib.cut
  rw [index_digits d c sep r hd hc]
  have h0 : (0 : Int) ≤ (d.length : Int) := by omega
  simp only [h0, if_true, Int.toNat_natCast, List.take_left]
  have e : d.length + (c :: sep).length = (d ++ (c :: sep)).length := by simp
  rw [e]
  congr 1
  congr 1
  rw [← List.append_assoc, List.drop_left]

theorem behind_form : ∀ k, 1 ≤ k → k ≤ 8 → (fm k).2.2 = true → ∃ sep, (fm k).2.1 = 47 :: sep := by
  intro k h1 h8
  refine kinds h1 h8 (P := fun k => (fm k).2.2 = true → ∃ sep, (fm k).2.1 = 47 :: sep) ?_
  exact ⟨fun h => by simp [fm] at h, fun _ => ⟨_, rfl⟩, fun h => by simp [fm] at h, fun h => by simp [fm] at h, fun _ => ⟨_, rfl⟩, fun _ => ⟨_, rfl⟩, fun _ => ⟨_, rfl⟩, fun h => by simp [fm] at h⟩

theorem parseK_text {k a b : Nat} (h : Right k a b) : parseK k (text k a b) = some (a, b) := by
  obtain ⟨h1, h8, ha, hb, hz⟩ := h
  unfold parseK text
  have hp : (fm k).1.isPrefixOf ((fm k).1 ++ (Amt.dec a ++ ((fm k).2.1 ++ tail k b))) = true := by
    rw [List.isPrefixOf_iff_prefix]; exact ⟨_, rfl⟩
  rw [if_pos hp, List.drop_left]
  rcases ht : (fm k).2.2 with _ | _
  · rw [if_neg (by simp)]
    have htl : tail k b = [] := by simp [tail, ht]
    have hs : (fm k).2.1.isSuffixOf (Amt.dec a ++ ((fm k).2.1 ++ tail k b)) = true := by
      rw [List.isSuffixOf_iff_suffix, htl, List.append_nil]; exact ⟨_, rfl⟩
    have hk : (Amt.dec a ++ ((fm k).2.1 ++ tail k b)).take ((Amt.dec a ++ ((fm k).2.1 ++ tail k b)).length - (fm k).2.1.length) = Amt.dec a := by
      rw [htl, List.append_nil, List.length_append, Nat.add_sub_cancel, List.take_left]
    rw [hk, Amt.parse_dec a ha, if_pos ⟨hs, rfl⟩, hz ht]
  · rw [if_pos rfl]
    obtain ⟨sep, hsep⟩ := behind_form k h1 h8 ht
    have htl : tail k b = Amt.dec b := by simp [tail, ht]
    rw [hsep, htl, cut_digits _ 47 sep _ (Amt.all_dec a) (by decide)]
    simp only [Amt.parse_dec a ha, Amt.parse_dec b hb]
    simp
theorem parseK_some {k : Nat} {s : List UInt8} {a b : Nat} (h1 : 1 ≤ k) (h8 : k ≤ 8) (h : parseK k s = some (a, b)) : Right k a b ∧ s = text k a b := by
  unfold parseK at h
  by_cases hp : (fm k).1.isPrefixOf s = true
  · rw [if_pos hp] at h
    have e1 := drop_pre hp
    generalize s.drop (fm k).1.length = r at *
    rcases ht : (fm k).2.2 with _ | _
    · rw [ht, if_neg (by simp)] at h
      split at h
      · rename_i hc
        obtain ⟨hs, hz⟩ := hc
        have e2 := take_suf hs
        generalize r.take (r.length - (fm k).2.1.length) = q at *
        obtain ⟨e3, e4⟩ := parse_eq hz
        simp only [Option.some.injEq, Prod.mk.injEq] at h
        obtain ⟨rfl, rfl⟩ := h
        refine ⟨⟨h1, h8, e4, by omega, fun _ => rfl⟩, ?_⟩
        unfold text
        rw [e3, e1, e2]
        simp [tail, ht]
      · cases h
    · rw [ht, if_pos rfl] at h
      split at h
      · rename_i hc
        obtain ⟨hs, hz, hy⟩ := hc
        have e2 := cut_eq hs
        generalize Lib.cut r (fm k).2.1 = q at *
        obtain ⟨e3, e4⟩ := parse_eq hz
        obtain ⟨e5, e6⟩ := parse_eq hy
        simp only [Option.some.injEq, Prod.mk.injEq] at h
        obtain ⟨rfl, rfl⟩ := h
        refine ⟨⟨h1, h8, e4, e6, fun hf => by rw [ht] at hf; cases hf⟩, ?_⟩
        unfold text
        rw [e3, e1, e2]
        simp [tail, ht, e5]
      · cases h
  · rw [if_neg hp] at h; cases h

/-- the last byte tells kinds 1 and 2 apart -/
theorem last_dec (n : Nat) : ∃ l c, Amt.dec n = l ++ [c] ∧ Amt.isDig c = true := by
  have h := Amt.all_dec n
  rw [Amt.dec_step] at h ⊢
  exact ⟨_, _, rfl, (Amt.all_snoc h).2⟩
theorem text_last {k a b : Nat} (ht : (fm k).2.2 = true) : ∃ l c, text k a b = l ++ [c] ∧ Amt.isDig c = true := by
  obtain ⟨l, c, e, hc⟩ := last_dec b
  refine ⟨(fm k).1 ++ (Amt.dec a ++ ((fm k).2.1 ++ l)), c, ?_, hc⟩
  simp [text, tail, ht, e]
theorem text_head (k a b : Nat) : ∃ r, text k a b = (fm k).1 ++ r := ⟨_, rfl⟩
theorem kind_of {k k' a b a' b' : Nat} (h : Right k a b) (h' : Right k' a' b') (e : text k a b = text k' a' b') : k = k' := by
  obtain ⟨h1, h8, _⟩ := h
  obtain ⟨h1', h8', _⟩ := h'
  have hc : k = 1 ∨ k = 2 ∨ k = 3 ∨ k = 4 ∨ k = 5 ∨ k = 6 ∨ k = 7 ∨ k = 8 := by omega
  have hc' : k' = 1 ∨ k' = 2 ∨ k' = 3 ∨ k' = 4 ∨ k' = 5 ∨ k' = 6 ∨ k' = 7 ∨ k' = 8 := by omega
  by_cases h12 : (k = 1 ∧ k' = 2) ∨ (k = 2 ∧ k' = 1)
  · exfalso
    rcases h12 with ⟨rfl, rfl⟩ | ⟨rfl, rfl⟩
    · obtain ⟨l, c, e2, hd⟩ := text_last (k := 2) (a := a') (b := b') rfl
      rw [← e] at e2
      have e3 : text 1 a b = ([99, 108, 105, 101, 110, 116, 115, 47] ++ (Amt.dec a ++ [47, 99, 108, 105, 101, 110, 116, 83, 116, 97, 116])) ++ [101] := by simp [text, tail, fm]
      rw [e3] at e2
      have := List.append_inj_right' e2 rfl
      simp at this
      subst this
      exact absurd hd (by decide)
    · obtain ⟨l, c, e2, hd⟩ := text_last (k := 2) (a := a) (b := b) rfl
      rw [e] at e2
      have e3 : text 1 a' b' = ([99, 108, 105, 101, 110, 116, 115, 47] ++ (Amt.dec a' ++ [47, 99, 108, 105, 101, 110, 116, 83, 116, 97, 116])) ++ [101] := by simp [text, tail, fm]
      rw [e3] at e2
      have := List.append_inj_right' e2 rfl
      simp at this
      subst this
      exact absurd hd (by decide)
  · have key := congrArg (fun l : List UInt8 => l.take 3) e
    rcases hc with rfl | rfl | rfl | rfl | rfl | rfl | rfl | rfl <;> rcases hc' with rfl | rfl | rfl | rfl | rfl | rfl | rfl | rfl <;>
      first
        | rfl
        | (exfalso; exact h12 (.inl ⟨rfl, rfl⟩))
        | (exfalso; exact h12 (.inr ⟨rfl, rfl⟩))
        | (exfalso; revert key; simp [text, fm])
/-- unlike paths have unlike texts -/
theorem text_inj {k k' a b a' b' : Nat} (h : Right k a b) (h' : Right k' a' b') (e : text k a b = text k' a' b') : k = k' ∧ a = a' ∧ b = b' := by
  obtain rfl := kind_of h h' e
  have h1 := parseK_text h
  rw [e, parseK_text h'] at h1
  simp only [Option.some.injEq, Prod.mk.injEq] at h1
  exact ⟨rfl, h1.1.symm, h1.2.symm⟩
/-- what a text is: the first kind that takes it -/
def parseP (s : List UInt8) : Option (Nat × Nat × Nat) := [1, 2, 3, 4, 5, 6, 7, 8].findSome? fun k => (parseK k s).map fun p => (k, p.1, p.2)
theorem parseP_at {j : Nat} {s : List UInt8} {a b : Nat} (h1 : 1 ≤ j) (h8 : j ≤ 8) (hn : ∀ k, 1 ≤ k → k < j → parseK k s = none) (h : parseK j s = some (a, b)) : parseP s = some (j, a, b) := by
  unfold parseP
  have hc : j = 1 ∨ j = 2 ∨ j = 3 ∨ j = 4 ∨ j = 5 ∨ j = 6 ∨ j = 7 ∨ j = 8 := by omega
  rcases hc with rfl | rfl | rfl | rfl | rfl | rfl | rfl | rfl
  · simp [h]
  · simp [h, hn 1]
  · simp [h, hn 1, hn 2]
  · simp [h, hn 1, hn 2, hn 3]
  · simp [h, hn 1, hn 2, hn 3, hn 4]
  · simp [h, hn 1, hn 2, hn 3, hn 4, hn 5]
  · simp [h, hn 1, hn 2, hn 3, hn 4, hn 5, hn 6]
  · simp [h, hn 1, hn 2, hn 3, hn 4, hn 5, hn 6, hn 7]
theorem parseP_none {s : List UInt8} (hn : ∀ k, 1 ≤ k → k < 9 → parseK k s = none) : parseP s = none := by
  unfold parseP
  simp [hn 1, hn 2, hn 3, hn 4, hn 5, hn 6, hn 7, hn 8]
theorem parseP_some {s : List UInt8} {k a b : Nat} (h : parseP s = some (k, a, b)) : Right k a b ∧ s = text k a b := by
  unfold parseP at h
  obtain ⟨j, hj, hm⟩ := List.exists_of_findSome?_eq_some h
  have h18 : 1 ≤ j ∧ j ≤ 8 := by simp at hj; omega
  cases hp : parseK j s with
  | none => rw [hp] at hm; simp at hm
  | some p =>
    rw [hp] at hm
    simp only [Option.map_some, Option.some.injEq, Prod.mk.injEq] at hm
    obtain ⟨rfl, rfl, rfl⟩ := hm
    exact parseK_some h18.1 h18.2 hp
theorem parseP_text {k a b : Nat} (h : Right k a b) : parseP (text k a b) = some (k, a, b) := by
  refine parseP_at h.1 h.2.1 (fun j h1 hj => ?_) (parseK_text h)
  cases hp : parseK j (text k a b) with
  | none => rfl
  | some p =>
    obtain ⟨hr, e⟩ := parseK_some h1 (by have := h.2.1; omega) hp
    have := kind_of h hr e
    omega
theorem text_ne (k a b : Nat) : text k a b ≠ [] := by
  intro h
  have h1 := congrArg List.length h
  have h2 := Amt.dec_length_pos a
  unfold text at h1
  simp only [List.length_append, List.length_nil] at h1
  omega
theorem fm_len {k : Nat} (h1 : 1 ≤ k) (h8 : k ≤ 8) : (fm k).1.length ≤ 26 ∧ (fm k).2.1.length ≤ 17 :=
  kinds h1 h8 (P := fun k => (fm k).1.length ≤ 26 ∧ (fm k).2.1.length ≤ 17) (by decide)
theorem text_len {k a b : Nat} (h : Right k a b) : (text k a b).length ≤ 83 := by
  have h1 := fm_len h.1 h.2.1
  have h2 := Amt.dec_len_le a h.2.2.1
  have h3 : (tail k b).length ≤ 20 := by unfold tail; split; exact Amt.dec_len_le b h.2.2.2.1; simp
  simp [text]; omega
end Pth
