/-
  How the document takes up a path: plain facts, no program in sight.
-/
import Derived.Test.YtmhboacfnklbgaaDoorPthMath
namespace Pth
open Go
/-- the digits with which a text begins -/
def digs (l : List UInt8) : List UInt8 := l.takeWhile Amt.isDig
theorem digs_app (d r : List UInt8) (hd : d.all Amt.isDig = true) (hr : ∀ c l, r = c :: l → Amt.isDig c = false) : digs (d ++ r) = d := by
  unfold digs
  induction d with
  | nil =>
    cases r with
    | nil => rfl
    | cons c l => simp [hr c l rfl]
  | cons x d ih =>
    have hx : Amt.isDig x = true ∧ d.all Amt.isDig = true := by simpa using hd
    simp [hx.1, ih hx.2]
theorem digs_len (l : List UInt8) : (digs l).length ≤ l.length := by
  unfold digs
  exact (List.takeWhile_prefix _).length_le
/-- the first number -/
def refA (k : Nat) (s : List UInt8) : Nat × Int := Amt.parse (digs (s.drop (fm k).1.length))
/-- does the sign stand behind it, and more -/
def refC (k : Nat) (s : List UInt8) : Bool :=
  decide ((refA k s).2 = 0) && ((fm k).2.2 && (decide ((fm k).2.1.length < s.length - ((fm k).1.length + (digs (s.drop (fm k).1.length)).length)) &&
    ((s.drop ((fm k).1.length + (digs (s.drop (fm k).1.length)).length)).take (fm k).2.1.length == (fm k).2.1)))
/-- the second number -/
def refB (k : Nat) (s : List UInt8) : Nat := if refC k s then (Amt.parse (digs (s.drop ((fm k).1.length + (digs (s.drop (fm k).1.length)).length + (fm k).2.1.length)))).1 else 0
theorem rest_head (k b : Nat) (h1 : 1 ≤ k) (h8 : k ≤ 8) : ∀ c l, (fm k).2.1 ++ tail k b = c :: l → Amt.isDig c = false := by
  refine kinds h1 h8 (P := fun k => ∀ c l, (fm k).2.1 ++ tail k b = c :: l → Amt.isDig c = false) ?_
  refine ⟨?_, ?_, ?_, ?_, ?_, ?_, ?_, ?_⟩ <;> intro c l h <;> simp [fm, tail] at h <;> first | (obtain ⟨rfl, _⟩ := h; decide) | cases h
theorem parse_lt (l : List UInt8) : (Amt.parse l).1 < 18446744073709551616 := by
  rcases Amt.parse_cases l with h | h
  · exact h.2.2
  · rw [h.2]; omega
theorem ref_complete {k a b : Nat} (h : Right k a b) : refA k (text k a b) = (a, 0) ∧ refB k (text k a b) = b := by
  obtain ⟨h1, h8, ha, hb, hz⟩ := h
  have e0 : (text k a b).drop (fm k).1.length = Amt.dec a ++ ((fm k).2.1 ++ tail k b) := by unfold text; rw [List.drop_left]
  have hd : digs (Amt.dec a ++ ((fm k).2.1 ++ tail k b)) = Amt.dec a := digs_app _ _ (Amt.all_dec a) (rest_head k b h1 h8)
  have hA : refA k (text k a b) = (a, 0) := by unfold refA; rw [e0, hd, Amt.parse_dec a ha]
  refine ⟨hA, ?_⟩
  have e1 : (text k a b).drop ((fm k).1.length + (Amt.dec a).length) = (fm k).2.1 ++ tail k b := by
    rw [← List.drop_drop, e0, List.drop_left]
  have e2 : (text k a b).length = (fm k).1.length + (Amt.dec a).length + ((fm k).2.1.length + (tail k b).length) := by unfold text; simp; omega
  unfold refB refC
  rw [hA, e0, hd, e1, e2]
  rcases ht : (fm k).2.2 with _ | _
  · simp [hz ht]
  · have htl : tail k b = Amt.dec b := by simp [tail, ht]
    have hp := Amt.dec_length_pos b
    have e3 : (text k a b).drop ((fm k).1.length + (Amt.dec a).length + (fm k).2.1.length) = Amt.dec b := by
      rw [← List.drop_drop, e1, List.drop_left, htl]
    have hd2 : digs (Amt.dec b) = Amt.dec b := by
      have := digs_app (Amt.dec b) [] (Amt.all_dec b) (fun c l h => by cases h)
      simpa using this
    rw [e3, hd2, Amt.parse_dec b hb, htl]
    simp
    intro h
    rw [h] at hp
    simp at hp
theorem refB_lt (k : Nat) (s : List UInt8) : refB k s < 18446744073709551616 := by
  unfold refB; split
  · exact parse_lt _
  · omega
/-- it takes up what the other one does -/
theorem ref_some {k : Nat} {s : List UInt8} (h1 : 1 ≤ k) (h8 : k ≤ 8) (_hok : (refA k s).2 = 0) (hp : (fm k).2.2 = true ∨ refB k s = 0) (ht : text k (refA k s).1 (refB k s) = s) : parseK k s = some ((refA k s).1, refB k s) := by
  have hr : Right k (refA k s).1 (refB k s) := ⟨h1, h8, parse_lt _, refB_lt k s, fun hf => by
    rcases hp with hp | hp
    · rw [hf] at hp; cases hp
    · exact hp⟩
  have := parseK_text hr
  rwa [ht] at this
theorem ref_none {k : Nat} {s : List UInt8} (h1 : 1 ≤ k) (h8 : k ≤ 8) (h : ¬ ((refA k s).2 = 0 ∧ ((fm k).2.2 = true ∨ refB k s = 0) ∧ text k (refA k s).1 (refB k s) = s)) : parseK k s = none := by
  cases hp : parseK k s with
  | none => rfl
  | some p =>
    exfalso
    obtain ⟨a, b⟩ := p
    obtain ⟨hr, e⟩ := parseK_some h1 h8 hp
    obtain ⟨hA, hB⟩ := ref_complete hr
    rw [← e] at hA hB
    refine h ⟨by rw [hA], ?_, by rw [hA, hB]; exact e.symm⟩
    rcases ht : (fm k).2.2 with _ | _
    · right; rw [hB]; exact hr.2.2.2.2 ht
    · left; rfl
theorem ref_pre {k : Nat} {s : List UInt8} (hp : (fm k).1.isPrefixOf s = false) : parseK k s = none := by
  unfold parseK; simp [hp]
end Pth
