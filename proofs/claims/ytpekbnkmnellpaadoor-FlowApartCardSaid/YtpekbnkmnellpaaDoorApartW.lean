/-
  FlowApart: the walk, joined.
-/
import Derived.Test.YtpekbnkmnellpaaDoorApart
import Derived.Test.YtpekbnkmnellpaaDoorOpenA
namespace Go.Proofs.YtpekbnkmnellpaaDoor
open Go.RowKit
set_option linter.unusedVariables false

theorem bytes_iff (s t : ByteArray) : s.toList = t.toList ↔ s = t := by
  rw [ByteArray.toList_eq, ByteArray.toList_eq]
  exact ⟨str_ext, fun h => by rw [h]⟩
theorem bytes_eq (s t : ByteArray) : (s.toList == t.toList) = true ↔ s = t := by
  rw [beq_iff_eq]
  exact bytes_iff s t
theorem pk_eq (p q : Pk) : ∃ pe : Bool, (pe = true ↔ p = q) ∧ ∀ W, (Op.equalIn 10000 24 (.agg #[.int .u64 p.seq, .int .u64 p.src, .int .u64 p.dst, .string p.data, .int .u64 p.timeout]) (.agg #[.int .u64 q.seq, .int .u64 q.src, .int .u64 q.dst, .string q.data, .int .u64 q.timeout])).run Tryd.prog W = .ok pe W := by
  obtain ⟨a, b, c, d, e⟩ := p
  obtain ⟨a', b', c', d', e'⟩ := q
  refine ⟨(a == a') && (b == b') && (c == c') && (d.toList == d'.toList) && (e == e'), ?_, ?_⟩
  · simp only [Bool.and_eq_true, beq_iff_eq, Pk.mk.injEq, and_assoc, bytes_iff]
  · intro W
    by_cases h0 : a = a' <;> by_cases h1 : b = b' <;> by_cases h2 : c = c' <;> by_cases h3 : d.toList = d'.toList <;> by_cases h4 : e = e'
    all_goals
      simp [go_sem, h0, h1, h2, h3, h4]
theorem apart_walk (p q : Pk) (s t : ByteArray) (hp : p.ok) (hq : q.ok) (hs : s.size ≤ 140737488351232) (ht : t.size ≤ 140737488351232) (w : World) (G : Glob w) :
    Calls Tryd.prog 3 #[p.v, q.v, .string s, .string t] w fun r w' => r = .returned (.bool true) ∧ Below w.heap.size w w' := by
  obtain ⟨pe, hpe, heq⟩ := pk_eq p q
  obtain ⟨ce, hce⟩ : ∃ ce, (p.comm.toList == q.comm.toList) = ce := ⟨_, rfl⟩
  obtain ⟨ae, hae⟩ : ∃ ae, ((ansB s).toList == (ansB t).toList) = ae := ⟨_, rfl⟩
  obtain ⟨se, hse⟩ : ∃ se, (s.toList == t.toList) = se := ⟨_, rfl⟩
  have h1 : ce = true ↔ p.comm = q.comm := by rw [← hce]; exact bytes_eq _ _
  have h2 : ae = true ↔ ansB s = ansB t := by rw [← hae]; exact bytes_eq _ _
  have h3 : se = true ↔ s = t := by rw [← hse]; exact bytes_eq _ _
  have i1 : pe = true → ce = true := fun h => h1.2 (by rw [hpe.1 h])
  have i2 : se = true → ae = true := fun h => h2.2 (by rw [h3.1 h])
  obtain ⟨a, b, c, d, e⟩ := p
  obtain ⟨a', b', c', d', e'⟩ := q
  by_cases hg : ce = pe ∧ ae = se
  · exact apart_good a b c 0 e a' b' c' 0 e' d d' s t w G pe ce ae se hce hae hse hg hs ht heq hp hq
  · refine apart_bad a b c 0 e a' b' c' 0 e' d d' s t w G pe ce ae se hce hae hse ?_ ?_ hs ht heq hp hq
    · show _ ∨ _
      cases pe <;> cases ce <;> cases se <;> cases ae <;> simp_all
    · show _ ∨ _
      by_cases hc : ce = pe
      · right
        have h4 : ae ≠ se := fun h => hg ⟨hc, h⟩
        cases se
        · have h5 : ae = true := by cases ae <;> simp_all
          exact ⟨fun h => (by have := h3.2 h; cases this), h2.1 h5⟩
        · exact absurd (i2 rfl) h4
      · left
        cases pe
        · have h5 : ce = true := by cases ce <;> simp_all
          exact ⟨fun h => (by have := hpe.2 h; cases this), h1.1 h5⟩
        · exact absurd (i1 rfl) hc
end Go.Proofs.YtpekbnkmnellpaaDoor
