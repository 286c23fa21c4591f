/-
  Ends and packets compared.
-/
import Derived.Test.YtpekbnkmnellpaaDoorChanL
namespace Go.Proofs.YtpekbnkmnellpaaDoor
open Go.RowKit
set_option linter.unusedVariables false

theorem bytes_iff (s t : ByteArray) : s.toList = t.toList ↔ s = t := by
  rw [ByteArray.toList_eq, ByteArray.toList_eq]
  exact ⟨str_ext, fun h => by rw [h]⟩
theorem bytes_eq (s t : ByteArray) : (s.toList == t.toList) = true ↔ s = t := by
  rw [beq_iff_eq]
  exact bytes_iff s t
def Ch.eqB (c d : Ch) : Bool := (c.state == d.state) && (c.ordered == d.ordered) && (c.link == d.link) && (c.peer == d.peer) && (c.port.toList == d.port.toList) && (c.pport.toList == d.pport.toList)
theorem Ch.eqB_iff (c d : Ch) : c.eqB d = true ↔ c = d := by
  obtain ⟨a, b, e, f, g, h⟩ := c
  obtain ⟨a', b', e', f', g', h'⟩ := d
  simp only [Ch.eqB, Bool.and_eq_true, beq_iff_eq, Ch.mk.injEq, and_assoc, bytes_iff]
theorem ch_eq (c d : Ch) (W : World) : (Op.equalIn 10000 57 (.agg #[.int .i64 c.state, .bool c.ordered, .int .u64 c.link, .int .u64 c.peer, .string c.port, .string c.pport]) (.agg #[.int .i64 d.state, .bool d.ordered, .int .u64 d.link, .int .u64 d.peer, .string d.port, .string d.pport])).run Tryd.prog W = .ok (c.eqB d) W := by
  obtain ⟨a, b, e, f, g, h⟩ := c
  obtain ⟨a', b', e', f', g', h'⟩ := d
  unfold Ch.eqB
  by_cases h0 : a = a'
  · by_cases h1 : b = b'
    · by_cases h2 : e = e'
      · by_cases h3 : f = f'
        · by_cases h4 : g.toList = g'.toList
          · by_cases h5 : h.toList = h'.toList
            · simp [go_sem, h0, h1, h2, h3, h4, h5]
            · simp [go_sem, h0, h1, h2, h3, h4, h5]
          · simp [go_sem, h0, h1, h2, h3, h4]
        · simp [go_sem, h0, h1, h2, h3]
      · simp [go_sem, h0, h1, h2]
    · simp [go_sem, h0, h1]
  · simp [go_sem, h0]
def Pk.eqB (p q : Pk) : Bool := (p.seq == q.seq) && (p.src == q.src) && (p.dst == q.dst) && (p.data.toList == q.data.toList) && (p.timeout == q.timeout)
theorem Pk.eqB_iff (p q : Pk) : p.eqB q = true ↔ p = q := by
  obtain ⟨a, b, c, d, e⟩ := p
  obtain ⟨a', b', c', d', e'⟩ := q
  simp only [Pk.eqB, Bool.and_eq_true, beq_iff_eq, Pk.mk.injEq, and_assoc, bytes_iff]
theorem pk_eq2 (p q : Pk) (W : World) : (Op.equalIn 10000 24 (.agg #[.int .u64 p.seq, .int .u64 p.src, .int .u64 p.dst, .string p.data, .int .u64 p.timeout]) (.agg #[.int .u64 q.seq, .int .u64 q.src, .int .u64 q.dst, .string q.data, .int .u64 q.timeout])).run Tryd.prog W = .ok (p.eqB q) W := by
  obtain ⟨a, b, c, d, e⟩ := p
  obtain ⟨a', b', c', d', e'⟩ := q
  unfold Pk.eqB
  by_cases h0 : a = a'
  · by_cases h1 : b = b'
    · by_cases h2 : c = c'
      · by_cases h3 : d.toList = d'.toList
        · by_cases h4 : e = e'
          · simp [go_sem, h0, h1, h2, h3, h4]
          · simp [go_sem, h0, h1, h2, h3, h4]
        · simp [go_sem, h0, h1, h2, h3]
      · simp [go_sem, h0, h1, h2]
    · simp [go_sem, h0, h1]
  · simp [go_sem, h0]
end Go.Proofs.YtpekbnkmnellpaaDoor
