/-
  What the walk of the trie's places says of its row.
-/
import Derived.Test.YtichklplcpkjdaaDoorSTrieF
import Derived.Great.BuildSlice
import Derived.Deep.AppendLies
import Derived.Maps.OwnSet
import Derived.Laws.MakeOwn
import Derived.Sort.OwnSorted
namespace Go.Proofs.YtichklplcpkjdaaDoor
open Go.RowKit Go.Maps
set_option linter.unusedVariables false

theorem info_pl : (Tryd.prog.info? 74).map (fun i => (i.zero, i.size, i.bytes)) = some (some (.agg #[.int .u8 0, .int .u8 0, .int .u8 0, .int .u8 0, .int .u8 0, .int .u8 0, .int .u8 0, .int .u8 0, .int .u8 0, .int .u8 0, .int .u8 0, .int .u8 0, .int .u8 0, .int .u8 0, .int .u8 0, .int .u8 0, .int .u8 0, .int .u8 0, .int .u8 0, .int .u8 0, .int .u8 0, .int .u8 0, .int .u8 0, .int .u8 0, .int .u8 0, .int .u8 0, .int .u8 0, .int .u8 0, .int .u8 0, .int .u8 0, .int .u8 0, .int .u8 0]), 32, 32) := by kernel_rfl
theorem info_parts' {P : Program} {T : TypeId} {z : Value} {s b : Nat} (h : (P.info? T).map (fun i => (i.zero, i.size, i.bytes)) = some (some z, s, b)) : ∃ i, P.info? T = some i ∧ i.zero = some z ∧ i.size = s ∧ i.bytes = b := by
  cases hi : P.info? T with
  | none => rw [hi] at h; cases h
  | some i => rw [hi] at h; simp at h; exact ⟨i, rfl, h⟩
/-- a literal slice of one place -/
theorem fill_place {P : List UInt8} (hP : P.length = 32) (cells : Array Value) (hc : cells.size = 32) : Instr.fill (fun i => some (i * 32, 32)) cells [(0, pv P)] = some (bC P).toArray := by
  have h := Go.Great.fill_whole (s := 32) (by decide) [pv P] cells (by
    intro v hv
    simp at hv
    subst hv
    show (bC P).toArray.size = 32
    simp [bC_len, hP]) (by simp [hc])
  have e : ([pv P].flatMap fun v => v.cells.toList).toArray = (bC P).toArray := by
    simp only [List.flatMap_cons, List.flatMap_nil, List.append_nil]
    rfl
  rw [e] at h
  exact h
theorem own_bel' {w w' : World} {base : Nat} {v : Value} {n : Nat} {xs : List Value} {e : TypeId} {s : Nat} (h : w.ownsRow base e s v n xs) (hb : Below w.heap.size w w') : w'.ownsRow base e s v n xs := by
  refine ⟨h.1, ?_⟩
  rcases h.2 with hn | ⟨g, cap, cur, hv, hbg, hgg, rest⟩
  · exact .inl hn
  · exact .inr ⟨g, cap, cur, hv, hbg, (hb.block g (lt_of_some hgg)).trans hgg, rest⟩
theorem own_ne_iter {w : World} {base r : Nat} {v : Value} {n : Nat} {xs : List Value} {e : TypeId} {s : Nat} (h : w.ownsRow base e s v n xs) {o : Obj} (hr : w.heap[r]? = some o) (ho : ∀ cs t f, o ≠ .cells cs t f) : some r ≠ v.ownBlock := by
  intro e1
  rcases h.2 with ⟨rfl, _⟩ | ⟨g, cap, cur, rfl, _, hg, _⟩
  · cases e1
  · simp [Value.ownBlock] at e1
    subst e1
    rw [hr] at hg
    exact ho _ _ _ (Option.some.inj hg)
theorem nb_low {w : World} {base : Nat} {v : Value} {n : Nat} {xs : List Value} {e : TypeId} {s : Nat} (h : w.ownsRow base e s v n xs) {b : Nat} (hb : b < base) : some b ≠ v.ownBlock := fun e1 => by
  have := (h.lt b e1.symm).1
  omega
/-- what has been gathered so far -/
structure PlIn (w : World) (b r n : Nat) (D : DataW Unit) (left : Lit → Bool) (cnt : Nat) (v : Value) (l : List Pl) (W : World) : Prop where
  rg : W.ranges Tryd.prog 74 (plainElem Tryd.prog 9) b r n D left cnt
  own : W.ownsRow w.heap.size 74 32 v l.length (l.flatMap encP)
  len : l.length + cnt ≤ Maps.size D
  nodup : l.Nodup
  mem : ∀ p : Pl, p ∈ l ↔ (Maps.has D (.string p.1) = true ∧ left (.string p.1) = false)
  bel : Below w.heap.size w W
section
variable {w W W' w2 W1 : World} {b r n : Nat} {D : DataW Unit} {f : PM} {left : Lit → Bool} {cnt cnt2 : Nat} {v v' : Value} {l : List Pl}
theorem PlIn.rne (h : PlIn w b r n D left cnt v l W) : some r ≠ v.ownBlock := by
  obtain ⟨es, clock, since, seen, c0, hb, F, hs, hD, hr, rest⟩ := h.rg
  exact own_ne_iter h.own hr (fun _ _ _ e => by cases e)
/-- the row, where the range has gone on and more has been laid -/
theorem PlIn.row (h : PlIn w b r n D left cnt v l W) (hg2 : W.grownBy w2 (some r)) (hb : Below w2.heap.size w2 W1) : W1.ownsRow w.heap.size 74 32 v l.length (l.flatMap encP) :=
  own_bel' (h.own.kept hg2 (.inr (Ne.symm h.rne))) hb
theorem PlIn.bel2 (h : PlIn w b r n D left cnt v l W) (hbr : w.heap.size ≤ r) (hg2 : W.grownBy w2 (some r)) (hb : Below w2.heap.size w2 W1) : Below w.heap.size w W1 := by
  have hs := h.bel.size
  have h1 : Below w.heap.size W w2 := ⟨hg2.os, hg2.tape, hg2.output, hg2.size, fun i hi => hg2.block i (by omega) (fun e => by have := Option.some.inj e; omega)⟩
  exact (h.bel.trans h1).trans (hb.mono (Nat.le_trans hs hg2.size))
theorem pl_step (h : PlIn w b r n D left cnt v l W) (hh : ∀ k, k.length = 32 → Maps.has D (.string k) = (f k).isSome) (ha : ∀ k s, k.length = 32 → f k = some s → D.atKey (.string k) (.lit (.string [])) = .lit (.string s.data.toList)) (hbl : b < w.heap.size) (hbr : w.heap.size ≤ r)
    {x : Pl} {c : ByteArray} {kl : Lit} {y : DataW Unit × List MemPlace} (hkey : keyOf Tryd.prog 74 (pv x.1) = some kl) (hlk : left kl = true) (hv : plainElem Tryd.prog 9 (.string c) = some y) (hat : ∀ zd, D.atKey kl zd = y.1)
    (hrg2 : w2.ranges Tryd.prog 74 (plainElem Tryd.prog 9) b r n D (fun z => left z && !z.sameKey kl) cnt2) (hlt : cnt2 < cnt) (hg2 : W.grownBy w2 (some r)) (hb : Below w2.heap.size w2 W1)
    (hown : W'.ownsRow w.heap.size 74 32 v' (l.length + 1) (l.flatMap encP ++ encP x)) (hgr : W1.grownBy W' v.ownBlock) :
    PlIn w b r n D (fun z => left z && !z.sameKey kl) cnt2 v' (l ++ [x]) W' := by
  obtain ⟨e, hf⟩ := entry_is hh ha hkey hv hat
  subst e
  have hrow := h.row hg2 hb
  have hrg3 := rg_below hrg2 hb
  have hb1 := h.bel2 hbr hg2 hb
  have hne : some r ≠ v.ownBlock := h.rne
  have hnb : some b ≠ v.ownBlock := nb_low h.own hbl
  have hlen := h.len
  have hnot : x ∉ l := fun hm => by
    have := ((h.mem x).1 hm).2
    rw [hlk] at this
    cases this
  refine ⟨hrg3.kept hgr hnb hne, ?_, ?_, ?_, ?_, ?_⟩
  · rw [List.length_append, List.flatMap_append]
    simpa using hown
  · rw [List.length_append]
    simp only [List.length_singleton]
    omega
  · rw [List.nodup_append]
    exact ⟨h.nodup, by simp, fun a ha b hb e => by simp at hb; subst e; subst hb; exact hnot ha⟩
  · intro p
    rw [List.mem_append, h.mem p, same_str]
    by_cases e : p = x
    · subst e
      have h1 : Maps.has D (.string p.1) = true := by rw [hh _ p.2, hf]; rfl
      simp [h1]
    · have e2 : p.1 ≠ x.1 := fun e3 => e (Subtype.ext e3)
      simp [e, e2]
  · refine hb1.trans ⟨hgr.os, hgr.tape, hgr.output, hgr.size, fun i hi => hgr.block i (Nat.lt_of_lt_of_le hi hb1.size) (fun e => ?_)⟩
    have := hrow.lt i e.symm
    omega
end
end Go.Proofs.YtichklplcpkjdaaDoor
