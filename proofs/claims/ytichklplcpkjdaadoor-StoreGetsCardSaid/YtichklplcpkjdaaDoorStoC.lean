/-
  The store in memory: the trie now, and the past ones, each in blocks of its own; what is pinned (Z) stays.
-/
import Derived.Test.YtichklplcpkjdaaDoorStoB
namespace Go.Proofs.YtichklplcpkjdaaDoor
open Go.RowKit
set_option linter.unusedVariables false

/-- what is pinned stays -/
structure Kp (Z : Nat → Prop) (w w' : World) : Prop where
  os : w'.os = w.os
  tape : w'.tape = w.tape
  output : w'.output = w.output
  size : w.heap.size ≤ w'.heap.size
  block : ∀ i, Z i → w'.heap[i]? = w.heap[i]?
section
variable {Z Z' : Nat → Prop} {w w' w2 : World}
theorem Kp.refl (Z : Nat → Prop) (w : World) : Kp Z w w := ⟨rfl, rfl, rfl, Nat.le_refl _, fun _ _ => rfl⟩
theorem Kp.trans (h : Kp Z w w') (k : Kp Z w' w2) : Kp Z w w2 := ⟨k.os.trans h.os, k.tape.trans h.tape, k.output.trans h.output, Nat.le_trans h.size k.size, fun i hi => (k.block i hi).trans (h.block i hi)⟩
theorem Kp.mono (h : Kp Z w w') (hz : ∀ i, Z' i → Z i) : Kp Z' w w' := ⟨h.os, h.tape, h.output, h.size, fun i hi => h.block i (hz i hi)⟩
theorem Kp.of_below (h : Below w.heap.size w w') (hz : ∀ i, Z i → i < w.heap.size) : Kp Z w w' := ⟨h.os, h.tape, h.output, h.size, fun i hi => h.block i (hz i hi)⟩
theorem Kp.of_only {S : List Nat} (h : Only S w w') (hs : ∀ x ∈ S, ¬ Z x) (hz : ∀ i, Z i → i < w.heap.size) : Kp Z w w' := ⟨h.os, h.tape, h.output, h.size, fun i hi => h.block i (hz i hi) (fun hm => hs i hm hi)⟩
theorem Kp.below {B : Nat} (h : Kp Z w w') (hz : ∀ i, i < B → Z i) : Below B w w' := ⟨h.os, h.tape, h.output, h.size, fun i hi => h.block i (hz i hi)⟩
theorem Kp.blk {g : Nat} {t : TypeId} {cs : Array Value} (h : Kp Z w w') (hg : Z g) (hb : Blk w g t cs) : Blk w' g t cs := (h.block g hg).trans hb
theorem FormsAt.kp (hf : FormsAt w) (h : Kp Z w w') (hz : ∀ i, i < 3 → Z i) : FormsAt w' := by
  obtain ⟨⟨t, fr, h1⟩, h4⟩ := hf
  exact ⟨⟨t, fr, (h.block _ (hz _ (by decide))).trans h1⟩, Nat.lt_of_lt_of_le h4 h.size⟩
theorem Glob.kp (hg : Glob w) (h : Kp Z w w') (hz : ∀ i, i < 3 → Z i) : Glob w' := hg.of_blocks fun i hi => h.block i (hz i (by omega))
end
def ptr (t : Nat) : Value := .pointer (some ⟨t, 0, none⟩)
/-- the past tries: none's map is that of the trie now -/
def PastAt (w : World) (b n : Nat) (xs : List (Nat × Nat)) (l : List PM) : Prop := xs.length = l.length ∧ ∀ (i : Nat) (x : Nat × Nat) (f : PM), xs[i]? = some x → l[i]? = some f → TAt w x.1 x.2 n f ∧ x.2 ≠ b
/-- the store's parts -/
structure Core (w : World) (Z : Nat → Prop) (s t b g cap n : Nat) (f : PM) (xs : List (Nat × Nat)) (l : List PM) : Prop where
  blk : Blk w s 45 #[ptr t, .slice (some ⟨g, 0, none⟩) l.length cap]
  now : TAt w t b n f
  row : w.ownsRow 0 40 1 (.slice (some ⟨g, 0, none⟩) l.length cap) l.length (xs.map fun x => ptr x.1)
  past : PastAt w b n xs l
  pos : 0 < l.length
  s_ : ¬ Z s
  b_ : ¬ Z b
  g_ : ¬ Z g
/-- a store: its block s, the trie now at t, which holds f; l: what the past ones hold; no trie has more than n places -/
structure StAt (w : World) (Z : Nat → Prop) (s t n : Nat) (f : PM) (l : List PM) : Prop where
  glob : Glob w
  forms : FormsAt w
  zlt : ∀ i, Z i → i < w.heap.size
  zg : ∀ i, i < 3 → Z i
  core : ∃ b g cap xs, Core w Z s t b g cap n f xs l
section
variable {Z Z' : Nat → Prop} {w w' : World} {s t b g cap n m : Nat} {f f' : PM} {xs : List (Nat × Nat)} {l : List PM}
theorem row_blk {e : TypeId} {zs : List Value} {k : Nat} (h : w.ownsRow 0 e 1 (.slice (some ⟨g, 0, none⟩) k cap) k zs) : (∃ cur, w.heap[g]? = some (.cells cur e (0, 0))) ∧ g < w.heap.size := by
  rcases h.2 with ⟨h1, _⟩ | ⟨g', cap', cur, h1, _, hg, _⟩
  · cases h1
  · cases h1
    exact ⟨⟨cur, hg⟩, lt_of_some hg⟩
theorem Core.s_lt (h : Core w Z s t b g cap n f xs l) : s < w.heap.size := h.blk.lt
theorem Core.b_lt (h : Core w Z s t b g cap n f xs l) : b < w.heap.size := h.now.m.lt
theorem Core.g_lt (h : Core w Z s t b g cap n f xs l) : g < w.heap.size := (row_blk h.row).2
theorem Core.s_b (h : Core w Z s t b g cap n f xs l) : s ≠ b := h.now.m.not_cells h.blk
theorem ne_types {x y : Nat} {T U : TypeId} {cs ds : Array Value} {a c : Nat × Nat} (h1 : w.heap[x]? = some (.cells cs T a)) (h2 : w.heap[y]? = some (.cells ds U c)) (hT : T ≠ U) : x ≠ y := by
  intro e
  rw [e, h2] at h1
  injection h1 with h1
  injection h1 with _ h1 _
  exact hT h1.symm
theorem Core.t_s (h : Core w Z s t b g cap n f xs l) : t ≠ s := ne_types h.now.blk h.blk (by decide)
theorem Core.t_g (h : Core w Z s t b g cap n f xs l) : t ≠ g := by obtain ⟨⟨cur, hg⟩, _⟩ := row_blk h.row; exact ne_types h.now.blk hg (by decide)
theorem Core.s_g (h : Core w Z s t b g cap n f xs l) : s ≠ g := by obtain ⟨⟨cur, hg⟩, _⟩ := row_blk h.row; exact ne_types h.blk hg (by decide)
theorem Core.g_b (h : Core w Z s t b g cap n f xs l) : g ≠ b := by
  obtain ⟨⟨cur, hg⟩, _⟩ := row_blk h.row
  exact h.now.m.not_cells hg
theorem TAt.t_lt (h : TAt w t b n f) : t < w.heap.size := h.blk.lt
theorem TAt.of_blocks (h : TAt w t b n f) (ht : w'.heap[t]? = w.heap[t]?) (hb : w'.heap[b]? = w.heap[b]?) : TAt w' t b n f := ⟨ht.trans h.blk, h.m.of_block hb, h.ok⟩
theorem TAt.t_ne {T : TypeId} {cs : Array Value} (h : TAt w t b n f) {k : Nat} (hk : Blk w k T cs) (hT : 72 ≠ T) : t ≠ k := ne_types h.blk hk hT
theorem PastAt.below (h : PastAt w b n xs l) (hb : Below w.heap.size w w') : PastAt w' b n xs l := ⟨h.1, fun i x f h1 h2 => ⟨(h.2 i x f h1 h2).1.below hb, (h.2 i x f h1 h2).2⟩⟩
theorem row_below {e : TypeId} {zs : List Value} {v : Value} {k : Nat} (h : w.ownsRow 0 e 1 v k zs) (hb : Below w.heap.size w w') : w'.ownsRow 0 e 1 v k zs :=
  h.kept (row := none) ⟨hb.os, hb.tape, hb.output, hb.size, fun i hi _ => hb.block i hi⟩ (by cases v.ownBlock <;> simp)
theorem Core.below (h : Core w Z s t b g cap n f xs l) (hb : Below w.heap.size w w') : Core w' Z s t b g cap n f xs l := ⟨h.blk.below hb, h.now.below hb, row_below h.row hb, h.past.below hb, h.pos, h.s_, h.b_, h.g_⟩
theorem StAt.below (h : StAt w Z s t n f l) (hb : Below w.heap.size w w') : StAt w' Z s t n f l := by
  obtain ⟨b, g, cap, xs, hc⟩ := h.core
  exact ⟨h.glob.next hb, h.forms.below hb, fun i hi => Nat.lt_of_lt_of_le (h.zlt i hi) hb.size, h.zg, b, g, cap, xs, hc.below hb⟩
/-- other blocks are pinned: none of the store's -/
theorem StAt.pin (h : StAt w Z s t n f l) (hb : Below w.heap.size w w') (hz : ∀ i, Z' i → i < w'.heap.size ∧ (Z i ∨ w.heap.size ≤ i)) (hg : ∀ i, i < 3 → Z' i) : StAt w' Z' s t n f l := by
  obtain ⟨b, g, cap, xs, hc⟩ := h.core
  have hn : ∀ i, i < w.heap.size → ¬ Z i → ¬ Z' i := fun i hi hn hz' => by
    rcases (hz i hz').2 with h1 | h1
    · exact hn h1
    · omega
  have hd := hc.below hb
  exact ⟨h.glob.next hb, h.forms.below hb, fun i hi => (hz i hi).1, hg, b, g, cap, xs, hd.blk, hd.now, hd.row, hd.past, hd.pos, hn _ hc.s_lt hc.s_, hn _ hc.b_lt hc.b_, hn _ hc.g_lt hc.g_⟩
theorem StAt.mono (h : StAt w Z s t n f l) (hm : n ≤ m) : StAt w Z s t m f l := by
  obtain ⟨b, g, cap, xs, hc⟩ := h.core
  exact ⟨h.glob, h.forms, h.zlt, h.zg, b, g, cap, xs, hc.blk, hc.now.mono hm, hc.row, ⟨hc.past.1, fun i x f h1 h2 => ⟨(hc.past.2 i x f h1 h2).1.mono hm, (hc.past.2 i x f h1 h2).2⟩⟩, hc.pos, hc.s_, hc.b_, hc.g_⟩
/-- the trie now is turned -/
theorem Core.turn (h : Core w Z s t b g cap n f xs l) {m : Nat} (hm : n ≤ m) (h1 : TAt w' t b m f') (ho : Only [b] w w') : Core w' Z s t b g cap m f' xs l := by
  have hk : ∀ i, i < w.heap.size → i ≠ b → w'.heap[i]? = w.heap[i]? := fun i hi hn => ho.block i hi (by simpa using hn)
  refine ⟨(hk s h.s_lt h.s_b).trans h.blk, h1, h.row.kept (row := some b) ⟨ho.os, ho.tape, ho.output, ho.size, fun i hi hn => hk i hi (fun e => hn (by rw [e]))⟩ (.inr (by simpa [Value.ownBlock] using h.g_b)), ⟨h.past.1, fun i x f0 h2 h3 => ?_⟩, h.pos, h.s_, h.b_, h.g_⟩
  obtain ⟨h4, h5⟩ := h.past.2 i x f0 h2 h3
  exact ⟨(h4.of_blocks (hk _ h4.t_lt (h.now.m.not_cells h4.blk)) (hk _ h4.m.lt h5)).mono hm, h5⟩
theorem StAt.turn (h : StAt w Z s t n f l) : ∃ b, TAt w t b n f ∧ ∀ (w' : World) (m : Nat) (f' : PM), n ≤ m → TAt w' t b m f' → Only [b] w w' → StAt w' Z s t m f' l ∧ Kp Z w w' := by
  obtain ⟨b, g, cap, xs, hc⟩ := h.core
  refine ⟨b, hc.now, fun w' m f' hm h1 ho => ?_⟩
  have hk : Kp Z w w' := Kp.of_only ho (by simpa using hc.b_) h.zlt
  exact ⟨⟨h.glob.kp hk h.zg, h.forms.kp hk h.zg, fun i hi => Nat.lt_of_lt_of_le (h.zlt i hi) ho.size, h.zg, b, g, cap, xs, hc.turn hm h1 ho⟩, hk⟩
theorem StAt.now (h : StAt w Z s t n f l) : ∃ b, TAt w t b n f := by
  obtain ⟨b, g, cap, xs, hc⟩ := h.core
  exact ⟨b, hc.now⟩
theorem StAt.blk (h : StAt w Z s t n f l) : ∃ g cap, Blk w s 45 #[ptr t, .slice (some ⟨g, 0, none⟩) l.length cap] := by
  obtain ⟨b, g, cap, xs, hc⟩ := h.core
  exact ⟨g, cap, hc.blk⟩
/-- a past trie -/
theorem StAt.old (h : StAt w Z s t n f l) {i : Nat} (hi : i < l.length) : ∃ g cap x y, Blk w s 45 #[ptr t, .slice (some ⟨g, 0, none⟩) l.length cap] ∧ w.cell? ⟨g, i, none⟩ = some (ptr x) ∧ TAt w x y n l[i] := by
  obtain ⟨b, g, cap, xs, hc⟩ := h.core
  have hx : xs[i]? = some (xs[i]'(by rw [hc.past.1]; exact hi)) := List.getElem?_eq_getElem _
  have hl : l[i]? = some l[i] := List.getElem?_eq_getElem _
  refine ⟨g, cap, (xs[i]'(by rw [hc.past.1]; exact hi)).1, (xs[i]'(by rw [hc.past.1]; exact hi)).2, hc.blk, ?_, (hc.past.2 i _ _ hx hl).1⟩
  have hcell := World.ownsRow.cells hc.row (g := g) rfl i (ptr (xs[i]'(by rw [hc.past.1]; exact hi)).1) (by rw [List.getElem?_map, hx]; rfl)
  rw [addr0] at hcell
  simpa using hcell
/-- Discard: the trie now is a new one -/
theorem StAt.swap (h : StAt w Z s t n f l) {w1 : World} {t' b' : Nat} (hb : Below w.heap.size w w1) (h1 : TAt w1 t' b' n f') (hb' : w.heap.size ≤ b') (ht' : w.heap.size ≤ t') : StAt (w1.setCell ⟨s, 0, none⟩ (ptr t')) Z s t' n f' l ∧ Kp Z w (w1.setCell ⟨s, 0, none⟩ (ptr t')) := by
  obtain ⟨b, g, cap, xs, hc⟩ := h.core
  have hd := hc.below hb
  have hk0 : ∀ i, i ≠ s → (w1.setCell ⟨s, 0, none⟩ (ptr t')).heap[i]? = w1.heap[i]? := fun i hn => by simp [World.setCell, Array.getElem?_modify, Ne.symm hn]
  have hsz : (w1.setCell ⟨s, 0, none⟩ (ptr t')).heap.size = w1.heap.size := by simp
  have hk1 : Kp Z w1 (w1.setCell ⟨s, 0, none⟩ (ptr t')) := ⟨rfl, rfl, rfl, by rw [hsz]; exact Nat.le_refl _, fun i hi => hk0 i (fun e => hc.s_ (e ▸ hi))⟩
  have hk : Kp Z w (w1.setCell ⟨s, 0, none⟩ (ptr t')) := (Kp.of_below hb h.zlt).trans hk1
  have hs1 := hc.s_lt
  have hnz : ∀ i, w.heap.size ≤ i → ¬ Z i := fun i hi hz => by have := h.zlt i hz; omega
  refine ⟨⟨h.glob.kp hk h.zg, h.forms.kp hk h.zg, fun i hi => Nat.lt_of_lt_of_le (h.zlt i hi) hk.size, h.zg, b', g, cap, xs, hd.blk.set_ 0 (ptr t'), h1.of_blocks (hk0 _ (by omega)) (hk0 _ (by omega)), ?_, ⟨hc.past.1, fun i x f0 h2 h3 => ?_⟩, hc.pos, hc.s_, hnz _ hb', hc.g_⟩, hk⟩
  · exact hd.row.kept (row := some s) ⟨rfl, rfl, rfl, by rw [hsz]; exact Nat.le_refl _, fun i hi hn => hk0 i (fun e => hn (by rw [e]))⟩ (.inr (by simpa [Value.ownBlock] using Ne.symm hc.s_g))
  · obtain ⟨h4, h5⟩ := hd.past.2 i x f0 h2 h3
    have h6 := (hc.past.2 i x f0 h2 h3).1.m.lt
    exact ⟨h4.of_blocks (hk0 _ (h4.t_ne hd.blk (by decide))) (hk0 _ (Ne.symm (h4.m.not_cells hd.blk))), by omega⟩
end
end Go.Proofs.YtichklplcpkjdaaDoor
