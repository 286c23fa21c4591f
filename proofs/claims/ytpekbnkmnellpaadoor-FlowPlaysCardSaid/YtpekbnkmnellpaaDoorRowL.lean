/-
  Slices that the call itself has made: rows of packets, of bools, of texts; what leaves them as they are.
-/
import Derived.Test.YtpekbnkmnellpaaDoorFlowB
import Derived.Deep.AppendLies
namespace Go.Proofs.YtpekbnkmnellpaaDoor
open Go.RowKit Go.Maps
set_option linter.unusedVariables false

theorem flat_get {α β : Type} (f : α → List β) (s : Nat) (hf : ∀ x, (f x).length = s) : ∀ (l : List α) (k j : Nat) (h : k < l.length), j < s → (l.flatMap f)[k * s + j]? = (f l[k])[j]?
  | [], k, j, h, _ => by simp at h
  | x :: l, 0, j, h, hj => by
    rw [List.flatMap_cons, Nat.zero_mul, Nat.zero_add, List.getElem?_append_left (by rw [hf]; exact hj)]
    rfl
  | x :: l, k + 1, j, h, hj => by
    have ih := flat_get f s hf l k j (by simpa using h) hj
    rw [List.flatMap_cons, List.getElem?_append_right (by rw [hf, Nat.add_mul]; omega), hf]
    rw [show (k + 1) * s + j - s = k * s + j by rw [Nat.add_mul]; omega, ih]
    rfl
theorem flat_len {α β : Type} (f : α → List β) (s : Nat) (hf : ∀ x, (f x).length = s) : ∀ l : List α, (l.flatMap f).length = l.length * s
  | [] => by simp
  | x :: l => by rw [List.flatMap_cons, List.length_append, hf, flat_len f s hf l, List.length_cons, Nat.add_mul]; omega
theorem Only.of_grown {w w' : World} {row : Option Nat} (h : w.grownBy w' row) : Only row.toList w w' :=
  ⟨h.os, h.tape, h.output, h.size, fun k hk hs => h.block k hk (fun e => hs (by rw [← e]; simp))⟩
section
variable {w w' : World} {base : Nat} {e : TypeId} {size : Nat} {v : Value} {n : Nat} {xs : List Value}
theorem own_only {S : List Nat} (h : w.ownsRow base e size v n xs) (ho : Only S w w') (hS : ∀ g, v.ownBlock = some g → g ∉ S) : w'.ownsRow base e size v n xs := by
  refine ⟨h.1, ?_⟩
  rcases h.2 with hn | ⟨g, cap, cur, hv, hb, hgg, rest⟩
  · exact .inl hn
  · refine .inr ⟨g, cap, cur, hv, hb, ?_, rest⟩
    rw [ho.block g (Array.getElem?_eq_some_iff.1 hgg).1 (hS g (by rw [hv]; rfl))]
    exact hgg
theorem own_bel (h : w.ownsRow base e size v n xs) (hb : Below w.heap.size w w') : w'.ownsRow base e size v n xs := own_only (S := []) h (Only.of_below hb) (by simp)
/-- the row's own block has the elements' type -/
theorem own_type (h : w.ownsRow base e size v n xs) {g : Nat} (hg : v.ownBlock = some g) : ∃ cur, Blk w g e cur := by
  rcases h.2 with ⟨hv, _⟩ | ⟨g', cap, cur, hv, _, hgg, _⟩
  · rw [hv] at hg; cases hg
  · rw [hv] at hg
    simp [Value.ownBlock] at hg
    exact ⟨cur, hg ▸ hgg⟩
theorem own_ge (h : w.ownsRow base e size v n xs) {g : Nat} (hg : v.ownBlock = some g) : base ≤ g := (h.lt g hg).1
theorem own_form (h : w.ownsRow base e size v n xs) : ∃ ao cap, v = .slice ao n cap ∧ (0 < n → ∃ g cur, ao = some ⟨g, 0, none⟩ ∧ v.ownBlock = some g ∧ Blk w g e cur ∧ ∀ i u, xs[i]? = some u → w.cell? ⟨g, i, none⟩ = some u) := by
  have hc := fun g hg => World.ownsRow.cells h (g := g) hg
  rcases h.2 with ⟨hv, h0⟩ | ⟨g, cap, cur, hv, _, hgg, _⟩
  · exact ⟨none, 0, by rw [hv, h0], fun h => by omega⟩
  · refine ⟨_, cap, hv, fun _ => ⟨g, cur, rfl, by rw [hv]; rfl, hgg, fun i u hi => ?_⟩⟩
    have := hc g (by rw [hv]; rfl) i u hi
    have e : (⟨g, 0, none⟩ : Addr).add i = ⟨g, i, none⟩ := by unfold Addr.add; split <;> simp_all
    rwa [e] at this
theorem own_set (h : w.ownsRow base e size v n xs) {g : Nat} (hg : v.ownBlock = some g) (k : Nat) (hk : k < n * size) (u : Value) : (w.setCell ⟨g, k, none⟩ u).ownsRow base e size v n (xs.set k u) := by
  refine ⟨by rw [List.length_set]; exact h.1, ?_⟩
  rcases h.2 with ⟨hv, _⟩ | ⟨g', cap, cur, hv, hb, hgg, h1, h2, h3, h4⟩
  · rw [hv] at hg; cases hg
  · rw [hv] at hg
    simp [Value.ownBlock] at hg
    subst hg
    refine .inr ⟨g', cap, cur.setIfInBounds k u, hv, hb, Blk.set_ (show Blk w g' e cur from hgg) k u, h1, h2, by simpa using h3, ?_⟩
    rw [← h4, Array.toList_setIfInBounds]
    exact List.take_set
/-- blocks of another type are none of the row's -/
theorem own_apart (h : w.ownsRow base e size v n xs) {k : Nat} {t : TypeId} {cs : Array Value} (hk : Blk w k t cs) (ht : t ≠ e) : ∀ g, v.ownBlock = some g → g ≠ k := by
  intro g hg he
  obtain ⟨cur, hc⟩ := own_type h hg
  unfold Blk at hc hk
  rw [he, hk] at hc
  simp at hc
  exact ht hc.2
end
theorem map_apart {w : World} {g b n : Nat} {f : Int → Option ByteArray} {t : TypeId} {cs : Array Value} (hk : Blk w g t cs) (hm : MapS w b n f) : g ≠ b := by
  obtain ⟨D, ⟨es, clock, h1, h2⟩, hr⟩ := hm
  intro e
  unfold Blk at hk
  rw [e, h1] at hk
  cases hk
theorem mapB_apart {w : World} {g b n : Nat} {f : Int → Bool} {t : TypeId} {cs : Array Value} (hk : Blk w g t cs) (hm : MapB w b n f) : g ≠ b := by
  obtain ⟨D, ⟨es, clock, h1, h2⟩, hr⟩ := hm
  intro e
  unfold Blk at hk
  rw [e, h1] at hk
  cases hk
/-- a block of another type than a flow's is none of the flow's -/
theorem FlowAt.apart {w : World} {B : FB} {n : Nat} {s : Fl} (F : FlowAt w B n s) {g : Nat} {t : TypeId} {cs : Array Value} (hk : Blk w g t cs) (ht : t ≠ 98) : g ∉ B.l := by
  simp only [FB.l, List.mem_cons, List.not_mem_nil, or_false, not_or]
  refine ⟨fun e => ?_, map_apart hk F.ms, map_apart hk F.mw, mapB_apart hk F.mg⟩
  have h2 := F.blk
  unfold Blk at h2 hk
  rw [e, h2] at hk
  simp at hk
  exact ht hk.2.symm
/-! ### Rows of packets and of bools -/
def pkC (p : Pk) : List Value := [.int .u64 p.seq, .int .u64 p.src, .int .u64 p.dst, .string p.data, .int .u64 p.timeout]
def pC (ps : List Pk) : List Value := ps.flatMap pkC
theorem pC_len (ps : List Pk) : (pC ps).length = ps.length * 5 := flat_len pkC 5 (fun _ => rfl) ps
theorem pC_app (ps qs : List Pk) : pC (ps ++ qs) = pC ps ++ pC qs := List.flatMap_append
def RowP (w : World) (base : Nat) (v : Value) (ps : List Pk) : Prop := w.ownsRow base 24 5 v ps.length (pC ps)
def bsC (bs : List Bool) : List Value := bs.map .bool
def RowB (w : World) (base : Nat) (v : Value) (bs : List Bool) : Prop := w.ownsRow base 4 1 v bs.length (bsC bs)
theorem RowP.at_ {w : World} {base : Nat} {v : Value} {ps : List Pk} (h : RowP w base v ps) : ∃ ao cap, v = .slice ao ps.length cap ∧ (0 < ps.length → ∃ g cur, ao = some ⟨g, 0, none⟩ ∧ v.ownBlock = some g ∧ Blk w g 24 cur ∧
    ∀ k (hk : k < ps.length), w.cell? ⟨g, k * 5, none⟩ = some (.int .u64 ps[k].seq) ∧ w.cell? ⟨g, k * 5 + 1, none⟩ = some (.int .u64 ps[k].src) ∧ w.cell? ⟨g, k * 5 + 2, none⟩ = some (.int .u64 ps[k].dst) ∧ w.cell? ⟨g, k * 5 + 3, none⟩ = some (.string ps[k].data) ∧ w.cell? ⟨g, k * 5 + 4, none⟩ = some (.int .u64 ps[k].timeout)) := by
  obtain ⟨ao, cap, hv, hf⟩ := own_form h
  refine ⟨ao, cap, hv, fun hn => ?_⟩
  obtain ⟨g, cur, h1, h2, h3, h4⟩ := hf hn
  have hg := fun k (hk : k < ps.length) j (hj : j < 5) => flat_get pkC 5 (fun _ => rfl) ps k j hk hj
  exact ⟨g, cur, h1, h2, h3, fun k hk => ⟨h4 _ _ (hg k hk 0 (by omega)), h4 _ _ (hg k hk 1 (by omega)), h4 _ _ (hg k hk 2 (by omega)), h4 _ _ (hg k hk 3 (by omega)), h4 _ _ (hg k hk 4 (by omega))⟩⟩
theorem RowB.at_ {w : World} {base : Nat} {v : Value} {bs : List Bool} (h : RowB w base v bs) : ∃ ao cap, v = .slice ao bs.length cap ∧ (0 < bs.length → ∃ g cur, ao = some ⟨g, 0, none⟩ ∧ v.ownBlock = some g ∧ Blk w g 4 cur ∧
    ∀ k (hk : k < bs.length), w.cell? ⟨g, k, none⟩ = some (.bool bs[k])) := by
  obtain ⟨ao, cap, hv, hf⟩ := own_form h
  refine ⟨ao, cap, hv, fun hn => ?_⟩
  obtain ⟨g, cur, h1, h2, h3, h4⟩ := hf hn
  exact ⟨g, cur, h1, h2, h3, fun k hk => h4 _ _ (by simp [bsC, hk])⟩
theorem RowB.set_ {w : World} {base : Nat} {v : Value} {bs : List Bool} (h : RowB w base v bs) {g : Nat} (hg : v.ownBlock = some g) (k : Nat) (hk : k < bs.length) (b : Bool) : RowB (w.setCell ⟨g, k, none⟩ (.bool b)) base v (bs.set k b) := by
  have := own_set h hg k (by omega) (.bool b)
  unfold RowB
  rw [List.length_set]
  have e : bsC (bs.set k b) = (bsC bs).set k (.bool b) := by unfold bsC; exact List.map_set
  rw [e]
  exact this
theorem info_pk : (Tryd.prog.info? 24).map (fun i => (i.zero, i.size, i.bytes)) = some (some (.agg #[.int .u64 0, .int .u64 0, .int .u64 0, .string ⟨#[]⟩, .int .u64 0]), 5, 48) := by kernel_rfl
theorem info_bool : (Tryd.prog.info? 4).map (fun i => (i.zero, i.size, i.bytes)) = some (some (.bool false), 1, 1) := by kernel_rfl
end Go.Proofs.YtpekbnkmnellpaaDoor
