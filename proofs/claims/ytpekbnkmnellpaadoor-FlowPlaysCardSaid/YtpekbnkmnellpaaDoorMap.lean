/-
  Maps keyed by uint64, of strings and of bools.
-/
import Derived.Test.YtpekbnkmnellpaaDoorBase
import Derived.Maps.Own
import Derived.Maps.OwnOps
import Derived.Maps.OwnSet
import Derived.Maps.StringElems
namespace Go.Proofs.YtpekbnkmnellpaaDoor
open Go.RowKit Go.Maps
set_option linter.unusedVariables false

def u64r (n : Int) : Prop := 0 ≤ n ∧ n ≤ 18446744073709551615
theorem u64_wf {n : Int} (h : u64r n) : (Lit.int .u64 n).wf = true := WalkArith.wf_u64 h
theorem keyLaw : Keyed Tryd.prog 22 := int_keyed Tryd.underlying22
theorem key_is {n : Int} (h : u64r n) : keyOf Tryd.prog 22 (.int .u64 n) = some (.int .u64 n) := keyOf_int_mk Tryd.underlying22 (u64_wf h)
theorem zero_str (w : World) : (zeroValue 9).run Tryd.prog w = .ok (.string ByteArray.empty) w := by kernel_rfl
theorem zero_bool (w : World) : (zeroValue 4).run Tryd.prog w = .ok (.bool false) w := by kernel_rfl
/-- block b is a map of at most n entries that reads as f -/
def MapS (w : World) (b n : Nat) (f : Int → Option ByteArray) : Prop :=
  ∃ D : DataW Unit, w.ownsMap Tryd.prog 22 (plainElem Tryd.prog 9) b n D ∧ (∀ k, u64r k → Maps.has D (.int .u64 k) = (f k).isSome) ∧ ∀ k s, u64r k → f k = some s → D.atKey (.int .u64 k) (.lit (.string [])) = .lit (.string s.data.toList)
def MapB (w : World) (b n : Nat) (f : Int → Bool) : Prop :=
  ∃ D : DataW Unit, w.ownsMap Tryd.prog 22 (plainElem Tryd.prog 4) b n D ∧ (∀ k, u64r k → D.atKey (.int .u64 k) (.lit (.bool false)) = .lit (.bool (f k)))
def upd {α : Type} (f : Int → α) (k : Int) (v : α) (i : Int) : α := if i = k then v else f i
theorem upd_at {α : Type} (f : Int → α) (k : Int) (v : α) : upd f k v k = v := if_pos rfl
theorem upd_ne {α : Type} (f : Int → α) {k i : Int} (v : α) (h : i ≠ k) : upd f k v i = f i := if_neg h
theorem litKey (k : Int) : WideAt.IsKeyLit (.int .u64 k) := by trivial
theorem str_ext {s t : ByteArray} (h : s.data.toList = t.data.toList) : s = t := by
  apply ByteArray.ext
  exact Array.toList_inj.1 h
theorem plainElem_bool_inv {P : Program} {e : TypeId} (he : P.underlying e = some .bool) {v : Value} {z : DataW Unit × List MemPlace} (h : plainElem P e v = some z) : ∃ x, v = .bool x ∧ z = (.lit (.bool x), []) := by
  unfold plainElem at h
  rw [he] at h
  cases v <;> simp at h
  exact ⟨_, rfl, h.symm⟩
theorem MapS.look {w : World} {b n : Nat} {f : Int → Option ByteArray} (h : MapS w b n f) {k : Int} (hk : u64r k) :
    (Instr.lookup 91 (.map (some b)) (.int .u64 k) true).run Tryd.prog w = .ok (.tuple #[.string ((f k).getD ByteArray.empty), .bool (f k).isSome]) w := by
  obtain ⟨D, ho, hh, ha⟩ := h
  obtain ⟨v, ps, hrun, hv⟩ := ho.look_ok keyLaw Tryd.underlying91 (zero_str w) (plainElem_string Tryd.underlying9 (by unfold maxLen; decide)) (key_is hk)
  rw [hrun, hh k hk]
  obtain ⟨s, rfl, hs, _⟩ := plainElem_string_inv Tryd.underlying9 hv
  have hs1 := congrArg Prod.fst hs
  simp only at hs1
  cases hf : f k with
  | none =>
    have := atKey_of_not_has (D := D) (k := .int .u64 k) (by rw [hh k hk, hf]; rfl) (.lit (.string ByteArray.empty.data.toList))
    rw [this] at hs1
    simp only [DataW.lit.injEq, Lit.string.injEq] at hs1
    rw [str_ext hs1.symm]
    rfl
  | some t =>
    have := ha k t hk hf
    have e : (DataW.lit (Lit.string ByteArray.empty.data.toList) : DataW Unit) = .lit (.string []) := rfl
    rw [e, this] at hs1
    simp only [DataW.lit.injEq, Lit.string.injEq] at hs1
    rw [str_ext hs1.symm]
    rfl
theorem MapB.look {w : World} {b n : Nat} {f : Int → Bool} (h : MapB w b n f) {k : Int} (hk : u64r k) :
    (Instr.lookup 92 (.map (some b)) (.int .u64 k) false).run Tryd.prog w = .ok (.bool (f k)) w := by
  obtain ⟨D, ho, ha⟩ := h
  obtain ⟨v, ps, hrun, hv⟩ := ho.lookup keyLaw Tryd.underlying92 (zero_bool w) (plainElem_bool Tryd.underlying4 false) (key_is hk)
  rw [hrun]
  obtain ⟨x, rfl, hs⟩ := plainElem_bool_inv Tryd.underlying4 hv
  have hs1 := congrArg Prod.fst hs
  simp only at hs1
  rw [ha k hk] at hs1
  simp only [DataW.lit.injEq, Lit.bool.injEq] at hs1
  rw [hs1]
theorem key_ne {i k : Int} (h : i ≠ k) : (Lit.int .u64 i) ≠ .int .u64 k := fun e => h (by simpa using e)
theorem MapS.store {w : World} {b n : Nat} {f : Int → Option ByteArray} (h : MapS w b n f) {k : Int} (hk : u64r k) (s : ByteArray) (hs : s.size ≤ maxLen) (hn : n < maxLen) :
    ∃ w', (Instr.mapUpdate 91 (.map (some b)) (.int .u64 k) (.string s)).run Tryd.prog w = .ok () w' ∧ MapS w' b (n + 1) (upd f k (some s)) ∧ w.mapTurned w' b := by
  obtain ⟨D, ho, hh, ha⟩ := h
  obtain ⟨w', hrun, ho', ht⟩ := ho.store keyLaw Tryd.underlying91 hn (key_is hk) (plainElem_string Tryd.underlying9 hs)
  refine ⟨w', hrun, ⟨_, ho', fun i hi => ?_, fun i t hi hf => ?_⟩, ht⟩
  · by_cases e : i = k
    · subst e; rw [has_put_same ho.isMap (litKey i), upd_at]; rfl
    · rw [has_put_other (key_ne e), upd_ne _ _ e]; exact hh i hi
  · by_cases e : i = k
    · subst e
      rw [upd_at] at hf
      cases hf
      exact atKey_put_same ho.isMap (litKey i) _ _
    · rw [upd_ne _ _ e] at hf
      rw [atKey_put_other (key_ne e)]
      exact ha i t hi hf
theorem MapB.store {w : World} {b n : Nat} {f : Int → Bool} (h : MapB w b n f) {k : Int} (hk : u64r k) (x : Bool) (hn : n < maxLen) :
    ∃ w', (Instr.mapUpdate 92 (.map (some b)) (.int .u64 k) (.bool x)).run Tryd.prog w = .ok () w' ∧ MapB w' b (n + 1) (upd f k x) ∧ w.mapTurned w' b := by
  obtain ⟨D, ho, ha⟩ := h
  obtain ⟨w', hrun, ho', ht⟩ := ho.store keyLaw Tryd.underlying92 hn (key_is hk) (plainElem_bool Tryd.underlying4 x)
  refine ⟨w', hrun, ⟨_, ho', fun i hi => ?_⟩, ht⟩
  by_cases e : i = k
  · subst e; rw [atKey_put_same ho.isMap (litKey i), upd_at]
  · rw [atKey_put_other (key_ne e), upd_ne _ _ e]; exact ha i hi
theorem MapS.drop {w : World} {b n : Nat} {f : Int → Option ByteArray} (h : MapS w b n f) {k : Int} (hk : u64r k) (ty : TypeId) :
    ∃ w', (Builtin.delete_ #[91, 22] ty #[.map (some b), .int .u64 k]).run Tryd.prog w = .ok (.tuple #[]) w' ∧ MapS w' b n (upd f k none) ∧ w.mapTurned w' b := by
  obtain ⟨D, ho, hh, ha⟩ := h
  obtain ⟨w', hrun, ho', ht⟩ := ho.drop keyLaw Tryd.underlying91 (key_is hk) ty
  refine ⟨w', hrun, ⟨_, ho', fun i hi => ?_, fun i t hi hf => ?_⟩, ht⟩
  · by_cases e : i = k
    · subst e; rw [has_del_same, upd_at]; rfl
    · rw [has_del_other (key_ne e), upd_ne _ _ e]; exact hh i hi
  · by_cases e : i = k
    · rw [e, upd_at] at hf; cases hf
    · rw [upd_ne _ _ e] at hf
      rw [atKey_del_other (key_ne e)]
      exact ha i t hi hf
theorem MapS.new (w : World) : MapS (w.alloc (.map #[] 0)) w.heap.size 0 (fun _ => none) := ⟨_, World.ownsMap_made _ _ _ _, fun k _ => rfl, fun k s _ h => by cases h⟩
theorem MapB.new (w : World) : MapB (w.alloc (.map #[] 0)) w.heap.size 0 (fun _ => false) := ⟨_, World.ownsMap_made _ _ _ _, fun k _ => rfl⟩
theorem MapS.of_block {w w' : World} {b n : Nat} {f : Int → Option ByteArray} (h : MapS w b n f) (hb : w'.heap[b]? = w.heap[b]?) : MapS w' b n f := by
  obtain ⟨D, ⟨es, clock, h1, h2⟩, hr⟩ := h
  exact ⟨D, ⟨es, clock, by rw [hb]; exact h1, h2⟩, hr⟩
theorem MapB.of_block {w w' : World} {b n : Nat} {f : Int → Bool} (h : MapB w b n f) (hb : w'.heap[b]? = w.heap[b]?) : MapB w' b n f := by
  obtain ⟨D, ⟨es, clock, h1, h2⟩, hr⟩ := h
  exact ⟨D, ⟨es, clock, by rw [hb]; exact h1, h2⟩, hr⟩
theorem MapS.lt {w : World} {b n : Nat} {f : Int → Option ByteArray} (h : MapS w b n f) : b < w.heap.size := by
  obtain ⟨D, ho, _⟩ := h
  exact ho.lt
theorem MapB.lt {w : World} {b n : Nat} {f : Int → Bool} (h : MapB w b n f) : b < w.heap.size := by
  obtain ⟨D, ho, _⟩ := h
  exact ho.lt
/-- but for the blocks in S, what was there is as it was -/
structure Only (S : List Nat) (w w' : World) : Prop where
  os : w'.os = w.os
  tape : w'.tape = w.tape
  output : w'.output = w.output
  size : w.heap.size ≤ w'.heap.size
  block : ∀ k, k < w.heap.size → k ∉ S → w'.heap[k]? = w.heap[k]?
theorem Only.refl (S : List Nat) (w : World) : Only S w w := ⟨rfl, rfl, rfl, Nat.le_refl _, fun _ _ _ => rfl⟩
theorem Only.trans {S : List Nat} {a b c : World} (h : Only S a b) (k : Only S b c) : Only S a c :=
  ⟨k.os.trans h.os, k.tape.trans h.tape, k.output.trans h.output, Nat.le_trans h.size k.size, fun i hi hs => (k.block i (Nat.lt_of_lt_of_le hi h.size) hs).trans (h.block i hi hs)⟩
theorem Only.mono {S T : List Nat} {a b : World} (h : Only S a b) (hs : ∀ x ∈ S, x ∈ T) : Only T a b := ⟨h.os, h.tape, h.output, h.size, fun i hi ht => h.block i hi (fun hm => ht (hs i hm))⟩
theorem Only.of_below {S : List Nat} {w w' : World} (h : Below w.heap.size w w') : Only S w w' := ⟨h.os, h.tape, h.output, h.size, fun k hk _ => h.block k hk⟩
theorem Only.below {S : List Nat} {w w' : World} {B : Nat} (h : Only S w w') (hs : ∀ x ∈ S, B ≤ x) (hB : B ≤ w.heap.size) : Below B w w' :=
  ⟨h.os, h.tape, h.output, h.size, fun k hk => h.block k (by omega) (fun hm => by have := hs k hm; omega)⟩
theorem Only.set_ {S : List Nat} {w w' : World} {g i : Nat} (h : Only S w w') (hg : g ∈ S) (u : Value) : Only S w (w'.setCell ⟨g, i, none⟩ u) :=
  ⟨h.os, h.tape, h.output, by simpa using h.size, fun k hk hs => by
    have hne : g ≠ k := fun e => hs (e ▸ hg)
    rw [← h.block k hk hs]
    simp [World.setCell, Array.getElem?_modify, hne]⟩
theorem Only.turned {S : List Nat} {w w' w2 : World} {b : Nat} (h : Only S w w') (ht : w'.mapTurned w2 b) (hb : b ∈ S) : Only S w w2 := by
  have hg := ht.grown
  exact ⟨hg.os.trans h.os, hg.tape.trans h.tape, hg.output.trans h.output, Nat.le_trans h.size hg.size, fun k hk hs => (hg.block k (Nat.lt_of_lt_of_le hk h.size) (fun e => hs (by cases e; exact hb))).trans (h.block k hk hs)⟩
theorem Only.alloc {S : List Nat} {w w' : World} (h : Only S w w') (o : Obj) : Only S w (w'.alloc o) := h.trans (Only.of_below (balloc (Below.refl _ w') o))
theorem Only.drew {S : List Nat} {w w' : World} (h : Only S w w') : Only S w w'.drew := ⟨h.os, h.tape, h.output, h.size, h.block⟩
theorem Blk.only {w w' : World} {S : List Nat} {g : Nat} {t : TypeId} {cs : Array Value} (h : Blk w g t cs) (ho : Only S w w') (hg : g ∉ S) : Blk w' g t cs := (ho.block g h.lt hg).trans h
end Go.Proofs.YtpekbnkmnellpaaDoor
