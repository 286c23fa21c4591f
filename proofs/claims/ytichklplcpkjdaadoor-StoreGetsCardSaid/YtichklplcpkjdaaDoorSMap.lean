/-
  What changes some blocks alone; maps keyed by places (32 bytes), of strings.
-/
import Derived.Test.YtichklplcpkjdaaDoorBytes
import Derived.Maps.Own
import Derived.Maps.OwnOps
import Derived.Maps.OwnSet
import Derived.Maps.StringElems
import Derived.DeepKeys4
namespace Go.Proofs.YtichklplcpkjdaaDoor
open Go.RowKit Go.Maps
set_option linter.unusedVariables false

theorem str_ext {s t : ByteArray} (h : s.data.toList = t.data.toList) : s = t := by
  apply ByteArray.ext
  exact Array.toList_inj.1 h
/-- but for the blocks in S, what was there is as it was -/
structure Only (S : List Nat) (w w' : World) : Prop where
  os : w'.os = w.os
  tape : w'.tape = w.tape
  output : w'.output = w.output
  size : w.heap.size ≤ w'.heap.size
  block : ∀ k, k < w.heap.size → k ∉ S → w'.heap[k]? = w.heap[k]?
theorem Only.refl (S : List Nat) (w : World) : Only S w w := ⟨rfl, rfl, rfl, Nat.le_refl _, fun _ _ _ => rfl⟩
theorem Only.trans {S : List Nat} {a b c : World} (h : Only S a b) (k : Only S b c) : Only S a c :=
  ⟨k.os.trans h.os, k.tape.trans h.tape, k.output.trans h.output, Nat.le_trans h.size k.size, fun i hi hs => (k.block i (Nat.lt_of_lt_of_le hi h.size) hs).trans (h.block i hi hs)⟩
theorem Only.mono {S T : List Nat} {a b : World} (h : Only S a b) (hs : ∀ x ∈ S, x ∈ T) : Only T a b := ⟨h.os, h.tape, h.output, h.size, fun i hi ht => h.block i hi (fun hm => ht (hs i hm))⟩
theorem Only.of_below {S : List Nat} {w w' : World} (h : Below w.heap.size w w') : Only S w w' := ⟨h.os, h.tape, h.output, h.size, fun k hk _ => h.block k hk⟩
theorem Only.below {S : List Nat} {w w' : World} {B : Nat} (h : Only S w w') (hs : ∀ x ∈ S, B ≤ x) (hB : B ≤ w.heap.size) : Below B w w' :=
  ⟨h.os, h.tape, h.output, h.size, fun k hk => h.block k (by omega) (fun hm => by have := hs k hm; omega)⟩
theorem Only.set_ {S : List Nat} {w w' : World} {g i : Nat} (h : Only S w w') (hg : g ∈ S) (u : Value) : Only S w (w'.setCell ⟨g, i, none⟩ u) :=
  ⟨h.os, h.tape, h.output, by simpa using h.size, fun k hk hs => by
    have hne : g ≠ k := fun e => hs (e ▸ hg)
    rw [← h.block k hk hs]
    simp [World.setCell, Array.getElem?_modify, hne]⟩
theorem Only.turned {S : List Nat} {w w' w2 : World} {b : Nat} (h : Only S w w') (ht : w'.mapTurned w2 b) (hb : b ∈ S) : Only S w w2 := by
  have hg := ht.grown
  exact ⟨hg.os.trans h.os, hg.tape.trans h.tape, hg.output.trans h.output, Nat.le_trans h.size hg.size, fun k hk hs => (hg.block k (Nat.lt_of_lt_of_le hk h.size) (fun e => hs (by cases e; exact hb))).trans (h.block k hk hs)⟩
theorem Only.alloc {S : List Nat} {w w' : World} (h : Only S w w') (o : Obj) : Only S w (w'.alloc o) := h.trans (Only.of_below (balloc (Below.refl _ w') o))
theorem Only.drew {S : List Nat} {w w' : World} (h : Only S w w') : Only S w w'.drew := ⟨h.os, h.tape, h.output, h.size, h.block⟩
theorem Blk.only {w w' : World} {S : List Nat} {g : Nat} {t : TypeId} {cs : Array Value} (h : Blk w g t cs) (ho : Only S w w') (hg : g ∉ S) : Blk w' g t cs := (ho.block g h.lt hg).trans h

/-! ### Places -/
abbrev pv (p : List UInt8) : Value := .agg (bC p).toArray
theorem bC_inj {p q : List UInt8} (h : bC p = bC q) : p = q := by
  unfold bC at h
  refine (List.map_inj_right ?_).1 h
  intro a b hab
  simp at hab
  exact UInt8.toNat_inj.1 (by omega)
theorem wf_byte (b : UInt8) : (Lit.int .u8 (b.toNat : Int)).wf = true := by
  have := b.toNat_lt
  exact WalkArith.wf_u8 ⟨by omega, by omega⟩
theorem key_byte (b : UInt8) : (Lit.int .u8 (b.toNat : Int)).keyBytes = [b] := by
  have := b.toNat_lt
  have e : ((b.toNat : Int) % 256).toNat = b.toNat := by omega
  simp [Lit.keyBytes, IntKind.bits, bytesBE, bytesLE, e]
theorem mapM_some {α β : Type} (f : α → Option β) (g : α → β) : ∀ (l : List α), (∀ x ∈ l, f x = some (g x)) → l.mapM f = some (l.map g)
  | [], _ => rfl
  | x :: l, h => by
    rw [List.mapM_cons, h x (by simp), mapM_some f g l fun y hy => h y (by simp [hy])]
    rfl
theorem map_single {α β : Type} (g : α → β) : ∀ l : List α, (l.map fun x => [g x]).flatten = l.map g
  | [] => rfl
  | x :: l => by simp [map_single g l]
theorem lits_place (d : Nat) (p : List UInt8) (hp : p.length = 32) : Tryd.prog.keyLits (d + 2) 74 (bC p) = some (p.map fun b => .int .u8 (b.toNat : Int)) := by
  have hc : Tryd.prog.cellsOf 74 = 32 := by kernel_rfl
  have hc8 : Tryd.prog.cellsOf 5 = 1 := by kernel_rfl
  unfold Program.keyLits
  rw [Tryd.underlying74]
  simp only [hc, hc8, bC_len, hp, if_true]
  rw [mapM_some _ (fun i => [.int .u8 ((p.getD i 0).toNat : Int)])]
  · simp only [Option.map_some, Option.some.injEq]
    rw [map_single]
    apply List.ext_getElem?
    intro i
    by_cases hi : i < 32
    · simp [hi, hp, List.getD_eq_getElem?_getD]
    · simp [hi, show ¬ i < p.length by omega]
  · intro i hi
    have hi' : i < p.length := by rw [hp]; simpa using hi
    have e : ((bC p).drop (i * 1)).take 1 = [.int .u8 (p[i].toNat : Int)] := by
      rw [Nat.mul_one, List.drop_eq_getElem_cons (by rw [bC_len]; exact hi')]
      simp [bC]
    rw [e]
    unfold Program.keyLits
    rw [Tryd.underlying5]
    simp [wf_byte, List.getD_eq_getElem?_getD, hi']
theorem key_bytes (p : List UInt8) : keyBytes (p.map fun b => Lit.int .u8 (b.toNat : Int)) = p := by
  unfold keyBytes
  induction p with
  | nil => rfl
  | cons b p ih => rw [List.map_cons, List.flatMap_cons, key_byte, ih]; rfl
theorem key_place (p : List UInt8) (hp : p.length = 32) : keyOf Tryd.prog 74 (pv p) = some (.string p) := by
  have hc : Tryd.prog.cellsOf 74 = 32 := by kernel_rfl
  have hk : Tryd.prog.keyType 74 = true := by kernel_rfl
  unfold keyOf
  rw [Tryd.underlying74]
  have hf : (pv p).formed Tryd.prog 74 = true := by
    unfold Value.formed
    simp [Tryd.underlying74, hc, bC_len, hp]
  obtain ⟨d, hd⟩ : ∃ d, Tryd.prog.types.size + 1 = d + 2 := ⟨Tryd.prog.types.size - 1, (by
    have : 1 ≤ Tryd.prog.types.size := of_decide_eq_true (by kernel_rfl)
    omega)⟩
  show (if (Tryd.prog.keyType 74 && (pv p).formed Tryd.prog 74) = true then _ else none) = _
  rw [hk, hf, Bool.and_self, if_pos rfl]
  rw [hd, show (pv p).cells.toList = bC p from by simp [Value.cells], lits_place d p hp]
  simp only [Option.map_some, key_bytes]
theorem keyLawP : Keyed Tryd.prog 74 := Keyed.of_law (deep_law (m := 2) (by omega) (by kernel_rfl) (by kernel_rfl) (by kernel_rfl))
theorem zero_strP (w : World) : (zeroValue 9).run Tryd.prog w = .ok (.string ByteArray.empty) w := by kernel_rfl
/-- a map: what stands at each place -/
abbrev PM := List UInt8 → Option ByteArray
/-- block b is a map of at most n entries that reads as f -/
def MapP (w : World) (b n : Nat) (f : PM) : Prop :=
  ∃ D : DataW Unit, w.ownsMap Tryd.prog 74 (plainElem Tryd.prog 9) b n D ∧ (∀ k, k.length = 32 → Maps.has D (.string k) = (f k).isSome) ∧ ∀ k s, k.length = 32 → f k = some s → D.atKey (.string k) (.lit (.string [])) = .lit (.string s.data.toList)
def updP (f : PM) (k : List UInt8) (v : Option ByteArray) : PM := fun i => if i = k then v else f i
theorem updP_at (f : PM) (k : List UInt8) (v : Option ByteArray) : updP f k v k = v := if_pos rfl
theorem updP_ne (f : PM) {k i : List UInt8} (v : Option ByteArray) (h : i ≠ k) : updP f k v i = f i := if_neg h
theorem litKeyP (k : List UInt8) : WideAt.IsKeyLit (.string k) := by trivial
theorem keyP_ne {i k : List UInt8} (h : i ≠ k) : (Lit.string i) ≠ .string k := fun e => h (by simpa using e)
theorem MapP.look_c {w : World} {b n : Nat} {f : PM} (h : MapP w b n f) {k : List UInt8} (hk : k.length = 32) (ok : Bool) :
    (Instr.lookup 70 (.map (some b)) (pv k) ok).run Tryd.prog w = .ok (if ok then .tuple #[.string ((f k).getD ByteArray.empty), .bool (f k).isSome] else .string ((f k).getD ByteArray.empty)) w := by
  obtain ⟨D, ho, hh, ha⟩ := h
  have key : ∀ v ps, plainElem (H := Unit) Tryd.prog 9 v = some (D.atKey (.string k) (.lit (.string ByteArray.empty.data.toList)), ps) → v = .string ((f k).getD ByteArray.empty) := by
    intro v ps hv
    obtain ⟨s, rfl, hs, _⟩ := plainElem_string_inv Tryd.underlying9 hv
    have hs1 := congrArg Prod.fst hs
    simp only at hs1
    cases hf : f k with
    | none =>
      have := atKey_of_not_has (D := D) (k := .string k) (by rw [hh k hk, hf]; rfl) (.lit (.string ByteArray.empty.data.toList))
      rw [this] at hs1
      simp only [DataW.lit.injEq, Lit.string.injEq] at hs1
      rw [str_ext hs1.symm]
      rfl
    | some t =>
      have := ha k t hk hf
      have e : (DataW.lit (Lit.string ByteArray.empty.data.toList) : DataW Unit) = .lit (.string []) := rfl
      rw [e, this] at hs1
      simp only [DataW.lit.injEq, Lit.string.injEq] at hs1
      rw [str_ext hs1.symm]
      rfl
  cases ok with
  | true =>
    obtain ⟨v, ps, hrun, hv⟩ := ho.look_ok keyLawP Tryd.underlying70 (zero_strP w) (plainElem_string Tryd.underlying9 (by unfold maxLen; decide)) (key_place k hk)
    rw [hrun, hh k hk, key v ps hv]
    rfl
  | false =>
    obtain ⟨v, ps, hrun, hv⟩ := ho.lookup keyLawP Tryd.underlying70 (zero_strP w) (plainElem_string Tryd.underlying9 (by unfold maxLen; decide)) (key_place k hk)
    rw [hrun, key v ps hv]
    rfl
theorem MapP.store {w : World} {b n : Nat} {f : PM} (h : MapP w b n f) {k : List UInt8} (hk : k.length = 32) (s : ByteArray) (hs : s.size ≤ maxLen) (hn : n < maxLen) :
    ∃ w', (Instr.mapUpdate 70 (.map (some b)) (pv k) (.string s)).run Tryd.prog w = .ok () w' ∧ MapP w' b (n + 1) (updP f k (some s)) ∧ w.mapTurned w' b := by
  obtain ⟨D, ho, hh, ha⟩ := h
  obtain ⟨w', hrun, ho', ht⟩ := ho.store keyLawP Tryd.underlying70 hn (key_place k hk) (plainElem_string Tryd.underlying9 hs)
  refine ⟨w', hrun, ⟨_, ho', fun i hi => ?_, fun i t hi hf => ?_⟩, ht⟩
  · by_cases e : i = k
    · subst e; rw [has_put_same ho.isMap (litKeyP i), updP_at]; rfl
    · rw [has_put_other (keyP_ne e), updP_ne _ _ e]; exact hh i hi
  · by_cases e : i = k
    · subst e
      rw [updP_at] at hf
      cases hf
      exact atKey_put_same ho.isMap (litKeyP i) _ _
    · rw [updP_ne _ _ e] at hf
      rw [atKey_put_other (keyP_ne e)]
      exact ha i t hi hf
theorem MapP.drop {w : World} {b n : Nat} {f : PM} (h : MapP w b n f) {k : List UInt8} (hk : k.length = 32) (ty : TypeId) :
    ∃ w', (Builtin.delete_ #[70, 74] ty #[.map (some b), pv k]).run Tryd.prog w = .ok (.tuple #[]) w' ∧ MapP w' b n (updP f k none) ∧ w.mapTurned w' b := by
  obtain ⟨D, ho, hh, ha⟩ := h
  obtain ⟨w', hrun, ho', ht⟩ := ho.drop keyLawP Tryd.underlying70 (key_place k hk) ty
  refine ⟨w', hrun, ⟨_, ho', fun i hi => ?_, fun i t hi hf => ?_⟩, ht⟩
  · by_cases e : i = k
    · subst e; rw [has_del_same, updP_at]; rfl
    · rw [has_del_other (keyP_ne e), updP_ne _ _ e]; exact hh i hi
  · by_cases e : i = k
    · rw [e, updP_at] at hf; cases hf
    · rw [updP_ne _ _ e] at hf
      rw [atKey_del_other (keyP_ne e)]
      exact ha i t hi hf
theorem MapP.new (w : World) : MapP (w.alloc (.map #[] 0)) w.heap.size 0 (fun _ => none) := ⟨_, World.ownsMap_made _ _ _ _, fun k _ => rfl, fun k s _ h => by cases h⟩
theorem MapP.of_block {w w' : World} {b n : Nat} {f : PM} (h : MapP w b n f) (hb : w'.heap[b]? = w.heap[b]?) : MapP w' b n f := by
  obtain ⟨D, ⟨es, clock, h1, h2⟩, hr⟩ := h
  exact ⟨D, ⟨es, clock, by rw [hb]; exact h1, h2⟩, hr⟩
theorem MapP.lt {w : World} {b n : Nat} {f : PM} (h : MapP w b n f) : b < w.heap.size := by
  obtain ⟨D, ho, _⟩ := h
  exact ho.lt
theorem MapP.mono {w : World} {b n m : Nat} {f : PM} (h : MapP w b n f) (hn : n ≤ m) : MapP w b m f := by
  obtain ⟨D, ho, hr⟩ := h
  exact ⟨D, ho.mono hn, hr⟩
end Go.Proofs.YtichklplcpkjdaaDoor
