/-
  Arguments opened: paths, slices of the store's acts.
-/
import Derived.Test.YtichklplcpkjdaaDoorStoJ
import Derived.Test.YtichklplcpkjdaaDoorRows
import Derived.ProofKit
import Derived.OpenShut
import Derived.SizedLaws
import Derived.Lib.SmallJoins
import Derived.Deep.Slices
import Derived.Deep.Strs
import Derived.Deep.Fields
import Derived.ChangeSame
namespace Go.Proofs.YtichklplcpkjdaaDoor
open Go.Joins Go.ChangeShapes Go.WideShapes Go.RowKit Go.Deep
set_option linter.unusedVariables false

def u64r (n : Int) : Prop := 0 ≤ n ∧ n ≤ 18446744073709551615
section
variable {H : Type} {P : Program}
/-- every text, slice and map in a datum is within the reach -/
def Light (P : Program) (t : TypeId) (d : DataW H) : Prop := ∀ n ∈ d.weights P t, n ≤ reachBytes
theorem light_arg {ts : List TypeId} {ds : List (DataW H)} (h : (DataW.weightsEach P ts ds).all (· ≤ reachBytes) = true) {j : Nat} {t : TypeId} {d : DataW H} (ht : ts[j]? = some t) (hd : ds[j]? = some d) : Light P t d := fun n hn => by
  have := List.all_eq_true.1 h n (DataW.weights_mem_each ht hd n hn)
  simpa using this
theorem Light.field {t : TypeId} {parts : List (DataW H)} {fs : Array Field} (h : Light P t (.agg parts)) (hu : P.underlying t = some (.struct fs)) (j : Nat) {f : Field} {d : DataW H} (hf : fs[j]? = some f) (hd : parts[j]? = some d) : Light P f.type d := fun n hn => h n (by
  simp only [DataW.weights, hu]
  exact DataW.weights_mem_each (j := j) (by simp [hf]) hd n hn)
theorem weights_mem_all {e : TypeId} : ∀ {l : List (DataW H)} {d : DataW H}, d ∈ l → ∀ n ∈ d.weights P e, n ∈ DataW.weightsAll P e l
  | x :: l, d, hd, n, hn => by
    simp only [DataW.weightsAll, List.mem_append]
    rcases List.mem_cons.1 hd with rfl | hd
    · exact Or.inl hn
    · exact Or.inr (weights_mem_all hd n hn)
theorem Light.elem {t e : TypeId} {elems spare : List (DataW H)} (h : Light P t (.slice elems spare)) (hu : P.underlying t = some (.slice e)) {d : DataW H} (hd : d ∈ elems) : Light P e d := fun n hn => h n (by
  simp only [DataW.weights, hu, List.mem_cons, List.mem_append]
  exact Or.inr (Or.inl (weights_mem_all hd n hn)))
theorem Light.str {t : TypeId} {s : ByteArray} (h : Light P t (.lit (.string s.data.toList) : DataW H)) : s.size ≤ 140737488351232 := by
  have := h s.data.toList.length (by simp [DataW.weights])
  rw [Array.length_toList] at this
  exact this
end
theorem u64_of {n : Int} (h : (Lit.int .u64 n).wf = true) : u64r n := by
  have := bounds_u64 h
  exact ⟨by omega, by omega⟩
def i64r (n : Int) : Prop := -9223372036854775808 ≤ n ∧ n ≤ 9223372036854775807
theorem i64_of {n : Int} (h : (Lit.int .i64 n).wf = true) : i64r n := by
  have := bounds_i64 h
  exact ⟨by omega, by omega⟩
section
variable {H : Type} {enc : TypeId × Value → H} {w : World} {base : Nat} {spare : Nat → Bool} {held : Bool} {n : Nat} {c : Value} {y : DataW H × List MemPlace}
theorem cell_u64 (h : DataW.trod enc Tryd.prog w base spare held n 23 [c] = some y) : ∃ a : Int, c = .int .u64 a ∧ u64r a := by
  obtain ⟨a, e1, _, wf⟩ := DataW.trod_int Tryd.underlying23 h
  exact ⟨a, by simpa using e1, u64_of wf⟩
theorem cell_int (h : DataW.trod enc Tryd.prog w base spare held n 3 [c] = some y) : ∃ a : Int, c = .int .i64 a ∧ i64r a := by
  obtain ⟨a, e1, _, wf⟩ := DataW.trod_int Tryd.underlying3 h
  exact ⟨a, by simpa using e1, i64_of wf⟩
theorem cell_bool (h : DataW.trod enc Tryd.prog w base spare held n 4 [c] = some y) : ∃ a : Bool, c = .bool a := by
  obtain ⟨a, e1, _⟩ := DataW.trod_bool Tryd.underlying4 h
  exact ⟨a, by simpa using e1⟩
theorem cell_str (h : DataW.trod enc Tryd.prog w base spare held n 9 [c] = some y) : ∃ a : ByteArray, c = .string a ∧ y.1 = .lit (.string a.data.toList) := by
  obtain ⟨a, e1, e2, _⟩ := DataW.trod_string Tryd.underlying9 h
  exact ⟨a, by simpa using e1, by rw [e2]⟩
end
theorem cell_block {W : World} {a : Addr} {v : Value} (h : W.cell? a = some v) : a.spot = none ∧ a.block < W.heap.size := by
  unfold World.cell? at h
  split at h
  · rename_i hb
    split at h
    · cases h
    · rename_i hs
      refine ⟨by simpa using hs, ?_⟩
      rcases Nat.lt_or_ge a.block W.heap.size with hl | hl
      · exact hl
      · rw [Array.getElem?_eq_none hl] at hb; cases hb
  · cases h
theorem addr_at {W : World} {a : Addr} {v0 : Value} (h0 : W.cell? (a.add 0) = some v0) : ∃ b off, a = ⟨b, off, none⟩ ∧ b < W.heap.size ∧ ∀ i, a.add i = ⟨b, off + i, none⟩ := by
  have e0 : a.add 0 = a := by unfold Addr.add; simp
  rw [e0] at h0
  obtain ⟨b, off, spot⟩ := a
  obtain ⟨h1, h2⟩ := cell_block h0
  simp only at h1 h2
  subst h1
  exact ⟨b, off, rfl, h2, fun i => Go.WideShapes.add_plain b off i⟩
theorem list_of {α : Type} {n : Nat} {R : Nat → α → Prop} (h : ∀ i, i < n → ∃ x, R i x) : ∃ l : List α, l.length = n ∧ ∀ i (hi : i < l.length), R i l[i] := by
  induction n with
  | zero => exact ⟨[], rfl, fun i hi => by simp at hi⟩
  | succ n ih =>
    obtain ⟨l, hl, hr⟩ := ih (fun i hi => h i (by omega))
    obtain ⟨x, hx⟩ := h n (by omega)
    refine ⟨l ++ [x], by simp [hl], fun i hi => ?_⟩
    by_cases e : i < l.length
    · rw [List.getElem_append_left e]; exact hr i e
    · have : i = l.length := by simp at hi; omega
      subst this
      simp only [List.getElem_concat_length, hl]
      exact hx
section
variable {H : Type} {enc : TypeId × Value → H} {w : World} {base : Nat} {spare : Nat → Bool} {held : Bool} {r : Reach} {b0 : Nat} {v : Value} {d : DataW H} {p : List MemPlace}
theorem cz_int : Tryd.prog.cellsOf 3 = 1 := by kernel_rfl
theorem cz_u64 : Tryd.prog.cellsOf 23 = 1 := by kernel_rfl
theorem cz_str : Tryd.prog.cellsOf 9 = 1 := by kernel_rfl
theorem cz_path : Tryd.prog.cellsOf 25 = 3 := by kernel_rfl
theorem cz_act : Tryd.prog.cellsOf 31 = 5 := by kernel_rfl
theorem path_cells {n : Nat} {c0 c1 c2 : Value} {y : DataW H × List MemPlace} (h : DataW.trod enc Tryd.prog w base spare held n 25 [c0, c1, c2] = some y) : ∃ q : RPa, c0 = .int .i64 q.c ∧ c1 = .int .u64 q.a ∧ c2 = .int .u64 q.b ∧ q.ok := by
  obtain ⟨y0, y1, y2, m, _, _, h0, h1, h2⟩ := trod_struct3 Tryd.underlying25 h
  simp only [cz_int, cz_u64] at h0 h1 h2
  obtain ⟨a, e0, w0⟩ := cell_int (c := c0) h0
  obtain ⟨b, e1, w1⟩ := cell_u64 (c := c1) h1
  obtain ⟨c, e2, w2⟩ := cell_u64 (c := c2) h2
  exact ⟨⟨a, b, c⟩, e0, e1, e2, w0.1, w0.2, w1.1, w1.2, w2.1, w2.2⟩
set_option maxRecDepth 100000 in
theorem open_path (hv : Value.okWide Tryd.prog w r b0 25 v) (h : DataW.Trod enc Tryd.prog w base spare held 25 v d p) (hl : Light Tryd.prog 25 d) : ∃ q : RPa, v = q.v ∧ q.ok := by
  obtain ⟨cs, rfl, hsz⟩ := okWide_struct Tryd.underlying25 hv
  obtain ⟨l⟩ := cs
  match l, hsz.trans cz_path with
  | [c0, c1, c2], _ =>
    obtain ⟨fuel, hf⟩ := h
    obtain ⟨q, rfl, rfl, rfl, hq⟩ := path_cells (y := (d, p)) hf
    exact ⟨q, rfl, hq⟩
set_option maxRecDepth 100000 in
theorem open_acts (hv : Value.okWide Tryd.prog w r b0 22 v) (h : DataW.Trod enc Tryd.prog w base spare held 22 v d p) (hl : Light Tryd.prog 22 d) : ∃ l, SActsAt w v l := by
  obtain ⟨a0, len, cap, rfl⟩ := okWide_slice Tryd.underlying22 hv
  obtain ⟨fuel, hf⟩ := h
  have hf' : DataW.trod enc Tryd.prog w base spare held fuel 22 [.slice a0 len cap] = some (d, p) := by simpa [Value.cells] using hf
  rcases Go.Deep.open_slice Tryd.underlying22 hf' with ⟨hcs, _⟩ | ⟨a, len', cap', m, n, D, Pl, hcs, hbase, hle, hm, hmm, hx, hel⟩
  · simp only [List.cons.injEq, Value.slice.injEq, and_true] at hcs
    obtain ⟨rfl, rfl, rfl⟩ := hcs
    exact ⟨[], none, 0, rfl, by simp, fun i hi => by simp at hi⟩
  · simp only [List.cons.injEq, Value.slice.injEq, and_true] at hcs
    obtain ⟨rfl, rfl, rfl⟩ := hcs
    simp only [Prod.mk.injEq] at hx
    obtain ⟨hx', _⟩ := hx
    subst hx'
    have hlm : len ≤ m := by rw [hmm]; split <;> omega
    unfold maxLen at hm
    rw [cz_act] at hel
    have key : ∀ i, i < len → ∃ x : SAct, (∃ b off, a = ⟨b, off, none⟩ ∧ b < w.heap.size ∧ w.cell? ⟨b, off + i * 5, none⟩ = some (.int .i64 x.what) ∧ w.cell? ⟨b, off + i * 5 + 1, none⟩ = some (.int .i64 x.c) ∧
        w.cell? ⟨b, off + i * 5 + 2, none⟩ = some (.int .u64 x.a) ∧ w.cell? ⟨b, off + i * 5 + 3, none⟩ = some (.int .u64 x.b) ∧ w.cell? ⟨b, off + i * 5 + 4, none⟩ = some (.string x.v)) ∧ x.ok := by
      intro i hi
      obtain ⟨cs0, hc0, _⟩ := hel 0 (by omega)
      obtain ⟨_, hl0, hat0⟩ := World.cells?_some hc0
      have hz0 := hat0 0 (by omega)
      rw [add_add, List.getElem?_eq_getElem (by omega)] at hz0
      obtain ⟨b, off, rfl, hb, hadd⟩ := addr_at (a := a) (by simpa using hz0)
      obtain ⟨cs', hc, ht'⟩ := hel i (by omega)
      obtain ⟨_, hcl, hat⟩ := World.cells?_some hc
      match cs', hcl, hat, ht' with
      | [x0, x1, x2, x3, x4], _, hat, ht' =>
        have k0 := hat 0 (by omega)
        have k1 := hat 1 (by omega)
        have k2 := hat 2 (by omega)
        have k3 := hat 3 (by omega)
        have k4 := hat 4 (by omega)
        rw [add_add, hadd] at k0 k1 k2 k3 k4
        obtain ⟨y0, y1, y2, n', hD, _, h0, h1, h2⟩ := trod_struct3 Tryd.underlying31 ht'
        simp only [cz_int, cz_path, cz_str] at h0 h1 h2
        obtain ⟨q0, rfl, r0⟩ := cell_int (c := x0) h0
        obtain ⟨q, rfl, rfl, rfl, rq⟩ := path_cells (c0 := x1) (c1 := x2) (c2 := x3) h1
        obtain ⟨q4, rfl, r4⟩ := cell_str (c := x4) h2
        have hli : Light Tryd.prog 31 (D i) := hl.elem Tryd.underlying22 (List.mem_map.2 ⟨i, by simpa using hi, rfl⟩)
        simp only [Prod.mk.injEq] at hD
        rw [hD.1] at hli
        have hli4 : Light Tryd.prog 9 y2.1 := hli.field Tryd.underlying31 2 rfl rfl
        rw [r4] at hli4
        exact ⟨⟨q0, q.c, q.a, q.b, q4⟩, ⟨b, off, rfl, hb, k0, by rw [Nat.add_assoc]; exact k1, by rw [Nat.add_assoc]; exact k2, by rw [Nat.add_assoc]; exact k3, by rw [Nat.add_assoc]; exact k4⟩, r0.1, r0.2, rq.c0, rq.c1, rq.a0, rq.a1, rq.b0, rq.b1, hli4.str⟩
    obtain ⟨l, hll, hr⟩ := list_of key
    refine ⟨l, some a, cap, by rw [hll], by omega, fun i hi => ?_⟩
    obtain ⟨⟨b, off, rfl, h1, h2, h3, h4, h5, h6⟩, h7⟩ := hr i hi
    exact ⟨b, off, rfl, h1, h2, h3, h4, h5, h6, h7⟩
end
end Go.Proofs.YtichklplcpkjdaaDoor
