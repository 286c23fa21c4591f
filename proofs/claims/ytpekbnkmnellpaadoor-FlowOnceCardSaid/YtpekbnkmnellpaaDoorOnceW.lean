/-
  FlowOnce: what lies in memory.
-/
import Derived.Test.YtpekbnkmnellpaaDoorOnceP
namespace Go.Proofs.YtpekbnkmnellpaaDoor
open Go.RowKit Go.Maps
set_option linter.unusedVariables false

theorem flat_set {α β : Type} (f : α → List β) (s : Nat) (hf : ∀ x, (f x).length = s) (v : β) (x' : α) : ∀ (l : List α) (k j : Nat) (h : k < l.length), j < s → f x' = (f l[k]).set j v → (l.flatMap f).set (k * s + j) v = (l.set k x').flatMap f
  | [], k, j, h, _, _ => by simp at h
  | x :: l, 0, j, h, hj, he => by
    have he' : f x' = (f x).set j v := he
    rw [List.flatMap_cons, Nat.zero_mul, Nat.zero_add, List.set_append_left _ _ (by rw [hf]; exact hj), ← he', List.set_cons_zero, List.flatMap_cons]
  | x :: l, k + 1, j, h, hj, he => by
    have ih := flat_set f s hf v x' l k j (by simpa using h) hj he
    rw [List.flatMap_cons, List.set_append_right _ _ (by rw [hf, Nat.add_mul]; omega), hf, show (k + 1) * s + j - s = k * s + j by rw [Nat.add_mul]; omega, ih, List.set_cons_succ, List.flatMap_cons]
theorem wcode_vals (s : Fl) (k : Int) : s.wCode k = 0 ∨ s.wCode k = 184 ∨ s.wCode k = 185 := by
  unfold Fl.wCode
  cases s.came k <;> cases (s.written k).isSome <;> simp
def ftC (f : Ft) : List Value := [.int .u64 f.p.seq, .int .u64 f.p.src, .int .u64 f.p.dst, .string f.p.data, .int .u64 f.p.timeout, .int .i64 f.came, .int .i64 f.acked, .int .i64 f.timed, .bool f.missed]
def fsC (fs : List Ft) : List Value := fs.flatMap ftC
def RowF (w : World) (base : Nat) (v : Value) (fs : List Ft) : Prop := w.ownsRow base 69 9 v fs.length (fsC fs)
def RowS (w : World) (base : Nat) (v : Value) (ss : List ByteArray) : Prop := w.ownsRow base 9 1 v ss.length (ss.map .string)
theorem RowF.at_ {w : World} {base : Nat} {v : Value} {fs : List Ft} (h : RowF w base v fs) : ∃ ao cap, v = .slice ao fs.length cap ∧ (0 < fs.length → ∃ g cur, ao = some ⟨g, 0, none⟩ ∧ v.ownBlock = some g ∧ Blk w g 69 cur ∧
    ∀ k (hk : k < fs.length) j u, (ftC fs[k])[j]? = some u → w.cell? ⟨g, k * 9 + j, none⟩ = some u) := by
  obtain ⟨ao, cap, hv, hf⟩ := own_form h
  refine ⟨ao, cap, hv, fun hn => ?_⟩
  obtain ⟨g, cur, h1, h2, h3, h4⟩ := hf hn
  refine ⟨g, cur, h1, h2, h3, fun k hk j u hu => h4 _ _ ?_⟩
  have hj : j < 9 := by
    have := (List.getElem?_eq_some_iff.1 hu).1
    simpa [ftC] using this
  exact (flat_get ftC 9 (fun _ => rfl) fs k j hk hj).trans hu
theorem RowS.at_ {w : World} {base : Nat} {v : Value} {ss : List ByteArray} (h : RowS w base v ss) : ∃ ao cap, v = .slice ao ss.length cap := by
  obtain ⟨ao, cap, hv, _⟩ := own_form h
  exact ⟨ao, cap, hv⟩
theorem RowF.set_ {w : World} {base : Nat} {v : Value} {fs : List Ft} (h : RowF w base v fs) {g : Nat} (hg : v.ownBlock = some g) (k : Nat) (hk : k < fs.length) (j : Nat) (hj : j < 9) (u : Value) (f' : Ft) (he : ftC f' = (ftC fs[k]).set j u) : RowF (w.setCell ⟨g, k * 9 + j, none⟩ u) base v (fs.set k f') := by
  have := own_set h hg (k * 9 + j) (by omega) u
  unfold RowF
  rw [List.length_set]
  have e : fsC (fs.set k f') = (fsC fs).set (k * 9 + j) u := (flat_set ftC 9 (fun _ => rfl) u f' fs k j hk hj he).symm
  rw [e]
  exact this
theorem info_ft : (Tryd.prog.info? 69).map (fun i => (i.zero, i.size, i.bytes)) = some (some (.agg #[.int .u64 0, .int .u64 0, .int .u64 0, .string ⟨#[]⟩, .int .u64 0, .int .i64 0, .int .i64 0, .int .i64 0, .bool false]), 9, 80) := by kernel_rfl
theorem info_str : (Tryd.prog.info? 9).map (fun i => (i.zero, i.size, i.bytes)) = some (some (.string ⟨#[]⟩), 1, 16) := by kernel_rfl
theorem push_f {w' : World} {base : Nat} {v : Value} {fs : List Ft} {f : Ft} (h : w'.ownsRow base 69 9 v (fs.length + 1) (fsC fs ++ ftC f)) : RowF w' base v (fs ++ [f]) := by
  unfold RowF
  rw [List.length_append, List.length_singleton]
  have e : fsC (fs ++ [f]) = fsC fs ++ ftC f := by unfold fsC; rw [List.flatMap_append]; simp
  rw [e]
  exact h
theorem push_s {w' : World} {base : Nat} {v : Value} {ss : List ByteArray} {x : ByteArray} (h : w'.ownsRow base 9 1 v (ss.length + 1) (ss.map .string ++ [.string x])) : RowS w' base v (ss ++ [x]) := by
  unfold RowS
  rw [List.length_append, List.length_singleton, List.map_append]
  exact h
structure OW (w : World) (A B : FB) (V8 V9 : Value) (fs : List Ft) (ss : List ByteArray) (a b : Fl) (m n : Nat) (W : World) : Prop where
  fa : FlowAt W A m a
  fb : FlowAt W B n b
  rowf : RowF W w.heap.size V8 fs
  rows : RowS W w.heap.size V9 ss
  bel : Below w.heap.size w W
  glob : Glob W
  age : ∀ x ∈ A.l, w.heap.size ≤ x
  bge : ∀ x ∈ B.l, w.heap.size ≤ x
  ap : ∀ x ∈ A.l, x ∉ B.l
  two : 2 ≤ w.heap.size
section
variable {w : World} {A B : FB} {V8 V9 : Value} {fs : List Ft} {ss : List ByteArray} {a b a' b' : Fl} {m n m' n' : Nat} {W W' : World}
theorem OW.below (h : OW w A B V8 V9 fs ss a b m n W) (hb : Below W.heap.size W W') : OW w A B V8 V9 fs ss a b m n W' := ⟨h.fa.below hb, h.fb.below hb, own_bel h.rowf hb, own_bel h.rows hb, bstep h.bel hb, h.glob.below hb h.glob.two, h.age, h.bge, h.ap, h.two⟩
theorem OW.f_apart (h : OW w A B V8 V9 fs ss a b m n W) {g : Nat} (hg : V8.ownBlock = some g) : g ∉ A.l ∧ g ∉ B.l := by
  obtain ⟨cur, hc⟩ := own_type h.rowf hg
  exact ⟨h.fa.apart hc (by decide), h.fb.apart hc (by decide)⟩
theorem OW.s_apart (h : OW w A B V8 V9 fs ss a b m n W) {g : Nat} (hg : V9.ownBlock = some g) : g ∉ A.l ∧ g ∉ B.l := by
  obtain ⟨cur, hc⟩ := own_type h.rows hg
  exact ⟨h.fa.apart hc (by decide), h.fb.apart hc (by decide)⟩
theorem OW.onlyA (h : OW w A B V8 V9 fs ss a b m n W) (hf : FlowAt W' A m' a') (ho : Only A.l W W') : OW w A B V8 V9 fs ss a' b m' n W' :=
  ⟨hf, h.fb.kept ho (fun x hx hm => h.ap x hm hx), own_only h.rowf ho (fun g hg => (h.f_apart hg).1), own_only h.rows ho (fun g hg => (h.s_apart hg).1), h.bel.trans (ho.below h.age h.bel.size), h.glob.only ho (fun x hx => Nat.le_trans h.two (h.age x hx)), h.age, h.bge, h.ap, h.two⟩
theorem OW.onlyB (h : OW w A B V8 V9 fs ss a b m n W) (hf : FlowAt W' B n' b') (ho : Only B.l W W') : OW w A B V8 V9 fs ss a b' m n' W' :=
  ⟨h.fa.kept ho (fun x hx hm => h.ap x hx hm), hf, own_only h.rowf ho (fun g hg => (h.f_apart hg).2), own_only h.rows ho (fun g hg => (h.s_apart hg).2), h.bel.trans (ho.below h.bge h.bel.size), h.glob.only ho (fun x hx => Nat.le_trans h.two (h.bge x hx)), h.age, h.bge, h.ap, h.two⟩
theorem OW.set_ (h : OW w A B V8 V9 fs ss a b m n W) {g : Nat} (hg : V8.ownBlock = some g) (k : Nat) (hk : k < fs.length) (j : Nat) (hj : j < 9) (u : Value) (f' : Ft) (he : ftC f' = (ftC fs[k]).set j u) : OW w A B V8 V9 (fs.set k f') ss a b m n (W.setCell ⟨g, k * 9 + j, none⟩ u) := by
  have ho : Only [g] W (W.setCell ⟨g, k * 9 + j, none⟩ u) := (Only.refl [g] W).set_ (by simp) _
  have hge : w.heap.size ≤ g := own_ge h.rowf hg
  have hap := h.f_apart hg
  obtain ⟨cur, hc⟩ := own_type h.rowf hg
  refine ⟨h.fa.kept ho (fun x hx hm => ?_), h.fb.kept ho (fun x hx hm => ?_), h.rowf.set_ hg k hk j hj u f' he, own_only h.rows ho (fun g' hg' hm => ?_), h.bel.trans (ho.below (by simp; exact hge) h.bel.size), h.glob.only ho (fun x hx => ?_), h.age, h.bge, h.ap, h.two⟩
  · simp at hm; subst hm; exact hap.1 hx
  · simp at hm; subst hm; exact hap.2 hx
  · simp at hm
    exact own_apart h.rows hc (by decide) g' hg' hm
  · simp at hx
    have := h.two
    omega
/-- the row of fates has grown -/
theorem OW.growF {V8' : Value} {fs' : List Ft} (h : OW w A B V8 V9 fs ss a b m n W) (hg : W.grownBy W' V8.ownBlock) (hr : RowF W' w.heap.size V8' fs') : OW w A B V8' V9 fs' ss a b m n W' :=
  ⟨grown_flow h.fa hg (fun g hgg => (h.f_apart hgg).1), grown_flow h.fb hg (fun g hgg => (h.f_apart hgg).2), hr, grown_row h.rows h.rowf (by decide) hg, grown_below h.bel hg (fun g hgg => own_ge h.rowf hgg), grown_glob h.glob hg (fun g hgg => Nat.le_trans h.two (own_ge h.rowf hgg)), h.age, h.bge, h.ap, h.two⟩
theorem OW.growS {V9' : Value} {ss' : List ByteArray} (h : OW w A B V8 V9 fs ss a b m n W) (hg : W.grownBy W' V9.ownBlock) (hr : RowS W' w.heap.size V9' ss') : OW w A B V8 V9' fs ss' a b m n W' :=
  ⟨grown_flow h.fa hg (fun g hgg => (h.s_apart hgg).1), grown_flow h.fb hg (fun g hgg => (h.s_apart hgg).2), grown_row h.rowf h.rows (by decide) hg, hr, grown_below h.bel hg (fun g hgg => own_ge h.rows hgg), grown_glob h.glob hg (fun g hgg => Nat.le_trans h.two (own_ge h.rows hgg)), h.age, h.bge, h.ap, h.two⟩
theorem OW.f_at (h : OW w A B V8 V9 fs ss a b m n W) (k : Nat) (hk : k < fs.length) {ao : Option Addr} {nn cap : Nat} (hv : V8 = .slice ao nn cap) : ∃ g, ao = some ⟨g, 0, none⟩ ∧ V8.ownBlock = some g ∧ (∀ j u, (ftC fs[k])[j]? = some u → W.cell? ⟨g, k * 9 + j, none⟩ = some u) ∧ ∀ i, W.frozen? ⟨g, i, none⟩ = false := by
  obtain ⟨ao', cap', hv', hf⟩ := h.rowf.at_
  rw [hv] at hv'
  cases hv'
  obtain ⟨g, cur, h1, h2, h3, h4⟩ := hf (by omega)
  exact ⟨g, h1, h2 ▸ by rw [hv], h4 k hk, h3.frozen⟩
/-- a block of another type stays, whatever is set in the row of fates or appended -/
theorem OW.blk_set (h : OW w A B V8 V9 fs ss a b m n W) {g X : Nat} (hg : V8.ownBlock = some g) {t : TypeId} {cs : Array Value} (hX : Blk W X t cs) (ht : t ≠ 69) (i : Nat) (u : Value) : Blk (W.setCell ⟨g, i, none⟩ u) X t cs := hX.other g i u (own_apart h.rowf hX ht g hg)
end
end Go.Proofs.YtpekbnkmnellpaaDoor
