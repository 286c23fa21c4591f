/-
  FlowCounts: its Send.
-/
import Derived.Test.YtpekbnkmnellpaaDoorCountsP
import Derived.Test.YtpekbnkmnellpaaDoorSendJ
namespace Go.Proofs.YtpekbnkmnellpaaDoor
open Go.RowKit Go.Maps
set_option linter.unusedVariables false

def actC (what which later : Int) (dt : ByteArray) : Array Value := #[.int .i64 what, .int .i64 which, .int .i64 later, .string dt]
theorem run_alloc {P : Program} {ρ : Operand → Value} {w w' : World} {dst : Option Tmp} {t : TypeId} {pos : String} {af : Array Edge} {g : Option (Nat × Bool)} {v : Value} {T : TypeId} (h : (Instr.alloc T true (.tuple #[])).run P w = .ok v w') : (execOp ρ ⟨dst, .alloc T, t, pos, af, g⟩).run P w = .ok (.value v) w' := by simp [execOp, h]
theorem map5 {f : Operand → Value} {x y z q r : Operand} {x1 x2 x3 x4 x5 : Value} (h : f x = x1) (h2 : f y = x2) (h3 : f z = x3) (h4 : f q = x4) (h5 : f r = x5) : #[x, y, z, q, r].map f = #[x1, x2, x3, x4, x5] := by simp [h, h2, h3, h4, h5]
theorem alloc_pk (W : World) : (Instr.alloc 24 true (.tuple #[])).run Tryd.prog W = .ok (.pointer (some ⟨W.heap.size, 0, none⟩)) (W.alloc (.cells pkZ 24)) := by
  unfold pkZ
  go_simp
theorem actF1 (X : Nat) (W : World) : (Instr.fieldAt 48 (.pointer (some ⟨X, 0, none⟩)) 1).run Tryd.prog W = .ok (.pointer (some ⟨X, 1, none⟩)) W := by go_simp
theorem actF2 (X : Nat) (W : World) : (Instr.fieldAt 48 (.pointer (some ⟨X, 0, none⟩)) 2).run Tryd.prog W = .ok (.pointer (some ⟨X, 2, none⟩)) W := by go_simp
theorem actF3 (X : Nat) (W : World) : (Instr.fieldAt 48 (.pointer (some ⟨X, 0, none⟩)) 3).run Tryd.prog W = .ok (.pointer (some ⟨X, 3, none⟩)) W := by go_simp
theorem load_int (g i : Nat) (W : World) (x : Int) (h : W.cell? ⟨g, i, none⟩ = some (.int .i64 x)) : (Instr.loadAt 3 (.pointer (some ⟨g, i, none⟩))).run Tryd.prog W = .ok (.int .i64 x) W := by go_simp
theorem load_str (g i : Nat) (W : World) (x : ByteArray) (h : W.cell? ⟨g, i, none⟩ = some (.string x)) : (Instr.loadAt 9 (.pointer (some ⟨g, i, none⟩))).run Tryd.prog W = .ok (.string x) W := by go_simp
theorem conv_u64 (x : Int) (h0 : 0 ≤ x) (h1 : x ≤ 9223372036854775807) (W : World) : (convert 3 22 (.int .i64 x)).run Tryd.prog W = .ok (.int .u64 x) W := by
  have : IntKind.u64.wrap x = x := by rw [IntKind.wrap_u64]; omega
  simp [go_sem, this]
theorem extr0 (a b : Value) (W : World) : (Instr.extract (.tuple #[a, b]) 0).run Tryd.prog W = .ok a W := by go_simp
theorem extr1 (a b : Value) (W : World) : (Instr.extract (.tuple #[a, b]) 1).run Tryd.prog W = .ok b W := by go_simp
/-- what the region's operations yield -/
def cntV (f X : Nat) (which later : Int) (dt : ByteArray) (a4 a9 : Int) (pv : Value) (code : Int) (i : Nat) (v : Value) : Prop := match i with
  | 0 => v = .pointer (some ⟨f, 0, none⟩)
  | 1 => v = .pointer (some ⟨X, 1, none⟩)
  | 2 => v = .int .i64 which
  | 3 => v = .int .i64 a4
  | 4 => v = .int .u64 a4
  | 5 => v = .pointer (some ⟨X, 3, none⟩)
  | 6 => v = .string dt
  | 7 => v = .pointer (some ⟨X, 2, none⟩)
  | 8 => v = .int .i64 later
  | 9 => v = .int .i64 a9
  | 10 => v = .int .u64 a9
  | 11 => v = .tuple #[pv, .int .i64 code]
  | 12 => v = .tuple #[pv, .int .i64 code]
  | 13 => v = pv
  | 14 => v = .int .i64 code
  | 17 => v = .int .i64 code
  | _ => True
/-- what FlowCounts keeps beside the flow -/
structure CE (base : Nat) (V1 V2 : Value) (ps : List Pk) (gn : List Bool) (X : Nat) (what which later : Int) (dt : ByteArray) (W : World) : Prop where
  rowp : RowP W base V1 ps
  rowb : RowB W base V2 gn
  x : Blk W X 48 (actC what which later dt)
theorem ce_stays {base : Nat} {V1 V2 : Value} {ps : List Pk} {gn : List Bool} {X : Nat} {what which later : Int} {dt : ByteArray} {B : FB} {N0 : Nat} (h1 : ∀ g, V1.ownBlock = some g → g ∉ B.l ∧ g < N0) (h2 : ∀ g, V2.ownBlock = some g → g ∉ B.l ∧ g < N0) (hX : X ∉ B.l ∧ X < N0) : Stays B N0 (CE base V1 V2 ps gn X what which later dt) := fun W W' S h ho hS => by
  have key : ∀ g, g ∉ B.l ∧ g < N0 → g ∉ S := fun g hg hm => by
    rcases hS g hm with h | h
    · exact hg.1 h
    · omega
  exact ⟨own_only h.rowp ho (fun g hg => key g (h1 g hg)), own_only h.rowb ho (fun g hg => key g (h2 g hg)), h.x.only ho (key X hX)⟩
theorem CI.static {w : World} {B : FB} {o : Bool} {V1 V2 : Value} {ps : List Pk} {gn : List Bool} {m : Nat} {W : World} (h : CI w B o V1 V2 ps gn m W) : (∀ g, V1.ownBlock = some g → g ∉ B.l ∧ g < W.heap.size) ∧ (∀ g, V2.ownBlock = some g → g ∉ B.l ∧ g < W.heap.size) ∧ ∀ x ∈ B.l, w.heap.size ≤ x ∧ x < W.heap.size := by
  refine ⟨fun g hg => ?_, fun g hg => ?_, fun x hx => ⟨h.bge x hx, h.flow.lt x hx⟩⟩
  · obtain ⟨cur, hc⟩ := own_type h.rowp hg
    exact ⟨h.flow.apart hc (by decide), hc.lt⟩
  · obtain ⟨cur, hc⟩ := own_type h.rowb hg
    exact ⟨h.flow.apart hc (by decide), hc.lt⟩
abbrev cntJ (w : World) (N0 : Nat) (B : FB) (m : Nat) (o : Bool) (ps : List Pk) (gn : List Bool) (V1 V2 : Value) (X : Nat) (what which later : Int) (dt : ByteArray) (a4 a9 : Int) : RJ :=
  SendJ w N0 B m (CS o ps gn) ((CS o ps gn).sendd a4 2 dt a9) ((CS o ps gn).pkt a4 2 dt a9) (CE w.heap.size V1 V2 ps gn X what which later dt) (cntV B.f X which later dt a4 a9 ((CS o ps gn).pkt a4 2 dt a9).v (sendCode dt)) 11 15 16
/-- what is left when a row has been appended to -/
theorem grown_flow {w w' : World} {B : FB} {n : Nat} {s : Fl} {v : Value} (F : FlowAt w B n s) (hg : w.grownBy w' v.ownBlock) (hv : ∀ g, v.ownBlock = some g → g ∉ B.l) : FlowAt w' B n s := F.kept (Only.of_grown hg) (fun x hx hm => by
  have : v.ownBlock = some x := by simpa using hm
  exact hv x this hx)
theorem grown_below {w0 w w' : World} {v : Value} (hb : Below w0.heap.size w0 w) (hg : w.grownBy w' v.ownBlock) (hv : ∀ g, v.ownBlock = some g → w0.heap.size ≤ g) : Below w0.heap.size w0 w' := hb.trans ((Only.of_grown hg).below (fun x hx => hv x (by simpa using hx)) hb.size)
theorem grown_glob {w w' : World} {v : Value} (G : Glob w) (hg : w.grownBy w' v.ownBlock) (hv : ∀ g, v.ownBlock = some g → 2 ≤ g) : Glob w' := G.only (Only.of_grown hg) (fun x hx => hv x (by simpa using hx))
theorem grown_row {w w' : World} {base e1 s1 n1 : Nat} {v1 v : Value} {xs1 : List Value} {base2 e2 s2 n2 : Nat} {xs2 : List Value} (h : w.ownsRow base e1 s1 v1 n1 xs1) (h2 : w.ownsRow base2 e2 s2 v n2 xs2) (hne : e1 ≠ e2) (hg : w.grownBy w' v.ownBlock) : w'.ownsRow base e1 s1 v1 n1 xs1 := own_only h (Only.of_grown hg) (fun g hgg hm => by
  have hm' : v.ownBlock = some g := by simpa using hm
  obtain ⟨cur, hc⟩ := own_type h hgg
  obtain ⟨cur2, hc2⟩ := own_type h2 hm'
  unfold Blk at hc hc2
  rw [hc2] at hc
  simp at hc
  exact hne hc.2.symm)
theorem push_p {w' : World} {base : Nat} {v : Value} {ps : List Pk} {p : Pk} (h : w'.ownsRow base 24 5 v (ps.length + 1) (pC ps ++ pkC p)) : RowP w' base v (ps ++ [p]) := by
  unfold RowP
  rw [List.length_append, List.length_singleton, pC_app]
  simpa [pC] using h
theorem push_b {w' : World} {base : Nat} {v : Value} {bs : List Bool} {b : Bool} (h : w'.ownsRow base 4 1 v (bs.length + 1) (bsC bs ++ [.bool b])) : RowB w' base v (bs ++ [b]) := by
  unfold RowB
  rw [List.length_append, List.length_singleton]
  simpa [bsC] using h
/-- in a round: the flow is ahead of the row of bools -/
structure CJ (w : World) (B : FB) (o : Bool) (V1 V2 : Value) (ps : List Pk) (gf gb : List Bool) (m : Nat) (W : World) : Prop where
  flow : FlowAt W B m (CS o ps gf)
  rowp : RowP W w.heap.size V1 ps
  rowb : RowB W w.heap.size V2 gb
  bel : Below w.heap.size w W
  glob : Glob W
  bge : ∀ x ∈ B.l, w.heap.size ≤ x
  two : 2 ≤ w.heap.size
section
variable {w : World} {B : FB} {o : Bool} {V1 V2 : Value} {ps : List Pk} {gf gf' gb : List Bool} {m m' : Nat} {W W' : World}
theorem CI.cj {gn : List Bool} (h : CI w B o V1 V2 ps gn m W) : CJ w B o V1 V2 ps gn gn m W := ⟨h.flow, h.rowp, h.rowb, h.bel, h.glob, h.bge, h.two⟩
theorem CJ.ci (h : CJ w B o V1 V2 ps gf gf m W) : CI w B o V1 V2 ps gf m W := ⟨h.flow, h.rowp, h.rowb, h.bel, h.glob, h.bge, h.two⟩
theorem CJ.below (h : CJ w B o V1 V2 ps gf gb m W) (hb : Below W.heap.size W W') : CJ w B o V1 V2 ps gf gb m W' := ⟨h.flow.below hb, own_bel h.rowp hb, own_bel h.rowb hb, bstep h.bel hb, h.glob.below hb h.glob.two, h.bge, h.two⟩
theorem CJ.only (h : CJ w B o V1 V2 ps gf gb m W) (hf : FlowAt W' B m' (CS o ps gf')) (ho : Only B.l W W') : CJ w B o V1 V2 ps gf' gb m' W' := by
  refine ⟨hf, own_only h.rowp ho (fun g hg => ?_), own_only h.rowb ho (fun g hg => ?_), h.bel.trans (ho.below h.bge h.bel.size), h.glob.only ho (fun x hx => Nat.le_trans h.two (h.bge x hx)), h.bge, h.two⟩
  · obtain ⟨cur, hc⟩ := own_type h.rowp hg
    exact h.flow.apart hc (by decide)
  · obtain ⟨cur, hc⟩ := own_type h.rowb hg
    exact h.flow.apart hc (by decide)
theorem CJ.set_ (h : CJ w B o V1 V2 ps gf gb m W) {g : Nat} (hg : V2.ownBlock = some g) (k : Nat) (hk : k < gb.length) : CJ w B o V1 V2 ps gf (gb.set k true) m (W.setCell ⟨g, k, none⟩ (.bool true)) := by
  have ho : Only [g] W (W.setCell ⟨g, k, none⟩ (.bool true)) := (Only.refl [g] W).set_ (by simp) _
  obtain ⟨cur, hc⟩ := own_type h.rowb hg
  have hge : w.heap.size ≤ g := own_ge h.rowb hg
  refine ⟨h.flow.kept ho (fun x hx hm => ?_), own_only h.rowp ho (fun g' hg' hm => ?_), h.rowb.set_ hg k hk true, h.bel.trans (ho.below (by simp; exact hge) h.bel.size), h.glob.only ho (fun x hx => ?_), h.bge, h.two⟩
  · simp at hm
    subst hm
    exact h.flow.apart hc (by decide) hx
  · simp at hm
    subst hm
    obtain ⟨cur2, hc2⟩ := own_type h.rowp hg'
    unfold Blk at hc hc2
    rw [hc2] at hc
    simp at hc
  · simp at hx
    have := h.two
    omega
theorem CJ.p_at (h : CJ w B o V1 V2 ps gf gb m W) (k : Nat) (hk : k < ps.length) {ao : Option Addr} {n cap : Nat} (hv : V1 = .slice ao n cap) : ∃ g, ao = some ⟨g, 0, none⟩ ∧ W.cell? ⟨g, k * 5, none⟩ = some (.int .u64 ps[k].seq) ∧ W.cell? ⟨g, k * 5 + 1, none⟩ = some (.int .u64 ps[k].src) ∧ W.cell? ⟨g, k * 5 + 2, none⟩ = some (.int .u64 ps[k].dst) ∧ W.cell? ⟨g, k * 5 + 3, none⟩ = some (.string ps[k].data) ∧ W.cell? ⟨g, k * 5 + 4, none⟩ = some (.int .u64 ps[k].timeout) := by
  obtain ⟨ao', cap', hv', hf⟩ := h.rowp.at_
  rw [hv] at hv'
  cases hv'
  obtain ⟨g, cur, h1, h2, h3, h4⟩ := hf (by omega)
  exact ⟨g, h1, h4 k hk⟩
theorem CJ.b_at (h : CJ w B o V1 V2 ps gf gb m W) (k : Nat) (hk : k < gb.length) {ao : Option Addr} {n cap : Nat} (hv : V2 = .slice ao n cap) : ∃ g, ao = some ⟨g, 0, none⟩ ∧ V2.ownBlock = some g ∧ W.cell? ⟨g, k, none⟩ = some (.bool gb[k]) ∧ W.frozen? ⟨g, k, none⟩ = false := by
  obtain ⟨ao', cap', hv', hf⟩ := h.rowb.at_
  rw [hv] at hv'
  cases hv'
  obtain ⟨g, cur, h1, h2, h3, h4⟩ := hf (by omega)
  exact ⟨g, h1, h2 ▸ by rw [hv], h4 k hk, h3.frozen k⟩
end
end Go.Proofs.YtpekbnkmnellpaaDoor
