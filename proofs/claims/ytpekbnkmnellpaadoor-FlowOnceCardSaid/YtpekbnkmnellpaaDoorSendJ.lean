/-
  'p, e := f.Send(..)' in a region that draws its order: the invariant, and its three steps that are no mere values.
-/
import Derived.Test.YtpekbnkmnellpaaDoorRegJ
import Derived.Test.YtpekbnkmnellpaaDoorFlowB
import Derived.Test.YtpekbnkmnellpaaDoorAwakeW
namespace Go.Proofs.YtpekbnkmnellpaaDoor
open Go.RowKit Go.Maps
set_option linter.unusedVariables false

def pkZ : Array Value := #[.int .u64 0, .int .u64 0, .int .u64 0, .string ⟨#[]⟩, .int .u64 0]
/-- what stays whatever a flow and new blocks do -/
def Stays (B : FB) (N0 : Nat) (E : World → Prop) : Prop := ∀ W W' S, E W → Only S W W' → (∀ x ∈ S, x ∈ B.l ∨ N0 ≤ x) → E W'
structure SendJ (w : World) (N0 : Nat) (B : FB) (m : Nat) (s s' : Fl) (p : Pk) (E : World → Prop) (V : Nat → Value → Prop) (kS kA kW : Nat) (d : Nat → Bool) (u : Nat → Value) (W : World) : Prop where
  vals : ∀ i, d i = true → i ≠ kA → V i (u i)
  f0 : d kS = false → FlowAt W B m s
  f1 : d kS = true → FlowAt W B (m + 1) s'
  bel : Below w.heap.size w W
  glob : Glob W
  size : N0 ≤ W.heap.size
  e : E W
  al : d kA = true → ∃ g, u kA = .pointer (some ⟨g, 0, none⟩) ∧ N0 ≤ g ∧ Blk W g 24 (if d kW then p.cs else pkZ)
  wk : d kW = true → d kA = true
section
variable {w : World} {N0 : Nat} {B : FB} {m : Nat} {s s' : Fl} {p : Pk} {E : World → Prop} {V : Nat → Value → Prop} {kS kA kW : Nat} {d : Nat → Bool} {u : Nat → Value} {W W' : World}
theorem SendJ.pure (h : SendJ w N0 B m s s' p E V kS kA kW d u W) (i : Nat) {v : Value} (hS : i ≠ kS) (hA : i ≠ kA) (hW : i ≠ kW) (hv : V i v) : SendJ w N0 B m s s' p E V kS kA kW (did d i) (put1 u i v) W := by
  refine ⟨fun j hj hjA => ?_, fun hj => h.f0 (by rwa [did_ne d (Ne.symm hS)] at hj), fun hj => h.f1 (by rwa [did_ne d (Ne.symm hS)] at hj), h.bel, h.glob, h.size, h.e, fun hj => ?_, fun hj => ?_⟩
  · by_cases e : j = i
    · subst e; rw [put1_at]; exact hv
    · rw [put1_ne u v e]; exact h.vals j (by rwa [did_ne d e] at hj) hjA
  · rw [did_ne d (Ne.symm hA)] at hj
    rw [put1_ne u v (Ne.symm hA), did_ne d (Ne.symm hW)]
    exact h.al hj
  · rw [did_ne d (Ne.symm hW)] at hj
    rw [did_ne d (Ne.symm hA)]
    exact h.wk hj
/-- the world has grown, or only what is new has changed -/
theorem SendJ.far (hB : ∀ x ∈ B.l, w.heap.size ≤ x ∧ x < N0) (hE : Stays B N0 E) (h2 : 2 ≤ w.heap.size) (hN : w.heap.size ≤ N0) (hb : Below w.heap.size w W) (hG : Glob W) (he : E W) {S : List Nat} (ho : Only S W W') (hS : ∀ x ∈ S, x ∈ B.l ∨ N0 ≤ x) : Below w.heap.size w W' ∧ Glob W' ∧ E W' := by
  have hge : ∀ x ∈ S, w.heap.size ≤ x := fun x hx => by
    rcases hS x hx with h | h
    · exact (hB x h).1
    · omega
  exact ⟨hb.trans (ho.below hge hb.size), hG.only ho (fun x hx => by have := hge x hx; omega), hE W W' S he ho hS⟩
theorem SendJ.send (hB : ∀ x ∈ B.l, w.heap.size ≤ x ∧ x < N0) (hE : Stays B N0 E) (h2 : 2 ≤ w.heap.size) (hN : w.heap.size ≤ N0) (hSA : kS ≠ kA) (hSW : kS ≠ kW) (h : SendJ w N0 B m s s' p E V kS kA kW d u W) {v : Value} (hv : V kS v) (hf : FlowAt W' B (m + 1) s') (ho : Only B.l W W') :
    SendJ w N0 B m s s' p E V kS kA kW (did d kS) (put1 u kS v) W' := by
  obtain ⟨i1, i2, i3⟩ := SendJ.far hB hE h2 hN h.bel h.glob h.e ho (fun x hx => .inl hx)
  refine ⟨fun j hj hjA => ?_, fun hj => (by rw [did_at] at hj; cases hj), fun _ => hf, i1, i2, Nat.le_trans h.size ho.size, i3, fun hj => ?_, fun hj => ?_⟩
  · by_cases e : j = kS
    · subst e; rw [put1_at]; exact hv
    · rw [put1_ne u v e]; exact h.vals j (by rwa [did_ne d e] at hj) hjA
  · rw [did_ne d (Ne.symm hSA)] at hj
    obtain ⟨g, h1, h2, h3⟩ := h.al hj
    rw [put1_ne u v (Ne.symm hSA), did_ne d (Ne.symm hSW)]
    exact ⟨g, h1, h2, h3.only ho (fun hm => by have := hB g hm; omega)⟩
  · rw [did_ne d (Ne.symm hSW)] at hj
    rw [did_ne d (Ne.symm hSA)]
    exact h.wk hj
theorem SendJ.alloc (hB : ∀ x ∈ B.l, w.heap.size ≤ x ∧ x < N0) (hE : Stays B N0 E) (h2 : 2 ≤ w.heap.size) (hN : w.heap.size ≤ N0) (hSA : kS ≠ kA) (hAW : kA ≠ kW) (h : SendJ w N0 B m s s' p E V kS kA kW d u W) (hd : d kA = false) :
    SendJ w N0 B m s s' p E V kS kA kW (did d kA) (put1 u kA (.pointer (some ⟨W.heap.size, 0, none⟩))) (W.alloc (.cells pkZ 24)) := by
  have hb := balloc (Below.refl _ W) (.cells pkZ 24)
  obtain ⟨i1, i2, i3⟩ := SendJ.far hB hE h2 hN h.bel h.glob h.e (Only.of_below (S := []) hb) (by simp)
  have hk : d kW = false := by
    cases hk : d kW with
    | false => rfl
    | true => have := h.wk hk; rw [hd] at this; cases this
  refine ⟨fun j hj hjA => ?_, fun hj => (h.f0 (by rwa [did_ne d hSA] at hj)).below hb, fun hj => (h.f1 (by rwa [did_ne d hSA] at hj)).below hb, i1, i2, Nat.le_trans h.size hb.size, i3, fun _ => ?_, fun hj => ?_⟩
  · rw [put1_ne u _ hjA]; exact h.vals j (by rwa [did_ne d hjA] at hj) hjA
  · rw [put1_at, did_ne d (Ne.symm hAW), hk]
    exact ⟨_, rfl, h.size, Blk.new W _ _⟩
  · exact did_at d kA
theorem set5_only {W : World} {g : Nat} (v0 v1 v2 v3 v4 : Value) : Only [g] W (((((W.setCell ⟨g, 0, none⟩ v0).setCell ⟨g, 1, none⟩ v1).setCell ⟨g, 2, none⟩ v2).setCell ⟨g, 3, none⟩ v3).setCell ⟨g, 4, none⟩ v4) :=
  (((((Only.refl [g] W).set_ (by simp) v0).set_ (by simp) v1).set_ (by simp) v2).set_ (by simp) v3).set_ (by simp) v4
theorem SendJ.store (hB : ∀ x ∈ B.l, w.heap.size ≤ x ∧ x < N0) (hE : Stays B N0 E) (h2 : 2 ≤ w.heap.size) (hN : w.heap.size ≤ N0) (hSW : kS ≠ kW) (hAW : kA ≠ kW) (h : SendJ w N0 B m s s' p E V kS kA kW d u W) (hd : d kW = false) (hA : d kA = true) (hv : V kW undef) :
    ∃ g, u kA = .pointer (some ⟨g, 0, none⟩) ∧ ∃ W5, (Instr.storeAt 24 (.pointer (some ⟨g, 0, none⟩)) p.v).run Tryd.prog W = .ok () W5 ∧ SendJ w N0 B m s s' p E V kS kA kW (did d kW) (put1 u kW undef) W5 := by
  obtain ⟨g, h1, h3, hb⟩ := h.al hA
  rw [hd] at hb
  have hb' : Blk W g 24 #[.int .u64 0, .int .u64 0, .int .u64 0, .string ⟨#[]⟩, .int .u64 0] := hb
  have c0 : W.cell? ⟨g, 0, none⟩ = some (.int .u64 0) := hb'.cell 0
  have c1 : W.cell? ⟨g, 1, none⟩ = some (.int .u64 0) := hb'.cell 1
  have c2 : W.cell? ⟨g, 2, none⟩ = some (.int .u64 0) := hb'.cell 2
  have c3 : W.cell? ⟨g, 3, none⟩ = some (.string ⟨#[]⟩) := hb'.cell 3
  have c4 : W.cell? ⟨g, 4, none⟩ = some (.int .u64 0) := hb'.cell 4
  have f0 := hb'.frozen 0
  have f1 := hb'.frozen 1
  have f2 := hb'.frozen 2
  have f3 := hb'.frozen 3
  have f4 := hb'.frozen 4
  have ho := set5_only (W := W) (g := g) (.int .u64 p.seq) (.int .u64 p.src) (.int .u64 p.dst) (.string p.data) (.int .u64 p.timeout)
  have hS : ∀ x ∈ [g], x ∈ B.l ∨ N0 ≤ x := fun x hx => .inr (by simp at hx; omega)
  obtain ⟨i1, i2, i3⟩ := SendJ.far hB hE h2 hN h.bel h.glob h.e ho hS
  have hgB : ∀ x ∈ B.l, x ∉ [g] := fun x hx hm => by have := hB x hx; simp at hm; omega
  refine ⟨g, h1, _, ?_, ⟨fun j hj hjA => ?_, fun hj => (h.f0 (by rwa [did_ne d hSW] at hj)).kept ho hgB, fun hj => (h.f1 (by rwa [did_ne d hSW] at hj)).kept ho hgB, i1, i2, Nat.le_trans h.size ho.size, i3, fun _ => ?_, fun _ => ?_⟩⟩
  · unfold Pk.v
    go_simp
  · by_cases e : j = kW
    · subst e; rw [put1_at]; exact hv
    · rw [put1_ne u _ e]; exact h.vals j (by rwa [did_ne d e] at hj) hjA
  · rw [put1_ne u _ hAW, did_at]
    exact ⟨g, h1, h3, ((((hb'.set_ 0 _).set_ 1 _).set_ 2 _).set_ 3 _).set_ 4 _⟩
  · rw [did_ne d hAW]; exact hA
end
end Go.Proofs.YtpekbnkmnellpaaDoor
