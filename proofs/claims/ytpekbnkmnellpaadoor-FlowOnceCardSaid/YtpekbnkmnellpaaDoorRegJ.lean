/-
  A region that draws its order, by one obligation an operation: an invariant over what has been done, what was yielded, and the world.
-/
import Derived.Test.YtpekbnkmnellpaaDoorOpKit
namespace Go.Proofs.YtpekbnkmnellpaaDoor
open Go
set_option linter.unusedVariables false

def did (d : Nat → Bool) (i : Nat) : Nat → Bool := fun j => if j = i then true else d j
theorem did_at (d : Nat → Bool) (i : Nat) : did d i i = true := if_pos rfl
theorem did_ne (d : Nat → Bool) {i j : Nat} (h : j ≠ i) : did d i j = d j := if_neg h
theorem put1_at (u : Nat → Value) (i : Nat) (v : Value) : put1 u i v i = v := if_pos rfl
theorem put1_ne (u : Nat → Value) {i j : Nat} (v : Value) (h : j ≠ i) : put1 u i v j = u j := if_neg h
abbrev RJ := (Nat → Bool) → (Nat → Value) → World → Prop
/-- one operation's obligation -/
def JStep (P : Program) (a0 : Act) (D : List (Option Tmp)) (J : RJ) (i : Nat) (o : Oper) : Prop :=
  ∀ ρ d u w, Env a0 D ρ u → d i = false → (∀ j, waits .any o j = true → d j = true) → J d u w → match o.guard with
    | none => SWp P ρ o w (fun v w' => J (did d i) (put1 u i v) w')
    | some (g, b) => (u g = .bool b → SWp P ρ o w (fun v w' => J (did d i) (put1 u i v) w')) ∧ (u g ≠ .bool b → J (did d i) (put1 u i undef) w)
def JSteps (P : Program) (a0 : Act) (D : List (Option Tmp)) (J : RJ) : Nat → List Oper → Prop
  | _, [] => True
  | i, o :: l => JStep P a0 D J i o ∧ JSteps P a0 D J (i + 1) l
theorem JSteps.get {P : Program} {a0 : Act} {D : List (Option Tmp)} {J : RJ} : ∀ (l : List Oper) (k i : Nat) (o : Oper), JSteps P a0 D J k l → l[i]? = some o → JStep P a0 D J (k + i) o
  | [], k, i, o, _, h => by simp at h
  | x :: l, k, 0, o, hs, h => by
    simp at h
    subst h
    exact hs.1
  | x :: l, k, i + 1, o, hs, h => by
    have := JSteps.get l (k + 1) i o hs.2 (by simpa using h)
    rwa [show k + 1 + i = k + (i + 1) by omega] at this
theorem JStep.wpOp {P : Program} {L : List Oper} {Q : Exit → Act → World → Prop} {a0 : Act} {D : List (Option Tmp)} {J : RJ} {n i : Nat} {o : Oper} (hd : dstsOk L = true) (hD : L.map (·.dst) = D) (hn : a0.tmps.size = n) (hg : guardsIn n D L = true) (ho : L[i]? = some o)
    (h : JStep P a0 D J i o) {d : Nat → Bool} {u : Nat → Value} {w : World} (hdi : d i = false) (hw : ∀ j, waits .any o j = true → d j = true) (hJ : J d u w) :
    wpOp P L.toArray Q i (fun a' w' => ∃ v, a' = putAll L 0 (put1 u i v) a0 ∧ J (did d i) (put1 u i v) w') (putAll L 0 u a0) w := by
  have h1 := h _ d u w (hD ▸ env_of hd) hdi hw hJ
  have hput : ∀ v, (putAll L 0 u a0).put o.dst v = putAll L 0 (put1 u i v) a0 := fun v => by
    have := putAll_at L 0 i u a0 o v hd ho
    rwa [Nat.zero_add] at this
  cases hgd : o.guard with
  | none =>
    rw [hgd] at h1
    exact wpOp_plain (by simpa using ho) hgd (swp_wp h1 fun v w' hp => ⟨v, hput v, hp⟩)
  | some gb =>
    obtain ⟨g, b⟩ := gb
    rw [hgd] at h1
    have hgi := List.all_eq_true.1 hg o (List.mem_of_getElem? ho)
    rw [hgd] at hgi
    simp only at hgi
    obtain ⟨e, hDg, hdn⟩ : ∃ e, D[g]? = some (some e) ∧ e < n := by
      cases hDg : D[g]? with
      | none => rw [hDg] at hgi; cases hgi
      | some x =>
        cases x with
        | none => rw [hDg] at hgi; cases hgi
        | some e => rw [hDg] at hgi; exact ⟨e, rfl, of_decide_eq_true hgi⟩
    have hLg : (L[g]?).bind (·.dst) = some e := by
      rw [← hD, List.getElem?_map] at hDg
      cases hx : L[g]? with
      | none => rw [hx] at hDg; cases hDg
      | some x => rw [hx] at hDg; simpa using hDg
    have hy := yielded_is (u := u) (a := a0) g e b hd hLg (by rw [hn]; exact hdn)
    by_cases hb : u g = .bool b
    · exact wpOp_go (by simpa using ho) (by simp only [Region.wanted, hgd]; exact hy.2 hb) (swp_wp (h1.1 hb) fun v w' hp => ⟨v, hput v, hp⟩)
    · refine wpOp_not (by simpa using ho) ?_ ⟨undef, hput undef, h1.2 hb⟩
      simp only [Region.wanted, hgd]
      cases hz : (yielded L.toArray (putAll L 0 u a0).tmps g == some b) with
      | false => rfl
      | true => exact absurd (hy.1 hz) hb
theorem wp_region_J {P : Program} {Q : Exit → Act → World → Prop} {id : Nat} {l : List Oper} {a : Act} {w : World} (D : List (Option Tmp)) (n : Nat) (J : RJ)
    (hm : P.follows .mixedOrders = true) (hf : fwd .any 0 l = true) (hd : dstsOk l = true) (hD : l.map (·.dst) = D) (hg : guardsIn n D l = true) (hn : a.tmps.size = n) (hJ : ∀ u, J (fun _ => false) u w.drew)
    (hend : ∀ d u w', (∀ i, i < l.length → d i = true) → J d u w' → Q .normal (putAll l 0 u a) w')
    (hs : JSteps P a D J 0 l) : (Code.region id l.toArray true).wp P Q a w := by
  refine wp_region_any hm ?_
  refine wpAny_by (J := fun listed a' w => ∃ d u, (∀ i, i < l.length → d i = listed.getD i false) ∧ a' = putAll l 0 u a ∧ J d u w) ?_ ?_ ?_ _ _ _ _ (by simp) (by simp) ⟨fun _ => false, held l a, fun i hi => by simp [hi], ?_, hJ _⟩
  · intro i o ho e he hb
    have := fwd_get l 0 i o hf (by simpa using ho) e he hb
    omega
  · rintro i o listed a' w ho hsz hun hdeps ⟨d, u, hdl, rfl, hJ'⟩
    have ho' : l[i]? = some o := by simpa using ho
    have hil : i < l.length := (List.getElem?_eq_some_iff.1 ho').1
    have hsz' : listed.size = l.length := by simpa using hsz
    have hst := JSteps.get l 0 i o hs ho'
    rw [Nat.zero_add] at hst
    have hlt : i < listed.size := by omega
    have hdi : d i = false := by
      rw [hdl i hil]
      simp [hlt] at hun ⊢
      exact hun
    refine wpOp_mono ?_ (hst.wpOp (Q := Q) hd hD hn hg ho' hdi (fun j hj => ?_) hJ')
    · rintro a'' w' ⟨v, rfl, hJ2⟩
      refine ⟨did d i, put1 u i v, fun j hj => ?_, rfl, hJ2⟩
      by_cases e : j = i
      · subst e; rw [did_at]; simp [hlt]
      · have hjl : j < listed.size := by omega
        rw [did_ne d e, hdl j hj]
        simp [hjl, Ne.symm e]
    · unfold waits at hj
      obtain ⟨e, he, hb⟩ := Array.any_eq_true'.1 hj
      simp only [Bool.and_eq_true, beq_iff_eq] at hb
      obtain ⟨hb, rfl⟩ := hb
      have h1 := hdeps e he hb
      have hel : e.on < l.length := by
        have := fwd_get l 0 i o hf ho' e he hb
        omega
      rw [hdl e.on hel]
      exact h1
  · rintro listed a' w hsz hall ⟨d, u, hdl, rfl, hJ'⟩
    exact hend d u w (fun i hi => by rw [hdl i hi]; exact hall i (by simpa using hi)) hJ'
  · exact (putAll_self l 0 _ a (fun i o ho => by
      rw [Nat.zero_add]
      cases hdst : o.dst with
      | none => rfl
      | some d =>
        have : held l a i = a.tmps.getD d undef := by simp [held, ho, hdst]
        rw [this]
        exact put_held a d)).symm
section
variable {P : Program} {a0 : Act} {D : List (Option Tmp)} {J : RJ} {i : Nat} {o : Oper}
theorem JStep.plain (hg : o.guard = none) (h : ∀ ρ d u w, Env a0 D ρ u → d i = false → (∀ j, waits .any o j = true → d j = true) → J d u w → SWp P ρ o w (fun v w' => J (did d i) (put1 u i v) w')) : JStep P a0 D J i o := by
  intro ρ d u w he hd hw hJ
  rw [hg]
  exact h ρ d u w he hd hw hJ
end
end Go.Proofs.YtpekbnkmnellpaaDoor
