/-
  Regions that draw their order: laws by one obligation an operation.
-/
import Derived.Orders
import Derived.WalkKit
import Derived.Test.YtichklplcpkjdaaDoorBytes
import Derived.Deep.AppendLies
namespace Go.Proofs.YtichklplcpkjdaaDoor
open Go
set_option linter.unusedVariables false

theorem count_set_true : ∀ (l : List Bool) (i : Nat), l[i]? = some false → (l.set i true).count false + 1 = l.count false
  | [], i, h => by simp at h
  | b :: l, 0, h => by
    simp at h
    subst h
    simp
  | b :: l, i + 1, h => by
    have ih := count_set_true l i (by simpa using h)
    cases b <;> simp <;> omega
theorem least_false (listed : Array Bool) (n : Nat) (hn : listed.size = n) (h : ∃ i, i < n ∧ listed.getD i true = false) : ∃ i, i < n ∧ listed.getD i true = false ∧ ∀ j, j < i → listed.getD j false = true := by
  obtain ⟨i, hi, hf⟩ := h
  induction i using Nat.strongRecOn with
  | ind i ih =>
    by_cases hex : ∃ j, j < i ∧ listed.getD j false = false
    · obtain ⟨j, hj, hjf⟩ := hex
      refine ih j hj (by omega) ?_
      have hlt : j < listed.size := by omega
      simp [hlt] at hjf ⊢
      exact hjf
    · refine ⟨i, hi, hf, fun j hj => ?_⟩
      cases hb : listed.getD j false with
      | true => rfl
      | false => exact absurd ⟨j, hj, hb⟩ hex
section
variable {P : Program} {md : Region.Mode} {ops : Array Oper} {Q : Exit → Act → World → Prop}
theorem wpAny_by (J : Array Bool → Act → World → Prop)
    (hf : ∀ i o, ops[i]? = some o → ∀ e ∈ o.after, Region.binds md e = true → e.on < i)
    (hstep : ∀ i o listed a w, ops[i]? = some o → listed.size = ops.size → listed.getD i true = false → (∀ e ∈ o.after, Region.binds md e = true → listed.getD e.on false = true) → J listed a w → wpOp P ops Q i (J (listed.setIfInBounds i true)) a w)
    (hend : ∀ listed a w, listed.size = ops.size → (∀ i, i < ops.size → listed.getD i false = true) → J listed a w → Q .normal a w) :
    ∀ (fuel : Nat) (listed : Array Bool) (a : Act) (w : World), listed.size = ops.size → listed.toList.count false ≤ fuel → J listed a w → wpAny P md ops Q fuel listed a w := by
  have hready : ∀ listed : Array Bool, listed.size = ops.size → Region.ready md ops listed = [] → ∀ i, i < ops.size → listed.getD i false = true := fun listed hs hr i hi => by
    cases hb : listed.getD i false with
    | true => rfl
    | false =>
      have hlt : i < listed.size := by omega
      obtain ⟨k, hk, hkf, hall⟩ := least_false listed ops.size hs ⟨i, hi, by simp [hlt] at hb ⊢; exact hb⟩
      have hm : k ∈ Region.ready md ops listed := mem_ready.2 ⟨hkf, ops[k], Array.getElem?_eq_getElem hk, fun e he hb => hall _ (hf k _ (Array.getElem?_eq_getElem hk) e he hb)⟩
      rw [hr] at hm
      cases hm
  intro fuel
  induction fuel with
  | zero =>
    intro listed a w hs hc hJ
    have hall : ∀ i, i < ops.size → listed.getD i false = true := fun i hi => by
      have hlt : i < listed.size := by omega
      cases hb : listed[i] with
      | true => simp [hlt, hb]
      | false =>
        have : false ∈ listed.toList := by
          rw [← hb]
          simp
        have := List.count_pos_iff.2 this
        omega
    refine ⟨?_, hend listed a w hs hall hJ⟩
    cases hr : Region.ready md ops listed with
    | nil => rfl
    | cons x xs =>
      have hm : x ∈ Region.ready md ops listed := by rw [hr]; simp
      obtain ⟨hx, o, ho, _⟩ := mem_ready.1 hm
      have hlt : x < ops.size := (Array.getElem?_eq_some_iff.1 ho).1
      have h1 := hall x hlt
      have hlt' : x < listed.size := by omega
      simp [hlt'] at hx h1
      rw [hx] at h1
      cases h1
  | succ fuel ih =>
    intro listed a w hs hc hJ
    refine ⟨fun hr => hend listed a w hs (hready listed hs hr) hJ, fun i hi => ?_⟩
    obtain ⟨hx, o, ho, hall⟩ := mem_ready.1 hi
    have hlt : i < ops.size := (Array.getElem?_eq_some_iff.1 ho).1
    refine wpOp_mono (fun a' w' h' => ih _ a' w' (by simpa using hs) ?_ h') (hstep i o listed a w ho hs hx hall hJ)
    have hlt' : i < listed.size := by omega
    have hli : listed.toList[i]? = some false := by
      simp [hlt'] at hx
      simp [hlt', hx]
    have := count_set_true listed.toList i hli
    simp only [Array.toList_setIfInBounds]
    omega
/-- does operation o wait for operation j? -/
def waits (md : Region.Mode) (o : Oper) (j : Nat) : Bool := o.after.any fun e => Region.binds md e && e.on == j
def put1 (u : Nat → Value) (i : Nat) (v : Value) : Nat → Value := fun j => if j = i then v else u j
/-- one operation's obligation -/
def RStep (P : Program) (ops : Array Oper) (Q : Exit → Act → World → Prop) (F : (Nat → Value) → Act) (V : Nat → Value → World → Prop) (I : World → Prop) (E : World → World → Prop) (i : Nat) (o : Oper) : Prop :=
  ∀ u w, I w → (∀ j, waits .any o j = true → V j (u j) w) → wpOp P ops Q i (fun a' w' => ∃ v, a' = F (put1 u i v) ∧ I w' ∧ E w w' ∧ V i v w') (F u) w
def RSteps (P : Program) (ops : Array Oper) (Q : Exit → Act → World → Prop) (F : (Nat → Value) → Act) (V : Nat → Value → World → Prop) (I : World → Prop) (E : World → World → Prop) : Nat → List Oper → Prop
  | _, [] => True
  | i, o :: l => RStep P ops Q F V I E i o ∧ RSteps P ops Q F V I E (i + 1) l
def fwd (md : Region.Mode) : Nat → List Oper → Bool
  | _, [] => true
  | i, o :: l => (o.after.all fun e => !Region.binds md e || decide (e.on < i)) && fwd md (i + 1) l
theorem RSteps.get {F : (Nat → Value) → Act} {V : Nat → Value → World → Prop} {I : World → Prop} {E : World → World → Prop} : ∀ (l : List Oper) (k i : Nat) (o : Oper), RSteps P ops Q F V I E k l → l[i]? = some o → RStep P ops Q F V I E (k + i) o
  | [], k, i, o, _, h => by simp at h
  | x :: l, k, 0, o, hs, h => by
    simp at h
    subst h
    exact hs.1
  | x :: l, k, i + 1, o, hs, h => by
    have := RSteps.get l (k + 1) i o hs.2 (by simpa using h)
    rwa [show k + 1 + i = k + (i + 1) by omega] at this
theorem fwd_get : ∀ (l : List Oper) (k i : Nat) (o : Oper), fwd md k l = true → l[i]? = some o → ∀ e ∈ o.after, Region.binds md e = true → e.on < k + i
  | [], k, i, o, _, h => by simp at h
  | x :: l, k, 0, o, hs, h => by
    simp at h
    subst h
    intro e he hb
    simp only [fwd, Bool.and_eq_true] at hs
    have := Array.all_eq_true'.1 hs.1 e he
    simpa [hb] using this
  | x :: l, k, i + 1, o, hs, h => by
    simp only [fwd, Bool.and_eq_true] at hs
    have := fwd_get l (k + 1) i o hs.2 (by simpa using h)
    rwa [show k + 1 + i = k + (i + 1) by omega] at this
end
theorem wp_region_inv {P : Program} {Q : Exit → Act → World → Prop} {id : Nat} {l : List Oper} {a : Act} {w : World} (F : (Nat → Value) → Act) (V : Nat → Value → World → Prop) (I : World → Prop) (E : World → World → Prop) (u0 : Nat → Value)
    (hm : P.follows .mixedOrders = true) (hf : fwd .any 0 l = true) (ha : a = F u0) (hI : I w.drew)
    (hmono : ∀ w w' j v, I w → I w' → E w w' → V j v w → V j v w')
    (hs : RSteps P l.toArray Q F V I E 0 l)
    (hend : ∀ u w', I w' → (∀ i, i < l.length → V i (u i) w') → Q .normal (F u) w') : (Code.region id l.toArray true).wp P Q a w := by
  refine wp_region_any hm ?_
  refine wpAny_by (J := fun listed a w => ∃ u, a = F u ∧ I w ∧ ∀ i, listed.getD i false = true → V i (u i) w) ?_ ?_ ?_ _ _ _ _ (by simp) (by simp) ⟨u0, ha, hI, ?_⟩
  · intro i o ho e he hb
    have := fwd_get l 0 i o hf (by simpa using ho) e he hb
    omega
  · rintro i o listed a w ho hsz hun hdeps ⟨u, rfl, hIw, hV⟩
    have hst := RSteps.get l 0 i o hs (by simpa using ho)
    rw [Nat.zero_add] at hst
    refine wpOp_mono ?_ (hst u w hIw fun j hj => ?_)
    · rintro a' w' ⟨v, rfl, hI', hE, hv⟩
      refine ⟨_, rfl, hI', fun j hj => ?_⟩
      unfold put1
      by_cases e : j = i
      · subst e; rw [if_pos rfl]; exact hv
      · rw [if_neg e]
        refine hmono w w' j _ hIw hI' hE (hV j ?_)
        have hlt : j < listed.size := by
          rcases Nat.lt_or_ge j listed.size with h | h
          · exact h
          · simp [Array.getElem?_eq_none (show (listed.setIfInBounds i true).size ≤ j by simpa using h)] at hj
        simp [Ne.symm e, hlt] at hj
        simp [hlt, hj]
    · unfold waits at hj
      obtain ⟨e, he, hb⟩ := Array.any_eq_true'.1 hj
      simp only [Bool.and_eq_true, beq_iff_eq] at hb
      obtain ⟨hb, rfl⟩ := hb
      exact hV _ (hdeps e he hb)
  · rintro listed a w hsz hall ⟨u, rfl, hIw, hV⟩
    exact hend u w hIw fun i hi => hV i (hall i (by simpa using hi))
  · intro i hi
    exfalso
    rcases Nat.lt_or_ge i l.length with h | h
    · simp [h] at hi
    · simp [h] at hi
/-- an operation that is wanted -/
theorem wpOp_go {P : Program} {ops : Array Oper} {Q : Exit → Act → World → Prop} {i : Nat} {o : Oper} {K : Act → World → Prop} {a : Act} {w : World} (ho : ops[i]? = some o) (hw : Region.wanted o (yielded ops a.tmps) = true) (h : o.wp P a w K Q) : wpOp P ops Q i K a w := by
  unfold wpOp
  simp only [ho, hw, if_true]
  exact .inl h
theorem wpOp_plain {P : Program} {ops : Array Oper} {Q : Exit → Act → World → Prop} {i : Nat} {o : Oper} {K : Act → World → Prop} {a : Act} {w : World} (ho : ops[i]? = some o) (hg : o.guard = none) (h : o.wp P a w K Q) : wpOp P ops Q i K a w := wpOp_go ho (by simp [Region.wanted, hg]) h
/-- an operation that is not wanted -/
theorem wpOp_not {P : Program} {ops : Array Oper} {Q : Exit → Act → World → Prop} {i : Nat} {o : Oper} {K : Act → World → Prop} {a : Act} {w : World} (ho : ops[i]? = some o) (hw : Region.wanted o (yielded ops a.tmps) = false) (h : K (a.put o.dst undef) w) : wpOp P ops Q i K a w := by
  unfold wpOp
  simp only [ho, hw, Bool.false_eq_true, if_false]
  exact h

/-- the frame behind a region's operations, that yielded u -/
def putAll : List Oper → Nat → (Nat → Value) → Act → Act
  | [], _, _, a => a
  | o :: l, i, u, a => putAll l (i + 1) u (a.put o.dst (u i))
def dstsOk : List Oper → Bool
  | [] => true
  | o :: l => (o.dst.isNone || l.all fun x => x.dst != o.dst) && dstsOk l
theorem put_same (a : Act) (d : Option Tmp) (v v' : Value) : (a.put d v).put d v' = a.put d v' := by
  cases d with
  | none => rfl
  | some d => simp [Act.put]
theorem putAll_ext : ∀ (l : List Oper) (k : Nat) (u u' : Nat → Value) (a : Act), (∀ i, k ≤ i → u i = u' i) → putAll l k u a = putAll l k u' a
  | [], _, _, _, _, _ => rfl
  | o :: l, k, u, u', a, h => by
    show putAll l (k + 1) u (a.put o.dst (u k)) = putAll l (k + 1) u' (a.put o.dst (u' k))
    rw [h k (Nat.le_refl _), putAll_ext l (k + 1) u u' _ (fun i hi => h i (by omega))]
theorem putAll_other : ∀ (l : List Oper) (k : Nat) (u : Nat → Value) (a : Act) (d : Option Tmp) (v : Value), (d = none ∨ ∀ x ∈ l, x.dst ≠ d) → (putAll l k u a).put d v = putAll l k u (a.put d v)
  | [], _, _, _, _, _, _ => rfl
  | o :: l, k, u, a, d, v, h => by
    show (putAll l (k + 1) u (a.put o.dst (u k))).put d v = putAll l (k + 1) u ((a.put d v).put o.dst (u k))
    rw [putAll_other l (k + 1) u _ d v (h.imp id fun h x hx => h x (by simp [hx]))]
    congr 1
    rcases h with rfl | h
    · rfl
    · exact Act.put_comm a (u k) v (fun e he hd => h o (by simp) (by rw [he, hd]))
theorem putAll_at : ∀ (l : List Oper) (k i : Nat) (u : Nat → Value) (a : Act) (o : Oper) (v : Value), dstsOk l = true → l[i]? = some o → (putAll l k u a).put o.dst v = putAll l k (put1 u (k + i) v) a
  | [], _, _, _, _, _, _, _, h => by simp at h
  | x :: l, k, 0, u, a, o, v, hd, h => by
    simp at h
    subst h
    simp only [dstsOk, Bool.and_eq_true, Bool.or_eq_true] at hd
    show (putAll l (k + 1) u (a.put x.dst (u k))).put x.dst v = putAll l (k + 1) (put1 u (k + 0) v) (a.put x.dst (put1 u (k + 0) v k))
    have e : x.dst = none ∨ ∀ y ∈ l, y.dst ≠ x.dst := hd.1.imp (fun h => by simpa using h) (fun h y hy => by simpa using List.all_eq_true.1 h y hy)
    rw [putAll_other l (k + 1) u _ _ _ e, put_same, putAll_ext l (k + 1) u (put1 u (k + 0) v) _ (fun i hi => by unfold put1; rw [if_neg (by omega)])]
    unfold put1
    rw [if_pos (by omega)]
  | x :: l, k, i + 1, u, a, o, v, hd, h => by
    simp only [dstsOk, Bool.and_eq_true] at hd
    show (putAll l (k + 1) u (a.put x.dst (u k))).put o.dst v = putAll l (k + 1) (put1 u (k + (i + 1)) v) (a.put x.dst (put1 u (k + (i + 1)) v k))
    rw [putAll_at l (k + 1) i u _ o v hd.2 (by simpa using h), show k + 1 + i = k + (i + 1) by omega]
    congr 2
    unfold put1
    rw [if_neg (by omega)]
theorem putAll_self : ∀ (l : List Oper) (k : Nat) (u : Nat → Value) (a : Act), (∀ i o, l[i]? = some o → a.put o.dst (u (k + i)) = a) → putAll l k u a = a
  | [], _, _, _, _ => rfl
  | o :: l, k, u, a, h => by
    show putAll l (k + 1) u (a.put o.dst (u k)) = a
    rw [show a.put o.dst (u k) = a from h 0 o rfl]
    exact putAll_self l (k + 1) u a fun i o' ho => by rw [show k + 1 + i = k + (i + 1) by omega]; exact h (i + 1) o' (by simpa using ho)
def held (l : List Oper) (a : Act) (i : Nat) : Value := match (l[i]?).bind (·.dst) with
  | some d => a.tmps.getD d undef
  | none => undef
theorem put_held (a : Act) (d : Tmp) : a.put (some d) (a.tmps.getD d undef) = a := by
  obtain ⟨t, df⟩ := a
  simp only [Act.put, Act.mk.injEq, and_true]
  apply Array.ext_getElem?
  intro i
  by_cases h : d = i
  · subst h
    rcases Nat.lt_or_ge d t.size with hl | hl
    · simp [hl]
    · simp [hl]
  · simp [h]
/-- one operation's obligation, the frame by the operations themselves -/
def VStep (P : Program) (l : List Oper) (Q : Exit → Act → World → Prop) (a0 : Act) (V : Nat → Value → World → Prop) (I : World → Prop) (E : World → World → Prop) (i : Nat) (o : Oper) : Prop :=
  ∀ u w, I w → (∀ j, waits .any o j = true → V j (u j) w) → wpOp P l.toArray Q i (fun a' w' => ∃ v, a' = (putAll l 0 u a0).put o.dst v ∧ I w' ∧ E w w' ∧ V i v w') (putAll l 0 u a0) w
def VSteps (P : Program) (L : List Oper) (Q : Exit → Act → World → Prop) (a0 : Act) (V : Nat → Value → World → Prop) (I : World → Prop) (E : World → World → Prop) : Nat → List Oper → Prop
  | _, [] => True
  | i, o :: l => VStep P L Q a0 V I E i o ∧ VSteps P L Q a0 V I E (i + 1) l
theorem VSteps.rsteps {P : Program} {L : List Oper} {Q : Exit → Act → World → Prop} {a0 : Act} {V : Nat → Value → World → Prop} {I : World → Prop} {E : World → World → Prop} (hd : dstsOk L = true) : ∀ (l : List Oper) (k : Nat), (∀ i o, l[i]? = some o → L[k + i]? = some o) → VSteps P L Q a0 V I E k l → RSteps P L.toArray Q (fun u => putAll L 0 u a0) V I E k l
  | [], _, _, _ => trivial
  | o :: l, k, hl, h => ⟨fun u w hI hw => wpOp_mono (fun a' w' ⟨v, ha, h1, h2, h3⟩ => ⟨v, by rw [ha, putAll_at L 0 k u a0 o v hd (by simpa using hl 0 o rfl), Nat.zero_add], h1, h2, h3⟩) (h.1 u w hI hw),
    VSteps.rsteps hd l (k + 1) (fun i o' ho => by rw [show k + 1 + i = k + (i + 1) by omega]; exact hl (i + 1) o' (by simpa using ho)) h.2⟩
theorem wp_region_vals {P : Program} {Q : Exit → Act → World → Prop} {id : Nat} {l : List Oper} {a : Act} {w : World} (V : Nat → Value → World → Prop) (I : World → Prop) (E : World → World → Prop)
    (hm : P.follows .mixedOrders = true) (hf : fwd .any 0 l = true) (hd : dstsOk l = true) (hI : I w.drew)
    (hmono : ∀ w w' j v, I w → I w' → E w w' → V j v w → V j v w')
    (hs : VSteps P l Q a V I E 0 l)
    (hend : ∀ u w', I w' → (∀ i, i < l.length → V i (u i) w') → Q .normal (putAll l 0 u a) w') : (Code.region id l.toArray true).wp P Q a w :=
  wp_region_inv (fun u => putAll l 0 u a) V I E (held l a) hm hf (putAll_self l 0 _ a (fun i o ho => by
    rw [Nat.zero_add]
    cases hdst : o.dst with
    | none => rfl
    | some d =>
      have : held l a i = a.tmps.getD d undef := by simp [held, ho, hdst]
      rw [this]
      exact put_held a d)).symm hI hmono (VSteps.rsteps hd l 0 (fun i o ho => by simpa using ho) hs) hend
/-- an operation that yields a value -/
theorem op_val {P : Program} {o : Oper} {Q : Exit → Act → World → Prop} {K : Act → World → Prop} {a : Act} {w w' : World} (v : Value) (h : (execOp a.eval o).run P w = .ok (.value v) w') (hk : K (a.put o.dst v) w') : o.wp P a w K Q := by
  unfold Oper.wp
  rw [h]
  exact hk
/-- a call -/
theorem op_call {P : Program} {o : Oper} {Q : Exit → Act → World → Prop} {K : Act → World → Prop} {a : Act} {w : World} {f : FuncId} {args : Array Value} {R : Ending → World → Prop} (h : (execOp a.eval o).run P w = .ok (.enter f args) w) (hc : Calls P f args w R) (hR : ∀ e w', R e w' → ∃ v, e = .returned v ∧ K (a.put o.dst v) w') : o.wp P a w K Q := by
  unfold Oper.wp
  rw [h]
  refine hc.mono fun e w' he => ?_
  obtain ⟨v, rfl, hk⟩ := hR e w' he
  exact hk
theorem putAll_size : ∀ (l : List Oper) (k : Nat) (u : Nat → Value) (a : Act), (putAll l k u a).tmps.size = a.tmps.size
  | [], _, _, _ => rfl
  | o :: l, k, u, a => by
    show (putAll l (k + 1) u (a.put o.dst (u k))).tmps.size = _
    rw [putAll_size l (k + 1) u]
    cases o.dst <;> simp [Act.put]
theorem putAll_out : ∀ (l : List Oper) (k : Nat) (u : Nat → Value) (a : Act) (t : Nat), (l.all fun o => o.dst != some t) = true → (putAll l k u a).tmps[t]? = a.tmps[t]?
  | [], _, _, _, _, _ => rfl
  | o :: l, k, u, a, t, h => by
    simp only [List.all_cons, Bool.and_eq_true, bne_iff_ne] at h
    show (putAll l (k + 1) u (a.put o.dst (u k))).tmps[t]? = _
    rw [putAll_out l (k + 1) u _ t h.2]
    cases hd : o.dst with
    | none => rfl
    | some d =>
      have : d ≠ t := fun e => h.1 (by rw [hd, e])
      simp [Act.put, this]
theorem putAll_in : ∀ (l : List Oper) (k : Nat) (u : Nat → Value) (a : Act) (i d : Nat), dstsOk l = true → (l[i]?).bind (·.dst) = some d → d < a.tmps.size → (putAll l k u a).tmps[d]? = some (u (k + i))
  | [], _, _, _, _, _, _, h, _ => by simp at h
  | o :: l, k, u, a, 0, d, hd, h, hs => by
    simp at h
    simp only [dstsOk, Bool.and_eq_true, Bool.or_eq_true] at hd
    show (putAll l (k + 1) u (a.put o.dst (u k))).tmps[d]? = _
    have hall : (l.all fun x => x.dst != some d) = true := by
      rcases hd.1 with h0 | h0
      · rw [h] at h0; cases h0
      · rw [h] at h0; exact h0
    rw [putAll_out l (k + 1) u _ d hall, h]
    simp [Act.put, hs]
  | o :: l, k, u, a, i + 1, d, hd, h, hs => by
    simp only [dstsOk, Bool.and_eq_true] at hd
    show (putAll l (k + 1) u (a.put o.dst (u k))).tmps[d]? = _
    rw [putAll_in l (k + 1) u _ i d hd.2 (by simpa using h) (by cases o.dst <;> simp [Act.put, hs]), show k + 1 + i = k + (i + 1) by omega]
/-- an environment: the region's temporaries are u, the others as they were -/
structure Env (a0 : Act) (D : List (Option Tmp)) (ρ : Operand → Value) (u : Nat → Value) : Prop where
  const : ∀ x, ρ (.const x) = x
  func : ∀ f, ρ (.func f) = .func (.func f) #[] #[]
  glob : ∀ g, ρ (.global g) = .pointer (some ⟨g, 0, none⟩)
  out : ∀ t, D.contains (some t) = false → ρ (.tmp t) = a0.eval (.tmp t)
  inn : ∀ j d, D[j]? = some (some d) → d < a0.tmps.size → ρ (.tmp d) = u j
theorem Env.o {a0 : Act} {D : List (Option Tmp)} {ρ : Operand → Value} {u : Nat → Value} (h : Env a0 D ρ u) {t : Nat} {v : Value} (hv : a0.eval (.tmp t) = v) (hD : D.contains (some t) = false) : ρ (.tmp t) = v := (h.out t hD).trans hv
theorem Env.i {a0 : Act} {D : List (Option Tmp)} {ρ : Operand → Value} {u : Nat → Value} (h : Env a0 D ρ u) {n : Nat} (hn : a0.tmps.size = n) {j d : Nat} {v : Value} (hv : u j = v) (hD : D[j]? = some (some d)) (hd : d < n) : ρ (.tmp d) = v := (h.inn j d hD (by omega)).trans hv
/-- what an operation does -/
def SWp (P : Program) (ρ : Operand → Value) (o : Oper) (w : World) (post : Value → World → Prop) : Prop := match (execOp ρ o).run P w with
  | .ok (.value v) w' => post v w'
  | .ok .skip w' => post undef w'
  | .ok (.enter f args) w' => Calls P f args w' fun e w'' => ∃ v, e = .returned v ∧ post v w''
  | _ => False
/-- one operation's obligation -/
def SStep (P : Program) (a0 : Act) (D : List (Option Tmp)) (V : Nat → Value → World → Prop) (I : World → Prop) (E : World → World → Prop) (i : Nat) (o : Oper) : Prop :=
  ∀ ρ u w, Env a0 D ρ u → I w → (∀ j, waits .any o j = true → V j (u j) w) → match o.guard with
    | none => SWp P ρ o w (fun v w' => I w' ∧ E w w' ∧ V i v w')
    | some (g, b) => (u g = .bool b → SWp P ρ o w (fun v w' => I w' ∧ E w w' ∧ V i v w')) ∧ (u g ≠ .bool b → E w w ∧ V i undef w)
def SSteps (P : Program) (a0 : Act) (D : List (Option Tmp)) (V : Nat → Value → World → Prop) (I : World → Prop) (E : World → World → Prop) : Nat → List Oper → Prop
  | _, [] => True
  | i, o :: l => SStep P a0 D V I E i o ∧ SSteps P a0 D V I E (i + 1) l
def guardsOk (n : Nat) : Nat → List Oper → Bool
  | _, [] => true
  | i, o :: l => (match o.guard with | none => true | some (g, _) => decide (g < n)) && guardsOk n (i + 1) l
theorem yielded_is {l : List Oper} {u : Nat → Value} {a : Act} (g d : Nat) (b : Bool) (hd : dstsOk l = true) (h : (l[g]?).bind (·.dst) = some d) (hs : d < a.tmps.size) : (yielded l.toArray (putAll l 0 u a).tmps g == some b) = true ↔ u g = .bool b := by
  have := putAll_in l 0 u a g d hd h hs
  rw [Nat.zero_add] at this
  simp only [yielded, List.getElem?_toArray, h, Option.bind_some, this]
  cases hu : u g <;> simp
theorem env_of {l : List Oper} {u : Nat → Value} {a : Act} (hd : dstsOk l = true) : Env a (l.map (·.dst)) (putAll l 0 u a).eval u := by
  refine ⟨fun _ => rfl, fun _ => rfl, fun _ => rfl, fun t ht => ?_, fun j d hj hs => ?_⟩
  · have hall : (l.all fun o => o.dst != some t) = true := by
      rw [List.all_eq_true]
      intro o ho
      simp only [bne_iff_ne, ne_eq]
      intro e
      have : (l.map (·.dst)).contains (some t) = true := by
        rw [List.contains_iff_mem]
        exact List.mem_map.2 ⟨o, ho, e⟩
      rw [this] at ht
      cases ht
    have := putAll_out l 0 u a t hall
    simp only [Act.eval, Array.getD_eq_getD_getElem?, this]
  · have h2 : (l[j]?).bind (·.dst) = some d := by
      rw [List.getElem?_map] at hj
      cases ho : l[j]? with
      | none => rw [ho] at hj; cases hj
      | some o => rw [ho] at hj; simpa using hj
    have := putAll_in l 0 u a j d hd h2 hs
    rw [Nat.zero_add] at this
    simp [Act.eval, this]
/-- guards are on operations that have a temporary -/
def guardsIn (n : Nat) (D : List (Option Tmp)) (l : List Oper) : Bool := l.all fun o => match o.guard with
  | none => true
  | some (g, _) => match D[g]? with
    | some (some d) => decide (d < n)
    | _ => false
theorem swp_wp {P : Program} {a : Act} {o : Oper} {w : World} {Q : Exit → Act → World → Prop} {post : Value → World → Prop} {K : Act → World → Prop} (h : SWp P a.eval o w post) (hk : ∀ v w', post v w' → K (a.put o.dst v) w') : o.wp P a w K Q := by
  unfold SWp at h
  unfold Oper.wp
  cases hr : (execOp a.eval o).run P w with
  | ok n w' =>
    rw [hr] at h
    cases n <;> simp only [Oper.upon] at h ⊢
    case value => exact hk _ _ h
    case skip => exact hk _ _ h
    case enter f args =>
      refine h.mono fun e w'' he => ?_
      obtain ⟨v, rfl, hp⟩ := he
      exact hk _ _ hp
  | halt x w' =>
    rw [hr] at h
    cases x <;> exact absurd h id
theorem SSteps.vsteps {P : Program} {L : List Oper} {Q : Exit → Act → World → Prop} {a0 : Act} {D : List (Option Tmp)} {V : Nat → Value → World → Prop} {I : World → Prop} {E : World → World → Prop} {n : Nat} (hd : dstsOk L = true) (hD : L.map (·.dst) = D) (hn : a0.tmps.size = n) (hg : guardsIn n D L = true) :
    ∀ (l : List Oper) (k : Nat), (∀ i o, l[i]? = some o → L[k + i]? = some o) → SSteps P a0 D V I E k l → VSteps P L Q a0 V I E k l
  | [], _, _, _ => trivial
  | o :: l, k, hl, h => by
    refine ⟨fun u w hI hw => ?_, SSteps.vsteps hd hD hn hg l (k + 1) (fun i o' ho => by rw [show k + 1 + i = k + (i + 1) by omega]; exact hl (i + 1) o' (by simpa using ho)) h.2⟩
    have ho : L[k]? = some o := by simpa using hl 0 o rfl
    have h1 := h.1 _ u w (hD ▸ env_of hd) hI hw
    cases hgd : o.guard with
    | none =>
      rw [hgd] at h1
      exact wpOp_plain (by simpa using ho) hgd (swp_wp h1 fun v w' hp => ⟨v, rfl, hp⟩)
    | some gb =>
      obtain ⟨g, b⟩ := gb
      rw [hgd] at h1
      have hgi := List.all_eq_true.1 hg o (List.mem_of_getElem? ho)
      rw [hgd] at hgi
      simp only at hgi
      obtain ⟨d, hDg, hdn⟩ : ∃ d, D[g]? = some (some d) ∧ d < n := by
        cases hDg : D[g]? with
        | none => rw [hDg] at hgi; cases hgi
        | some x =>
          cases x with
          | none => rw [hDg] at hgi; cases hgi
          | some d => rw [hDg] at hgi; exact ⟨d, rfl, of_decide_eq_true hgi⟩
      have hLg : (L[g]?).bind (·.dst) = some d := by
        rw [← hD, List.getElem?_map] at hDg
        cases hx : L[g]? with
        | none => rw [hx] at hDg; cases hDg
        | some x => rw [hx] at hDg; simpa using hDg
      have hy := yielded_is (u := u) (a := a0) g d b hd hLg (by rw [hn]; exact hdn)
      by_cases hb : u g = .bool b
      · exact wpOp_go (by simpa using ho) (by simp only [Region.wanted, hgd]; exact hy.2 hb) (swp_wp (h1.1 hb) fun v w' hp => ⟨v, rfl, hp⟩)
      · refine wpOp_not (by simpa using ho) ?_ ⟨undef, rfl, hI, h1.2 hb⟩
        simp only [Region.wanted, hgd]
        cases hz : (yielded L.toArray (putAll L 0 u a0).tmps g == some b) with
        | false => rfl
        | true => exact absurd (hy.1 hz) hb
theorem wp_region_steps {P : Program} {Q : Exit → Act → World → Prop} {id : Nat} {l : List Oper} {a : Act} {w : World} (D : List (Option Tmp)) (n : Nat) (V : Nat → Value → World → Prop) (I : World → Prop) (E : World → World → Prop)
    (hm : P.follows .mixedOrders = true) (hf : fwd .any 0 l = true) (hd : dstsOk l = true) (hD : l.map (·.dst) = D) (hg : guardsIn n D l = true) (hn : a.tmps.size = n) (hI : I w.drew)
    (hmono : ∀ w w' j v, I w → I w' → E w w' → V j v w → V j v w')
    (hend : ∀ u w', I w' → (∀ i, i < l.length → V i (u i) w') → Q .normal (putAll l 0 u a) w')
    (hs : SSteps P a D V I E 0 l) : (Code.region id l.toArray true).wp P Q a w :=
  wp_region_vals V I E hm hf hd hI hmono (SSteps.vsteps hd hD hn hg l 0 (fun i o ho => by simpa using ho) hs) hend
section
variable {P : Program} {a0 : Act} {D : List (Option Tmp)} {V : Nat → Value → World → Prop} {I : World → Prop} {E : World → World → Prop} {i : Nat} {o : Oper} {ρ : Operand → Value} {w w' : World} {post : Value → World → Prop}
theorem SStep.plain (hg : o.guard = none) (h : ∀ ρ u w, Env a0 D ρ u → I w → (∀ j, waits .any o j = true → V j (u j) w) → SWp P ρ o w (fun v w' => I w' ∧ E w w' ∧ V i v w')) : SStep P a0 D V I E i o := by
  intro ρ u w he hI hd
  rw [hg]
  exact h ρ u w he hI hd
theorem SStep.on (g : Nat) (b : Bool) (hg : o.guard = some (g, b)) (hgw : waits .any o g = true) (hv : ∀ v w, V g v w → v = .bool b) (h : ∀ ρ u w, Env a0 D ρ u → I w → (∀ j, waits .any o j = true → V j (u j) w) → SWp P ρ o w (fun v w' => I w' ∧ E w w' ∧ V i v w')) : SStep P a0 D V I E i o := by
  intro ρ u w he hI hd
  rw [hg]
  exact ⟨fun _ => h ρ u w he hI hd, fun hne => absurd (hv _ _ (hd g hgw)) hne⟩
theorem SStep.off (g : Nat) (b : Bool) (hg : o.guard = some (g, b)) (hgw : waits .any o g = true) (hv : ∀ v w, V g v w → v ≠ .bool b) (h : ∀ w, I w → E w w ∧ V i undef w) : SStep P a0 D V I E i o := by
  intro ρ u w he hI hd
  rw [hg]
  exact ⟨fun he => absurd he (hv _ _ (hd g hgw)), fun _ => h w hI⟩
theorem swp_val {v : Value} (h : (execOp ρ o).run P w = .ok (.value v) w') (hp : post v w') : SWp P ρ o w post := by unfold SWp; rw [h]; exact hp
theorem swp_skip (h : (execOp ρ o).run P w = .ok .skip w') (hp : post undef w') : SWp P ρ o w post := by unfold SWp; rw [h]; exact hp
theorem swp_call {f : FuncId} {args : Array Value} {R : Ending → World → Prop} (h : (execOp ρ o).run P w = .ok (.enter f args) w) (hc : Calls P f args w R) (hR : ∀ e w', R e w' → ∃ v, e = .returned v ∧ post v w') : SWp P ρ o w post := by
  unfold SWp
  rw [h]
  exact hc.mono hR
end
/-- a function of the program's own text -/
def enters (P : Program) (f : FuncId) : Bool := match P.funcs[f]? with
  | some fn => fn.name != "runtime.NumGoroutine" && fn.body.isSome
  | none => false
theorem run_enter {P : Program} {f : FuncId} (h : enters P f = true) (args : Array Value) (w : World) : (callFunc f args).run P w = .ok (.enter f args) w := by
  unfold enters at h
  split at h
  · rename_i fn hf
    simp only [Bool.and_eq_true, bne_iff_ne, ne_eq] at h
    obtain ⟨b, hb⟩ := Option.isSome_iff_exists.1 h.2
    simp [callFunc, hf, h.1, hb, go_sem]
  · cases h
/-- what a call's operation comes to -/
theorem run_call {P : Program} {ρ : Operand → Value} {w : World} {dst : Option Tmp} {f : FuncId} {xs : Array Operand} {ts : Array TypeId} {t : TypeId} {pos : String} {af : Array Edge} {g : Option (Nat × Bool)} (args : Array Value) (hf : ρ (.func f) = .func (.func f) #[] #[])
    (h : enters P f = true) (hx : xs.map ρ = args) : (execOp ρ ⟨dst, .call { callee := .value (.func f), args := xs, argTypes := ts }, t, pos, af, g⟩).run P w = .ok (.enter f args) w := by
  subst hx
  simp [execOp, resolve, invoke, hf, Deferred.ofValue, run_enter h]
end Go.Proofs.YtichklplcpkjdaaDoor
namespace Go.Proofs.YtichklplcpkjdaaDoor
open Go
set_option linter.unusedVariables false
section
variable {P : Program} {a : Act} {ρ : Operand → Value} {w w' : World} {dst : Option Tmp} {t : TypeId} {pos : String} {af : Array Edge} {g : Option (Nat × Bool)} {v x1 x2 x3 : Value} {x y z : Operand}
theorem wp_abs {c : Code} {Q : Exit → Act → World → Prop} (h : ∀ a0, a0 = a → c.wp P Q a0 w) : c.wp P Q a w := h a rfl
theorem map1 {f : Operand → Value} (h : f x = x1) : #[x].map f = #[x1] := by simp [h]
theorem map2 {f : Operand → Value} (h : f x = x1) (h2 : f y = x2) : #[x, y].map f = #[x1, x2] := by simp [h, h2]
theorem map3 {f : Operand → Value} (h : f x = x1) (h2 : f y = x2) (h3 : f z = x3) : #[x, y, z].map f = #[x1, x2, x3] := by simp [h, h2, h3]
theorem pairs1 {i : Nat} (h : ρ x = x1) : (#[(i, x)].map fun p => (p.1, ρ p.2)) = #[(i, x1)] := by simp [h]
theorem pairs4 {i j k m : Nat} {q : Operand} {x4 : Value} (h : ρ x = x1) (h2 : ρ y = x2) (h3 : ρ z = x3) (h4 : ρ q = x4) : (#[(i, x), (j, y), (k, z), (m, q)].map fun p => (p.1, ρ p.2)) = #[(i, x1), (j, x2), (k, x3), (m, x4)] := by simp [h, h2, h3, h4]
theorem run_move (hx : ρ x = v) : (execOp ρ ⟨dst, .move x, t, pos, af, g⟩).run P w = .ok (.value v) w := by subst hx; rfl
theorem run_assign (hx : ρ x = v) : (execOp ρ ⟨dst, .assign x, t, pos, af, g⟩).run P w = .ok (.value v) w := by subst hx; rfl
theorem run_pick_t (hx : ρ x = .bool true) (hy : ρ y = v) : (execOp ρ ⟨dst, .pick x y z, t, pos, af, g⟩).run P w = .ok (.value v) w := by
  subst hy
  simp [execOp, hx, go_sem]
theorem run_pick_f (hx : ρ x = .bool false) (hy : ρ z = v) : (execOp ρ ⟨dst, .pick x y z, t, pos, af, g⟩).run P w = .ok (.value v) w := by
  subst hy
  simp [execOp, hx, go_sem]
theorem run_load {T : TypeId} (hx : ρ x = x1) (h : (Instr.loadAt T x1).run P w = .ok v w') : (execOp ρ ⟨dst, .load T x, t, pos, af, g⟩).run P w = .ok (.value v) w' := by
  subst hx
  simp [execOp, h]
theorem run_box {T : TypeId} (hx : ρ x = x1) (h : (Instr.box T x1).run P w = .ok v w') : (execOp ρ ⟨dst, .box T x, t, pos, af, g⟩).run P w = .ok (.value v) w' := by
  subst hx
  simp [execOp, h]
theorem run_bslice {T : TypeId} {n : Nat} {ps : Array (Nat × Operand)} (qs : Array (Nat × Value)) (hx : (ps.map fun p => (p.1, ρ p.2)) = qs) (h : (Instr.buildSlice T n qs).run P w = .ok v w') : (execOp ρ ⟨dst, .buildSlice T n ps, t, pos, af, g⟩).run P w = .ok (.value v) w' := by
  subst hx
  simp [execOp, h]
theorem run_build {T : TypeId} {ps : Array (Nat × Operand)} (qs : Array (Nat × Value)) (hx : (ps.map fun p => (p.1, ρ p.2)) = qs) (h : (Instr.build T qs).run P w = .ok v w') : (execOp ρ ⟨dst, .build T ps, t, pos, af, g⟩).run P w = .ok (.value v) w' := by
  subst hx
  simp [execOp, h]
theorem run_store {T : TypeId} (hx : ρ x = x1) (hy : ρ y = x2) (h : (Instr.storeAt T x1 x2).run P w = .ok () w') : (execOp ρ ⟨dst, .store T x y, t, pos, af, g⟩).run P w = .ok .skip w' := by
  subst hx hy
  simp [execOp, h]
theorem run_not {T : TypeId} {b : Bool} (hx : ρ x = .bool b) : (execOp ρ ⟨dst, .unOp .not T x, t, pos, af, g⟩).run P w = .ok (.value (.bool !b)) w := by
  simp [execOp, hx, go_sem]
theorem run_fieldAddr {T : TypeId} {f : Nat} (hx : ρ x = x1) (h : (Instr.fieldAt T x1 f).run P w = .ok v w') : (execOp ρ ⟨dst, .fieldAddr T x f, t, pos, af, g⟩).run P w = .ok (.value v) w' := by
  subst hx
  simp [execOp, h]
theorem run_field {T : TypeId} {f : Nat} (hx : ρ x = x1) (h : (Instr.field T x1 f).run P w = .ok v w') : (execOp ρ ⟨dst, .field T x f, t, pos, af, g⟩).run P w = .ok (.value v) w' := by
  subst hx
  simp [execOp, h]
theorem run_extract {f : Nat} (hx : ρ x = x1) (h : (Instr.extract x1 f).run P w = .ok v w') : (execOp ρ ⟨dst, .extract x f, t, pos, af, g⟩).run P w = .ok (.value v) w' := by
  subst hx
  simp [execOp, h]
theorem run_lookup {T : TypeId} {ok : Bool} (hx : ρ x = x1) (hy : ρ y = x2) (h : (Instr.lookup T x1 x2 ok).run P w = .ok v w') : (execOp ρ ⟨dst, .lookup T x y ok, t, pos, af, g⟩).run P w = .ok (.value v) w' := by
  subst hx hy
  simp [execOp, h]
theorem run_mapUpdate {T : TypeId} (hx : ρ x = x1) (hy : ρ y = x2) (hz : ρ z = x3) (h : (Instr.mapUpdate T x1 x2 x3).run P w = .ok () w') : (execOp ρ ⟨dst, .mapUpdate T x y z, t, pos, af, g⟩).run P w = .ok .skip w' := by
  subst hx hy hz
  simp [execOp, h]
theorem run_convert {s d : TypeId} (hx : ρ x = x1) (h : (convert s d x1).run P w = .ok v w') : (execOp ρ ⟨dst, .convert s d x, t, pos, af, g⟩).run P w = .ok (.value v) w' := by
  subst hx
  simp [execOp, h]
theorem run_indexAddr {T : TypeId} (hx : ρ x = x1) (hy : ρ y = x2) (h : (Instr.indexAt T x1 x2).run P w = .ok v w') : (execOp ρ ⟨dst, .indexAddr T x y, t, pos, af, g⟩).run P w = .ok (.value v) w' := by
  subst hx hy
  simp [execOp, h]
theorem run_nilCheck {ad : Addr} (hx : ρ x = .pointer (some ad)) : (execOp ρ ⟨dst, .nilCheck x, t, pos, af, g⟩).run P w = .ok (.value (.pointer (some ad))) w := by
  simp [execOp, hx]
end
end Go.Proofs.YtichklplcpkjdaaDoor
namespace Go.Proofs.YtichklplcpkjdaaDoor
open Go
set_option linter.unusedVariables false

def did (d : Nat → Bool) (i : Nat) : Nat → Bool := fun j => if j = i then true else d j
theorem did_at (d : Nat → Bool) (i : Nat) : did d i i = true := if_pos rfl
theorem did_ne (d : Nat → Bool) {i j : Nat} (h : j ≠ i) : did d i j = d j := if_neg h
theorem put1_at (u : Nat → Value) (i : Nat) (v : Value) : put1 u i v i = v := if_pos rfl
theorem put1_ne (u : Nat → Value) {i j : Nat} (v : Value) (h : j ≠ i) : put1 u i v j = u j := if_neg h
abbrev RJ := (Nat → Bool) → (Nat → Value) → World → Prop
/-- one operation's obligation -/
def JStep (P : Program) (a0 : Act) (D : List (Option Tmp)) (J : RJ) (i : Nat) (o : Oper) : Prop :=
  ∀ ρ d u w, Env a0 D ρ u → d i = false → (∀ j, waits .any o j = true → d j = true) → J d u w → match o.guard with
    | none => SWp P ρ o w (fun v w' => J (did d i) (put1 u i v) w')
    | some (g, b) => (u g = .bool b → SWp P ρ o w (fun v w' => J (did d i) (put1 u i v) w')) ∧ (u g ≠ .bool b → J (did d i) (put1 u i undef) w)
def JSteps (P : Program) (a0 : Act) (D : List (Option Tmp)) (J : RJ) : Nat → List Oper → Prop
  | _, [] => True
  | i, o :: l => JStep P a0 D J i o ∧ JSteps P a0 D J (i + 1) l
theorem JSteps.get {P : Program} {a0 : Act} {D : List (Option Tmp)} {J : RJ} : ∀ (l : List Oper) (k i : Nat) (o : Oper), JSteps P a0 D J k l → l[i]? = some o → JStep P a0 D J (k + i) o
  | [], k, i, o, _, h => by simp at h
  | x :: l, k, 0, o, hs, h => by
    simp at h
    subst h
    exact hs.1
  | x :: l, k, i + 1, o, hs, h => by
    have := JSteps.get l (k + 1) i o hs.2 (by simpa using h)
    rwa [show k + 1 + i = k + (i + 1) by omega] at this
theorem JStep.wpOp {P : Program} {L : List Oper} {Q : Exit → Act → World → Prop} {a0 : Act} {D : List (Option Tmp)} {J : RJ} {n i : Nat} {o : Oper} (hd : dstsOk L = true) (hD : L.map (·.dst) = D) (hn : a0.tmps.size = n) (hg : guardsIn n D L = true) (ho : L[i]? = some o)
    (h : JStep P a0 D J i o) {d : Nat → Bool} {u : Nat → Value} {w : World} (hdi : d i = false) (hw : ∀ j, waits .any o j = true → d j = true) (hJ : J d u w) :
    wpOp P L.toArray Q i (fun a' w' => ∃ v, a' = putAll L 0 (put1 u i v) a0 ∧ J (did d i) (put1 u i v) w') (putAll L 0 u a0) w := by
  have h1 := h _ d u w (hD ▸ env_of hd) hdi hw hJ
  have hput : ∀ v, (putAll L 0 u a0).put o.dst v = putAll L 0 (put1 u i v) a0 := fun v => by
    have := putAll_at L 0 i u a0 o v hd ho
    rwa [Nat.zero_add] at this
  cases hgd : o.guard with
  | none =>
    rw [hgd] at h1
    exact wpOp_plain (by simpa using ho) hgd (swp_wp h1 fun v w' hp => ⟨v, hput v, hp⟩)
  | some gb =>
    obtain ⟨g, b⟩ := gb
    rw [hgd] at h1
    have hgi := List.all_eq_true.1 hg o (List.mem_of_getElem? ho)
    rw [hgd] at hgi
    simp only at hgi
    obtain ⟨e, hDg, hdn⟩ : ∃ e, D[g]? = some (some e) ∧ e < n := by
      cases hDg : D[g]? with
      | none => rw [hDg] at hgi; cases hgi
      | some x =>
        cases x with
        | none => rw [hDg] at hgi; cases hgi
        | some e => rw [hDg] at hgi; exact ⟨e, rfl, of_decide_eq_true hgi⟩
    have hLg : (L[g]?).bind (·.dst) = some e := by
      rw [← hD, List.getElem?_map] at hDg
      cases hx : L[g]? with
      | none => rw [hx] at hDg; cases hDg
      | some x => rw [hx] at hDg; simpa using hDg
    have hy := yielded_is (u := u) (a := a0) g e b hd hLg (by rw [hn]; exact hdn)
    by_cases hb : u g = .bool b
    · exact wpOp_go (by simpa using ho) (by simp only [Region.wanted, hgd]; exact hy.2 hb) (swp_wp (h1.1 hb) fun v w' hp => ⟨v, hput v, hp⟩)
    · refine wpOp_not (by simpa using ho) ?_ ⟨undef, hput undef, h1.2 hb⟩
      simp only [Region.wanted, hgd]
      cases hz : (yielded L.toArray (putAll L 0 u a0).tmps g == some b) with
      | false => rfl
      | true => exact absurd (hy.1 hz) hb
theorem wp_region_J0 {P : Program} {Q : Exit → Act → World → Prop} {id : Nat} {l : List Oper} {a : Act} {w : World} (D : List (Option Tmp)) (n : Nat) (J : RJ)
    (hm : P.follows .mixedOrders = true) (hf : fwd .any 0 l = true) (hd : dstsOk l = true) (hD : l.map (·.dst) = D) (hg : guardsIn n D l = true) (hn : a.tmps.size = n) (hJ : J (fun _ => false) (held l a) w.drew)
    (hend : ∀ d u w', (∀ i, i < l.length → d i = true) → J d u w' → Q .normal (putAll l 0 u a) w')
    (hs : JSteps P a D J 0 l) : (Code.region id l.toArray true).wp P Q a w := by
  refine wp_region_any hm ?_
  refine wpAny_by (J := fun listed a' w => ∃ d u, (∀ i, i < l.length → d i = listed.getD i false) ∧ a' = putAll l 0 u a ∧ J d u w) ?_ ?_ ?_ _ _ _ _ (by simp) (by simp) ⟨fun _ => false, held l a, fun i hi => by simp [hi], ?_, hJ⟩
  · intro i o ho e he hb
    have := fwd_get l 0 i o hf (by simpa using ho) e he hb
    omega
  · rintro i o listed a' w ho hsz hun hdeps ⟨d, u, hdl, rfl, hJ'⟩
    have ho' : l[i]? = some o := by simpa using ho
    have hil : i < l.length := (List.getElem?_eq_some_iff.1 ho').1
    have hsz' : listed.size = l.length := by simpa using hsz
    have hst := JSteps.get l 0 i o hs ho'
    rw [Nat.zero_add] at hst
    have hlt : i < listed.size := by omega
    have hdi : d i = false := by
      rw [hdl i hil]
      simp [hlt] at hun ⊢
      exact hun
    refine wpOp_mono ?_ (hst.wpOp (Q := Q) hd hD hn hg ho' hdi (fun j hj => ?_) hJ')
    · rintro a'' w' ⟨v, rfl, hJ2⟩
      refine ⟨did d i, put1 u i v, fun j hj => ?_, rfl, hJ2⟩
      by_cases e : j = i
      · subst e; rw [did_at]; simp [hlt]
      · have hjl : j < listed.size := by omega
        rw [did_ne d e, hdl j hj]
        simp [hjl, Ne.symm e]
    · unfold waits at hj
      obtain ⟨e, he, hb⟩ := Array.any_eq_true'.1 hj
      simp only [Bool.and_eq_true, beq_iff_eq] at hb
      obtain ⟨hb, rfl⟩ := hb
      have h1 := hdeps e he hb
      have hel : e.on < l.length := by
        have := fwd_get l 0 i o hf ho' e he hb
        omega
      rw [hdl e.on hel]
      exact h1
  · rintro listed a' w hsz hall ⟨d, u, hdl, rfl, hJ'⟩
    exact hend d u w (fun i hi => by rw [hdl i hi]; exact hall i (by simpa using hi)) hJ'
  · exact (putAll_self l 0 _ a (fun i o ho => by
      rw [Nat.zero_add]
      cases hdst : o.dst with
      | none => rfl
      | some d =>
        have : held l a i = a.tmps.getD d undef := by simp [held, ho, hdst]
        rw [this]
        exact put_held a d)).symm
theorem wp_region_J {P : Program} {Q : Exit → Act → World → Prop} {id : Nat} {l : List Oper} {a : Act} {w : World} (D : List (Option Tmp)) (n : Nat) (J : RJ)
    (hm : P.follows .mixedOrders = true) (hf : fwd .any 0 l = true) (hd : dstsOk l = true) (hD : l.map (·.dst) = D) (hg : guardsIn n D l = true) (hn : a.tmps.size = n) (hJ : ∀ u, J (fun _ => false) u w.drew)
    (hend : ∀ d u w', (∀ i, i < l.length → d i = true) → J d u w' → Q .normal (putAll l 0 u a) w')
    (hs : JSteps P a D J 0 l) : (Code.region id l.toArray true).wp P Q a w := wp_region_J0 D n J hm hf hd hD hg hn (hJ _) hend hs
section
variable {P : Program} {a0 : Act} {D : List (Option Tmp)} {J : RJ} {i : Nat} {o : Oper}
theorem JStep.plain (hg : o.guard = none) (h : ∀ ρ d u w, Env a0 D ρ u → d i = false → (∀ j, waits .any o j = true → d j = true) → J d u w → SWp P ρ o w (fun v w' => J (did d i) (put1 u i v) w')) : JStep P a0 D J i o := by
  intro ρ d u w he hd hw hJ
  rw [hg]
  exact h ρ d u w he hd hw hJ
end
end Go.Proofs.YtichklplcpkjdaaDoor
namespace Go.Proofs.YtichklplcpkjdaaDoor
open Go.RowKit
set_option linter.unusedVariables false

section
variable {P : Program} {ρ : Operand → Value} {w w' : World} {dst : Option Tmp} {t : TypeId} {pos : String} {af : Array Edge} {g : Option (Nat × Bool)} {v x1 x2 x3 : Value} {x y z : Operand}
theorem run_bin {op : BinOp} {T U : TypeId} (hx : ρ x = x1) (hy : ρ y = x2) (he : (eqGuard op T x y x1 x2).run P w = .ok () w) (h : (binOp op T x1 x2).run P w = .ok v w') : (execOp ρ ⟨dst, .binOp op T x y U, t, pos, af, g⟩).run P w = .ok (.value v) w' := by
  subst hx hy
  simp [execOp, he, h]
theorem run_index {T : TypeId} (hx : ρ x = x1) (hy : ρ y = x2) (h : (Instr.index T x1 x2).run P w = .ok v w') : (execOp ρ ⟨dst, .index T x y, t, pos, af, g⟩).run P w = .ok (.value v) w' := by
  subst hx hy
  simp [execOp, h]
theorem run_app {T U : TypeId} (hx : ρ x = x1) (hy : ρ y = x2) (h : (Builtin.append_ #[T, U] t #[x1, x2]).run P w = .ok v w') : (execOp ρ ⟨dst, .call { callee := .builtin .append, args := #[x, y], argTypes := #[T, U] }, t, pos, af, g⟩).run P w = .ok (.value v) w' := by
  subst hx hy
  simp [execOp, resolve, invoke, builtin, h]
end
/-- what a region that ends in an append knows: V says what single operations yield, kC takes the slice vs, kB makes the row to be appended, kA appends, kS lays the new slice down -/
structure AppJ (W0 : World) (ob : Obj) (R : Value → World → Prop) (V : Nat → Value → Prop) (vs : Value) (kC kB kA kS : Nat) (d : Nat → Bool) (u : Nat → Value) (W : World) : Prop where
  vals : ∀ i, d i = true → i ≠ kA → i ≠ kS → V i (u i)
  w0 : d kB = false → W = W0
  w1 : d kB = true → d kA = false → W = W0.alloc ob
  w2 : d kA = true → R (u kA) W
  w3 : d kS = true → u kS = u kA
  s0 : d kS = false → u kS = vs
  ba : d kA = true → d kB = true
  sa : d kS = true → d kA = true
  ca : d kA = true → d kC = true
section
variable {W0 : World} {ob : Obj} {R : Value → World → Prop} {V : Nat → Value → Prop} {vs : Value} {kC kB kA kS : Nat} {d : Nat → Bool} {u : Nat → Value} {W W' : World}
theorem did_mono {d : Nat → Bool} (i : Nat) {j : Nat} (h : d j = true) : did d i j = true := by
  unfold did
  split
  · rfl
  · exact h
theorem AppJ.old (h : AppJ W0 ob R V vs kC kB kA kS d u W) (hd : d kC = false) : u kS = vs := by
  refine h.s0 ?_
  cases hk : d kS with
  | false => rfl
  | true => have := h.ca (h.sa hk); rw [hd] at this; cases this
theorem AppJ.pure (h : AppJ W0 ob R V vs kC kB kA kS d u W) (i : Nat) {v : Value} (hB : i ≠ kB) (hA : i ≠ kA) (hS : i ≠ kS) (hv : V i v) : AppJ W0 ob R V vs kC kB kA kS (did d i) (put1 u i v) W := by
  refine ⟨fun j hj hjA hjS => ?_, fun hj => h.w0 (by rwa [did_ne d (Ne.symm hB)] at hj), fun hj hj2 => h.w1 (by rwa [did_ne d (Ne.symm hB)] at hj) (by rwa [did_ne d (Ne.symm hA)] at hj2), fun hj => ?_, fun hj => ?_, fun hj => ?_, fun hj => ?_, fun hj => ?_, fun hj => ?_⟩
  · by_cases e : j = i
    · subst e; rw [put1_at]; exact hv
    · rw [put1_ne u v e]; exact h.vals j (by rwa [did_ne d e] at hj) hjA hjS
  · rw [put1_ne u v (Ne.symm hA)]; exact h.w2 (by rwa [did_ne d (Ne.symm hA)] at hj)
  · rw [put1_ne u v (Ne.symm hA), put1_ne u v (Ne.symm hS)]; exact h.w3 (by rwa [did_ne d (Ne.symm hS)] at hj)
  · rw [put1_ne u v (Ne.symm hS)]; exact h.s0 (by rwa [did_ne d (Ne.symm hS)] at hj)
  · exact did_mono _ (h.ba (by rwa [did_ne d (Ne.symm hA)] at hj))
  · exact did_mono _ (h.sa (by rwa [did_ne d (Ne.symm hS)] at hj))
  · exact did_mono _ (h.ca (by rwa [did_ne d (Ne.symm hA)] at hj))
theorem AppJ.make (h : AppJ W0 ob R V vs kC kB kA kS d u W) {v : Value} (hAB : kB ≠ kA) (hSB : kB ≠ kS) (hd : d kB = false) (hv : V kB v) : AppJ W0 ob R V vs kC kB kA kS (did d kB) (put1 u kB v) (W0.alloc ob) := by
  have hA : d kA = false := by
    cases hk : d kA with
    | false => rfl
    | true => have := h.ba hk; rw [hd] at this; cases this
  refine ⟨fun j hj hjA hjS => ?_, fun hj => (by rw [did_at] at hj; cases hj), fun _ _ => rfl, fun hj => (by rw [did_ne d (Ne.symm hAB), hA] at hj; cases hj), fun hj => ?_, fun hj => ?_, fun hj => did_at d kB, fun hj => did_mono _ (h.sa (by rwa [did_ne d (Ne.symm hSB)] at hj)), fun hj => did_mono _ (h.ca (by rwa [did_ne d (Ne.symm hAB)] at hj))⟩
  · by_cases e : j = kB
    · subst e; rw [put1_at]; exact hv
    · rw [put1_ne u v e]; exact h.vals j (by rwa [did_ne d e] at hj) hjA hjS
  · rw [put1_ne u v (Ne.symm hAB), put1_ne u v (Ne.symm hSB)]; exact h.w3 (by rwa [did_ne d (Ne.symm hSB)] at hj)
  · rw [put1_ne u v (Ne.symm hSB)]; exact h.s0 (by rwa [did_ne d (Ne.symm hSB)] at hj)
theorem AppJ.app (h : AppJ W0 ob R V vs kC kB kA kS d u W) {v : Value} (hAB : kA ≠ kB) (hSA : kA ≠ kS) (hB : d kB = true) (hC : d kC = true) (hA : d kA = false) (hR : R v W') : AppJ W0 ob R V vs kC kB kA kS (did d kA) (put1 u kA v) W' := by
  have hS : d kS = false := by
    cases hk : d kS with
    | false => rfl
    | true => have := h.sa hk; rw [hA] at this; cases this
  refine ⟨fun j hj hjA hjS => ?_, fun hj => (by rw [did_ne d (Ne.symm hAB), hB] at hj; cases hj), fun _ hj => (by rw [did_at] at hj; cases hj), fun _ => (by rw [put1_at]; exact hR), fun hj => ?_, fun hj => ?_, fun _ => did_mono _ hB, fun _ => did_at d kA, fun _ => did_mono _ hC⟩
  · rw [put1_ne u v hjA]; exact h.vals j (by rwa [did_ne d hjA] at hj) hjA hjS
  · rw [did_ne d (Ne.symm hSA), hS] at hj; cases hj
  · rw [put1_ne u v (Ne.symm hSA)]; exact h.s0 hS
theorem AppJ.lay (h : AppJ W0 ob R V vs kC kB kA kS d u W) (hAS : kS ≠ kA) (hBS : kS ≠ kB) (hA : d kA = true) : AppJ W0 ob R V vs kC kB kA kS (did d kS) (put1 u kS (u kA)) W := by
  refine ⟨fun j hj hjA hjS => ?_, fun hj => h.w0 (by rwa [did_ne d (Ne.symm hBS)] at hj), fun hj hj2 => h.w1 (by rwa [did_ne d (Ne.symm hBS)] at hj) (by rwa [did_ne d (Ne.symm hAS)] at hj2), fun hj => ?_, fun hj => ?_, fun hj => (by rw [did_at] at hj; cases hj), fun hj => did_mono _ (h.ba hA), fun hj => did_mono _ hA, fun hj => did_mono _ (h.ca hA)⟩
  · rw [put1_ne u _ hjS]; exact h.vals j (by rwa [did_ne d hjS] at hj) hjA hjS
  · rw [put1_ne u _ (Ne.symm hAS)]; exact h.w2 hA
  · rw [put1_ne u _ (Ne.symm hAS), put1_at]
/-- what holds of the three worlds holds of this one -/
theorem AppJ.inv (h : AppJ W0 ob R V vs kC kB kA kS d u W) {I : World → Prop} (h0 : I W0) (h1 : I (W0.alloc ob)) (h2 : ∀ v W, R v W → I W) : I W := by
  cases hB : d kB with
  | false => rw [h.w0 hB]; exact h0
  | true =>
    cases hA : d kA with
    | false => rw [h.w1 hB hA]; exact h1
    | true => exact h2 _ _ (h.w2 hA)
end
end Go.Proofs.YtichklplcpkjdaaDoor
namespace Go.Proofs.YtichklplcpkjdaaDoor
open Go
set_option linter.unusedVariables false

/-- what has been done is closed under what an operation waits for -/
def Closed (l : List Oper) (d : Nat → Bool) : Prop := ∀ i o j, l[i]? = some o → waits .any o j = true → d i = true → d j = true
def pathOk (l : List Oper) : Nat → List Nat → Bool
  | _, [] => true
  | i, j :: p => (match l[i]? with | some o => waits .any o j | none => false) && pathOk l j p
theorem Closed.path {l : List Oper} {d : Nat → Bool} (h : Closed l d) : ∀ (i : Nat) (p : List Nat), pathOk l i p = true → d i = true → ∀ j, p.getLast? = some j → d j = true
  | i, [], _, hi, j, hj => by simp at hj
  | i, [k], hp, hi, j, hj => by
    simp at hj
    subst hj
    simp only [pathOk, Bool.and_eq_true] at hp
    cases ho : l[i]? with
    | none => rw [ho] at hp; cases hp.1
    | some o => rw [ho] at hp; exact h i o k ho hp.1 hi
  | i, k :: k2 :: p, hp, hi, j, hj => by
    rw [pathOk, Bool.and_eq_true] at hp
    have hk : d k = true := by
      cases ho : l[i]? with
      | none => rw [ho] at hp; cases hp.1
      | some o => rw [ho] at hp; exact h i o k ho hp.1 hi
    exact Closed.path h k (k2 :: p) hp.2 hk j (by simpa using hj)
/-- what waits, by a path, for what is not done, is not done -/
theorem Closed.notyet {l : List Oper} {d : Nat → Bool} (h : Closed l d) {i j : Nat} (p : List Nat) (hp : pathOk l i p = true) (hj : p.getLast? = some j) (hd : d j = false) : d i = false := by
  cases hi : d i with
  | false => rfl
  | true => have := h.path i p hp hi j hj; rw [hd] at this; cases this
/-- one operation's obligation -/
def KStep (P : Program) (a0 : Act) (D : List (Option Tmp)) (L : List Oper) (J : RJ) (i : Nat) (o : Oper) : Prop :=
  ∀ ρ d u w, Env a0 D ρ u → Closed L d → d i = false → (∀ j, waits .any o j = true → d j = true) → J d u w → match o.guard with
    | none => SWp P ρ o w (fun v w' => J (did d i) (put1 u i v) w')
    | some (g, b) => (u g = .bool b → SWp P ρ o w (fun v w' => J (did d i) (put1 u i v) w')) ∧ (u g ≠ .bool b → J (did d i) (put1 u i undef) w)
def KSteps (P : Program) (a0 : Act) (D : List (Option Tmp)) (L : List Oper) (J : RJ) : Nat → List Oper → Prop
  | _, [] => True
  | i, o :: l => KStep P a0 D L J i o ∧ KSteps P a0 D L J (i + 1) l
theorem swp_mono {P : Program} {ρ : Operand → Value} {o : Oper} {w : World} {p q : Value → World → Prop} (h : SWp P ρ o w p) (hq : ∀ v w', p v w' → q v w') : SWp P ρ o w q := by
  unfold SWp at h ⊢
  split at h
  · exact hq _ _ h
  · exact hq _ _ h
  · refine h.mono fun e w'' he => ?_
    obtain ⟨v, hv, hp⟩ := he
    exact ⟨v, hv, hq _ _ hp⟩
  · exact absurd h id
theorem KSteps.jsteps {P : Program} {a0 : Act} {D : List (Option Tmp)} {L : List Oper} {J : RJ} : ∀ (l : List Oper) (k : Nat), (∀ i o, l[i]? = some o → L[k + i]? = some o) → KSteps P a0 D L J k l → JSteps P a0 D (fun d u W => Closed L d ∧ J d u W) k l
  | [], _, _, _ => trivial
  | o :: l, k, hl, h => by
    refine ⟨fun ρ d u w he hdi hw hJ => ?_, KSteps.jsteps l (k + 1) (fun i o' ho => by rw [show k + 1 + i = k + (i + 1) by omega]; exact hl (i + 1) o' (by simpa using ho)) h.2⟩
    have hk : L[k]? = some o := by simpa using hl 0 o rfl
    have hcl : Closed L (did d k) := by
      intro i o' j ho hwt hi
      by_cases e : i = k
      · subst e
        rw [hk] at ho
        cases ho
        exact did_mono _ (hw j hwt)
      · rw [did_ne d e] at hi
        exact did_mono _ (hJ.1 i o' j ho hwt hi)
    have h1 := h.1 ρ d u w he hJ.1 hdi hw hJ.2
    cases hgd : o.guard with
    | none =>
      rw [hgd] at h1
      exact swp_mono h1 fun v w' hp => ⟨hcl, hp⟩
    | some gb =>
      obtain ⟨g, b⟩ := gb
      rw [hgd] at h1
      exact ⟨fun hb => swp_mono (h1.1 hb) fun v w' hp => ⟨hcl, hp⟩, fun hb => ⟨hcl, h1.2 hb⟩⟩
theorem wp_region_K {P : Program} {Q : Exit → Act → World → Prop} {id : Nat} {l : List Oper} {a : Act} {w : World} (D : List (Option Tmp)) (n : Nat) (J : RJ)
    (hm : P.follows .mixedOrders = true) (hf : fwd .any 0 l = true) (hd : dstsOk l = true) (hD : l.map (·.dst) = D) (hg : guardsIn n D l = true) (hn : a.tmps.size = n) (hJ : J (fun _ => false) (held l a) w.drew)
    (hend : ∀ d u w', (∀ i, i < l.length → d i = true) → J d u w' → Q .normal (putAll l 0 u a) w')
    (hs : KSteps P a D l J 0 l) : (Code.region id l.toArray true).wp P Q a w :=
  wp_region_J0 D n (fun d u W => Closed l d ∧ J d u W) hm hf hd hD hg hn ⟨fun _ _ _ _ _ h => (by cases h), hJ⟩ (fun d u w' hall hJ' => hend d u w' hall hJ'.2) (KSteps.jsteps l 0 (fun i o ho => by simpa using ho) hs)
theorem nodup_inj : ∀ {l : List Nat}, l.Nodup → ∀ {i j : Nat} (hi : i < l.length) (hj : j < l.length), l[i] = l[j] → i = j
  | [], _, i, j, hi, _, _ => absurd hi (by simp)
  | x :: l, hu, 0, 0, _, _, _ => rfl
  | x :: l, hu, 0, j + 1, hi, hj, h => by
    have := (List.nodup_cons.1 hu).1
    simp at h
    exact absurd (h ▸ List.getElem_mem _) this
  | x :: l, hu, i + 1, 0, hi, hj, h => by
    have := (List.nodup_cons.1 hu).1
    simp at h
    exact absurd (h ▸ List.getElem_mem _) this
  | x :: l, hu, i + 1, j + 1, hi, hj, h => by
    have := nodup_inj (List.nodup_cons.1 hu).2 (by simpa using hi) (by simpa using hj) (by simpa using h)
    omega
/-- a chain ks of operations that write, by stages S; the others reckon alone, V says what; O says what stands where an operation is not done -/
structure CJ (V O : Nat → Value → Prop) (ks : List Nat) (S : Nat → List Value → World → Prop) (d : Nat → Bool) (u : Nat → Value) (W : World) : Prop where
  vals : ∀ i, d i = true → V i (u i)
  olds : ∀ i, d i = false → O i (u i)
  chain : ∃ n, (∀ i k, ks[i]? = some k → (d k = true ↔ i < n)) ∧ S n (ks.map u) W
section
variable {P : Program} {a0 : Act} {D : List (Option Tmp)} {L : List Oper} {J : RJ} {V O : Nat → Value → Prop} {ks : List Nat} {S : Nat → List Value → World → Prop} {d : Nat → Bool} {u : Nat → Value} {W W' : World} {i : Nat} {o : Oper} {v : Value}
theorem KStep.plain (hg : o.guard = none) (h : ∀ ρ d u w, Env a0 D ρ u → Closed L d → d i = false → (∀ j, waits .any o j = true → d j = true) → J d u w → SWp P ρ o w (fun v w' => J (did d i) (put1 u i v) w')) : KStep P a0 D L J i o := by
  intro ρ d u w he hc hd hw hJ
  rw [hg]
  exact h ρ d u w he hc hd hw hJ
theorem KStep.on (g : Nat) (b : Bool) (hg : o.guard = some (g, b)) (h : ∀ ρ d u w, Env a0 D ρ u → Closed L d → d i = false → (∀ j, waits .any o j = true → d j = true) → J d u w → (u g = .bool b → SWp P ρ o w (fun v w' => J (did d i) (put1 u i v) w')) ∧ (u g ≠ .bool b → J (did d i) (put1 u i undef) w)) : KStep P a0 D L J i o := by
  intro ρ d u w he hc hd hw hJ
  rw [hg]
  exact h ρ d u w he hc hd hw hJ
theorem KStep.gd (g : Nat) (b : Bool) (hg : o.guard = some (g, b)) (hw : waits .any o g = true) (hv : ∀ d u W, J d u W → d g = true → u g = .bool b) (h : ∀ ρ d u w, Env a0 D ρ u → Closed L d → d i = false → (∀ j, waits .any o j = true → d j = true) → J d u w → SWp P ρ o w (fun v w' => J (did d i) (put1 u i v) w')) : KStep P a0 D L J i o := by
  intro ρ d u w he hc hd hwt hJ
  rw [hg]
  exact ⟨fun _ => h ρ d u w he hc hd hwt hJ, fun hne => absurd (hv d u w hJ (hwt g hw)) hne⟩
theorem CJ.start (hO : ∀ i, O i (u i)) (hS : S 0 (ks.map u) W) : CJ V O ks S (fun _ => false) u W :=
  ⟨fun i h => (by cases h), fun i _ => hO i, 0, fun i k _ => ⟨fun h => (by cases h), fun h => absurd h (by omega)⟩, hS⟩
theorem CJ.fill (h : CJ V O ks S d u W) (i : Nat) (hv : V i v) : (∀ j, did d i j = true → V j (put1 u i v j)) ∧ (∀ j, did d i j = false → O j (put1 u i v j)) := by
  refine ⟨fun j hj => ?_, fun j hj => ?_⟩
  · by_cases e : j = i
    · subst e; rw [put1_at]; exact hv
    · rw [put1_ne u v e]; exact h.vals j (by rwa [did_ne d e] at hj)
  · by_cases e : j = i
    · subst e; rw [did_at] at hj; cases hj
    · rw [put1_ne u v e]; exact h.olds j (by rwa [did_ne d e] at hj)
theorem CJ.pure (h : CJ V O ks S d u W) (i : Nat) (hi : ks.contains i = false) (hv : V i v) : CJ V O ks S (did d i) (put1 u i v) W := by
  obtain ⟨h1, h2⟩ := h.fill i hv
  obtain ⟨n, hn, hS⟩ := h.chain
  have hne : ∀ k ∈ ks, k ≠ i := fun k hk e => by
    subst e
    have : ks.contains k = true := by rw [List.contains_iff_mem]; exact hk
    rw [hi] at this
    cases this
  refine ⟨h1, h2, n, fun j k hk => ?_, ?_⟩
  · rw [did_ne d (hne k (List.mem_of_getElem? hk))]
    exact hn j k hk
  · rw [show ks.map (put1 u i v) = ks.map u from List.map_congr_left fun k hk => put1_ne u v (hne k hk)]
    exact hS
/-- the stage at a chain's operation -/
theorem CJ.at_ (h : CJ V O ks S d u W) (m : Nat) {k : Nat} (hk : ks[m]? = some k) (hd : d k = false) (hb : ∀ j, m = j + 1 → ∃ k', ks[j]? = some k' ∧ d k' = true) : S m (ks.map u) W := by
  obtain ⟨n, hn, hS⟩ := h.chain
  have h1 : ¬ m < n := fun hlt => by have := (hn m k hk).2 hlt; rw [hd] at this; cases this
  have h2 : m ≤ n := by
    cases m with
    | zero => omega
    | succ m =>
      obtain ⟨k', hk', hd'⟩ := hb m rfl
      have := (hn m k' hk').1 hd'
      omega
  have : n = m := by omega
  subst this
  exact hS
/-- where all is done, the last stage -/
theorem CJ.fin (h : CJ V O ks S d u W) (m : Nat) (hl : ks.length = m) (hd : ∀ k ∈ ks, d k = true) (hN : ∀ n l W, S n l W → n ≤ m) : S m (ks.map u) W := by
  obtain ⟨n, hn, hS⟩ := h.chain
  have hle := hN n _ _ hS
  have : n = m := by
    rcases Nat.lt_or_ge n m with hlt | hge
    · have hk : ks[n]? = some ks[n] := List.getElem?_eq_getElem (by omega)
      have := (hn n _ hk).1 (hd _ (List.getElem_mem _))
      omega
    · omega
  subst this
  exact hS
theorem CJ.go (h : CJ V O ks S d u W) (m : Nat) {k : Nat} (hk : ks[m]? = some k) (hd : d k = false) (hu : ks.Nodup) (hb : ∀ j, m = j + 1 → ∃ k', ks[j]? = some k' ∧ d k' = true) (hv : V k v) (hS : S (m + 1) (ks.map (put1 u k v)) W') : CJ V O ks S (did d k) (put1 u k v) W' := by
  obtain ⟨h1, h2⟩ := h.fill k hv
  obtain ⟨n, hn, hSn⟩ := h.chain
  have e1 : ¬ m < n := fun hlt => by have := (hn m k hk).2 hlt; rw [hd] at this; cases this
  have e2 : m ≤ n := by
    cases m with
    | zero => omega
    | succ m =>
      obtain ⟨k', hk', hd'⟩ := hb m rfl
      have := (hn m k' hk').1 hd'
      omega
  have : n = m := by omega
  subst this
  refine ⟨h1, h2, n + 1, fun j k2 hk2 => ?_, hS⟩
  by_cases e : k2 = k
  · subst e
    rw [did_at]
    have : j = n := by
      have hj := (List.getElem?_eq_some_iff.1 hk2)
      have hm := (List.getElem?_eq_some_iff.1 hk)
      exact nodup_inj hu hj.1 hm.1 (hj.2.trans hm.2.symm)
    simp [this]
  · rw [did_ne d e, hn j k2 hk2]
    refine ⟨fun h => by omega, fun h => ?_⟩
    rcases Nat.lt_or_ge j n with hl | hl
    · exact hl
    · have : j = n := by omega
      subst this
      rw [hk] at hk2
      exact absurd (Option.some.inj hk2).symm e
theorem CJ.inv (h : CJ V O ks S d u W) {I : World → Prop} (hI : ∀ n l W, S n l W → I W) : I W := by
  obtain ⟨n, _, hS⟩ := h.chain
  exact hI n _ W hS
end
end Go.Proofs.YtichklplcpkjdaaDoor
