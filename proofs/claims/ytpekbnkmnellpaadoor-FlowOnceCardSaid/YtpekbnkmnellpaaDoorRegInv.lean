/-
  A region that draws its order, by one obligation an operation: what each operation yields is said by V, whatever order is picked.
-/
import Derived.Orders
import Derived.WalkKit
namespace Go.Proofs.YtpekbnkmnellpaaDoor
open Go
set_option linter.unusedVariables false

theorem count_set_true : ∀ (l : List Bool) (i : Nat), l[i]? = some false → (l.set i true).count false + 1 = l.count false
  | [], i, h => by simp at h
  | b :: l, 0, h => by
    simp at h
    subst h
    simp
  | b :: l, i + 1, h => by
    have ih := count_set_true l i (by simpa using h)
    cases b <;> simp <;> omega
theorem least_false (listed : Array Bool) (n : Nat) (hn : listed.size = n) (h : ∃ i, i < n ∧ listed.getD i true = false) : ∃ i, i < n ∧ listed.getD i true = false ∧ ∀ j, j < i → listed.getD j false = true := by
  obtain ⟨i, hi, hf⟩ := h
  induction i using Nat.strongRecOn with
  | ind i ih =>
    by_cases hex : ∃ j, j < i ∧ listed.getD j false = false
    · obtain ⟨j, hj, hjf⟩ := hex
      refine ih j hj (by omega) ?_
      have hlt : j < listed.size := by omega
      simp [hlt] at hjf ⊢
      exact hjf
    · refine ⟨i, hi, hf, fun j hj => ?_⟩
      cases hb : listed.getD j false with
      | true => rfl
      | false => exact absurd ⟨j, hj, hb⟩ hex
section
variable {P : Program} {md : Region.Mode} {ops : Array Oper} {Q : Exit → Act → World → Prop}
theorem wpAny_by (J : Array Bool → Act → World → Prop)
    (hf : ∀ i o, ops[i]? = some o → ∀ e ∈ o.after, Region.binds md e = true → e.on < i)
    (hstep : ∀ i o listed a w, ops[i]? = some o → listed.size = ops.size → listed.getD i true = false → (∀ e ∈ o.after, Region.binds md e = true → listed.getD e.on false = true) → J listed a w → wpOp P ops Q i (J (listed.setIfInBounds i true)) a w)
    (hend : ∀ listed a w, listed.size = ops.size → (∀ i, i < ops.size → listed.getD i false = true) → J listed a w → Q .normal a w) :
    ∀ (fuel : Nat) (listed : Array Bool) (a : Act) (w : World), listed.size = ops.size → listed.toList.count false ≤ fuel → J listed a w → wpAny P md ops Q fuel listed a w := by
  have hready : ∀ listed : Array Bool, listed.size = ops.size → Region.ready md ops listed = [] → ∀ i, i < ops.size → listed.getD i false = true := fun listed hs hr i hi => by
    cases hb : listed.getD i false with
    | true => rfl
    | false =>
      have hlt : i < listed.size := by omega
      obtain ⟨k, hk, hkf, hall⟩ := least_false listed ops.size hs ⟨i, hi, by simp [hlt] at hb ⊢; exact hb⟩
      have hm : k ∈ Region.ready md ops listed := mem_ready.2 ⟨hkf, ops[k], Array.getElem?_eq_getElem hk, fun e he hb => hall _ (hf k _ (Array.getElem?_eq_getElem hk) e he hb)⟩
      rw [hr] at hm
      cases hm
  intro fuel
  induction fuel with
  | zero =>
    intro listed a w hs hc hJ
    have hall : ∀ i, i < ops.size → listed.getD i false = true := fun i hi => by
      have hlt : i < listed.size := by omega
      cases hb : listed[i] with
      | true => simp [hlt, hb]
      | false =>
        have : false ∈ listed.toList := by
          rw [← hb]
          simp
        have := List.count_pos_iff.2 this
        omega
    refine ⟨?_, hend listed a w hs hall hJ⟩
    cases hr : Region.ready md ops listed with
    | nil => rfl
    | cons x xs =>
      have hm : x ∈ Region.ready md ops listed := by rw [hr]; simp
      obtain ⟨hx, o, ho, _⟩ := mem_ready.1 hm
      have hlt : x < ops.size := (Array.getElem?_eq_some_iff.1 ho).1
      have h1 := hall x hlt
      have hlt' : x < listed.size := by omega
      simp [hlt'] at hx h1
      rw [hx] at h1
      cases h1
  | succ fuel ih =>
    intro listed a w hs hc hJ
    refine ⟨fun hr => hend listed a w hs (hready listed hs hr) hJ, fun i hi => ?_⟩
    obtain ⟨hx, o, ho, hall⟩ := mem_ready.1 hi
    have hlt : i < ops.size := (Array.getElem?_eq_some_iff.1 ho).1
    refine wpOp_mono (fun a' w' h' => ih _ a' w' (by simpa using hs) ?_ h') (hstep i o listed a w ho hs hx hall hJ)
    have hlt' : i < listed.size := by omega
    have hli : listed.toList[i]? = some false := by
      simp [hlt'] at hx
      simp [hlt', hx]
    have := count_set_true listed.toList i hli
    simp only [Array.toList_setIfInBounds]
    omega
/-- does operation o wait for operation j? -/
def waits (md : Region.Mode) (o : Oper) (j : Nat) : Bool := o.after.any fun e => Region.binds md e && e.on == j
def put1 (u : Nat → Value) (i : Nat) (v : Value) : Nat → Value := fun j => if j = i then v else u j
/-- one operation's obligation -/
def RStep (P : Program) (ops : Array Oper) (Q : Exit → Act → World → Prop) (F : (Nat → Value) → Act) (V : Nat → Value → World → Prop) (I : World → Prop) (E : World → World → Prop) (i : Nat) (o : Oper) : Prop :=
  ∀ u w, I w → (∀ j, waits .any o j = true → V j (u j) w) → wpOp P ops Q i (fun a' w' => ∃ v, a' = F (put1 u i v) ∧ I w' ∧ E w w' ∧ V i v w') (F u) w
def RSteps (P : Program) (ops : Array Oper) (Q : Exit → Act → World → Prop) (F : (Nat → Value) → Act) (V : Nat → Value → World → Prop) (I : World → Prop) (E : World → World → Prop) : Nat → List Oper → Prop
  | _, [] => True
  | i, o :: l => RStep P ops Q F V I E i o ∧ RSteps P ops Q F V I E (i + 1) l
def fwd (md : Region.Mode) : Nat → List Oper → Bool
  | _, [] => true
  | i, o :: l => (o.after.all fun e => !Region.binds md e || decide (e.on < i)) && fwd md (i + 1) l
theorem RSteps.get {F : (Nat → Value) → Act} {V : Nat → Value → World → Prop} {I : World → Prop} {E : World → World → Prop} : ∀ (l : List Oper) (k i : Nat) (o : Oper), RSteps P ops Q F V I E k l → l[i]? = some o → RStep P ops Q F V I E (k + i) o
  | [], k, i, o, _, h => by simp at h
  | x :: l, k, 0, o, hs, h => by
    simp at h
    subst h
    exact hs.1
  | x :: l, k, i + 1, o, hs, h => by
    have := RSteps.get l (k + 1) i o hs.2 (by simpa using h)
    rwa [show k + 1 + i = k + (i + 1) by omega] at this
theorem fwd_get : ∀ (l : List Oper) (k i : Nat) (o : Oper), fwd md k l = true → l[i]? = some o → ∀ e ∈ o.after, Region.binds md e = true → e.on < k + i
  | [], k, i, o, _, h => by simp at h
  | x :: l, k, 0, o, hs, h => by
    simp at h
    subst h
    intro e he hb
    simp only [fwd, Bool.and_eq_true] at hs
    have := Array.all_eq_true'.1 hs.1 e he
    simpa [hb] using this
  | x :: l, k, i + 1, o, hs, h => by
    simp only [fwd, Bool.and_eq_true] at hs
    have := fwd_get l (k + 1) i o hs.2 (by simpa using h)
    rwa [show k + 1 + i = k + (i + 1) by omega] at this
end
theorem wp_region_inv {P : Program} {Q : Exit → Act → World → Prop} {id : Nat} {l : List Oper} {a : Act} {w : World} (F : (Nat → Value) → Act) (V : Nat → Value → World → Prop) (I : World → Prop) (E : World → World → Prop) (u0 : Nat → Value)
    (hm : P.follows .mixedOrders = true) (hf : fwd .any 0 l = true) (ha : a = F u0) (hI : I w.drew)
    (hmono : ∀ w w' j v, I w → I w' → E w w' → V j v w → V j v w')
    (hs : RSteps P l.toArray Q F V I E 0 l)
    (hend : ∀ u w', I w' → (∀ i, i < l.length → V i (u i) w') → Q .normal (F u) w') : (Code.region id l.toArray true).wp P Q a w := by
  refine wp_region_any hm ?_
  refine wpAny_by (J := fun listed a w => ∃ u, a = F u ∧ I w ∧ ∀ i, listed.getD i false = true → V i (u i) w) ?_ ?_ ?_ _ _ _ _ (by simp) (by simp) ⟨u0, ha, hI, ?_⟩
  · intro i o ho e he hb
    have := fwd_get l 0 i o hf (by simpa using ho) e he hb
    omega
  · rintro i o listed a w ho hsz hun hdeps ⟨u, rfl, hIw, hV⟩
    have hst := RSteps.get l 0 i o hs (by simpa using ho)
    rw [Nat.zero_add] at hst
    refine wpOp_mono ?_ (hst u w hIw fun j hj => ?_)
    · rintro a' w' ⟨v, rfl, hI', hE, hv⟩
      refine ⟨_, rfl, hI', fun j hj => ?_⟩
      unfold put1
      by_cases e : j = i
      · subst e; rw [if_pos rfl]; exact hv
      · rw [if_neg e]
        refine hmono w w' j _ hIw hI' hE (hV j ?_)
        have hlt : j < listed.size := by
          rcases Nat.lt_or_ge j listed.size with h | h
          · exact h
          · simp [Array.getElem?_eq_none (show (listed.setIfInBounds i true).size ≤ j by simpa using h)] at hj
        simp [Ne.symm e, hlt] at hj
        simp [hlt, hj]
    · unfold waits at hj
      obtain ⟨e, he, hb⟩ := Array.any_eq_true'.1 hj
      simp only [Bool.and_eq_true, beq_iff_eq] at hb
      obtain ⟨hb, rfl⟩ := hb
      exact hV _ (hdeps e he hb)
  · rintro listed a w hsz hall ⟨u, rfl, hIw, hV⟩
    exact hend u w hIw fun i hi => hV i (hall i (by simpa using hi))
  · intro i hi
    exfalso
    rcases Nat.lt_or_ge i l.length with h | h
    · simp [h] at hi
    · simp [h] at hi
/-- an operation that is wanted -/
theorem wpOp_go {P : Program} {ops : Array Oper} {Q : Exit → Act → World → Prop} {i : Nat} {o : Oper} {K : Act → World → Prop} {a : Act} {w : World} (ho : ops[i]? = some o) (hw : Region.wanted o (yielded ops a.tmps) = true) (h : o.wp P a w K Q) : wpOp P ops Q i K a w := by
  unfold wpOp
  simp only [ho, hw, if_true]
  exact .inl h
theorem wpOp_plain {P : Program} {ops : Array Oper} {Q : Exit → Act → World → Prop} {i : Nat} {o : Oper} {K : Act → World → Prop} {a : Act} {w : World} (ho : ops[i]? = some o) (hg : o.guard = none) (h : o.wp P a w K Q) : wpOp P ops Q i K a w := wpOp_go ho (by simp [Region.wanted, hg]) h
/-- an operation that is not wanted -/
theorem wpOp_not {P : Program} {ops : Array Oper} {Q : Exit → Act → World → Prop} {i : Nat} {o : Oper} {K : Act → World → Prop} {a : Act} {w : World} (ho : ops[i]? = some o) (hw : Region.wanted o (yielded ops a.tmps) = false) (h : K (a.put o.dst undef) w) : wpOp P ops Q i K a w := by
  unfold wpOp
  simp only [ho, hw, Bool.false_eq_true, if_false]
  exact h

/-- the frame behind a region's operations, that yielded u -/
def putAll : List Oper → Nat → (Nat → Value) → Act → Act
  | [], _, _, a => a
  | o :: l, i, u, a => putAll l (i + 1) u (a.put o.dst (u i))
def dstsOk : List Oper → Bool
  | [] => true
  | o :: l => (o.dst.isNone || l.all fun x => x.dst != o.dst) && dstsOk l
theorem put_same (a : Act) (d : Option Tmp) (v v' : Value) : (a.put d v).put d v' = a.put d v' := by
  cases d with
  | none => rfl
  | some d => simp [Act.put]
theorem putAll_ext : ∀ (l : List Oper) (k : Nat) (u u' : Nat → Value) (a : Act), (∀ i, k ≤ i → u i = u' i) → putAll l k u a = putAll l k u' a
  | [], _, _, _, _, _ => rfl
  | o :: l, k, u, u', a, h => by
    show putAll l (k + 1) u (a.put o.dst (u k)) = putAll l (k + 1) u' (a.put o.dst (u' k))
    rw [h k (Nat.le_refl _), putAll_ext l (k + 1) u u' _ (fun i hi => h i (by omega))]
theorem putAll_other : ∀ (l : List Oper) (k : Nat) (u : Nat → Value) (a : Act) (d : Option Tmp) (v : Value), (d = none ∨ ∀ x ∈ l, x.dst ≠ d) → (putAll l k u a).put d v = putAll l k u (a.put d v)
  | [], _, _, _, _, _, _ => rfl
  | o :: l, k, u, a, d, v, h => by
    show (putAll l (k + 1) u (a.put o.dst (u k))).put d v = putAll l (k + 1) u ((a.put d v).put o.dst (u k))
    rw [putAll_other l (k + 1) u _ d v (h.imp id fun h x hx => h x (by simp [hx]))]
    congr 1
    rcases h with rfl | h
    · rfl
    · exact Act.put_comm a (u k) v (fun e he hd => h o (by simp) (by rw [he, hd]))
theorem putAll_at : ∀ (l : List Oper) (k i : Nat) (u : Nat → Value) (a : Act) (o : Oper) (v : Value), dstsOk l = true → l[i]? = some o → (putAll l k u a).put o.dst v = putAll l k (put1 u (k + i) v) a
  | [], _, _, _, _, _, _, _, h => by simp at h
  | x :: l, k, 0, u, a, o, v, hd, h => by
    simp at h
    subst h
    simp only [dstsOk, Bool.and_eq_true, Bool.or_eq_true] at hd
    show (putAll l (k + 1) u (a.put x.dst (u k))).put x.dst v = putAll l (k + 1) (put1 u (k + 0) v) (a.put x.dst (put1 u (k + 0) v k))
    have e : x.dst = none ∨ ∀ y ∈ l, y.dst ≠ x.dst := hd.1.imp (fun h => by simpa using h) (fun h y hy => by simpa using List.all_eq_true.1 h y hy)
    rw [putAll_other l (k + 1) u _ _ _ e, put_same, putAll_ext l (k + 1) u (put1 u (k + 0) v) _ (fun i hi => by unfold put1; rw [if_neg (by omega)])]
    unfold put1
    rw [if_pos (by omega)]
  | x :: l, k, i + 1, u, a, o, v, hd, h => by
    simp only [dstsOk, Bool.and_eq_true] at hd
    show (putAll l (k + 1) u (a.put x.dst (u k))).put o.dst v = putAll l (k + 1) (put1 u (k + (i + 1)) v) (a.put x.dst (put1 u (k + (i + 1)) v k))
    rw [putAll_at l (k + 1) i u _ o v hd.2 (by simpa using h), show k + 1 + i = k + (i + 1) by omega]
    congr 2
    unfold put1
    rw [if_neg (by omega)]
theorem putAll_self : ∀ (l : List Oper) (k : Nat) (u : Nat → Value) (a : Act), (∀ i o, l[i]? = some o → a.put o.dst (u (k + i)) = a) → putAll l k u a = a
  | [], _, _, _, _ => rfl
  | o :: l, k, u, a, h => by
    show putAll l (k + 1) u (a.put o.dst (u k)) = a
    rw [show a.put o.dst (u k) = a from h 0 o rfl]
    exact putAll_self l (k + 1) u a fun i o' ho => by rw [show k + 1 + i = k + (i + 1) by omega]; exact h (i + 1) o' (by simpa using ho)
def held (l : List Oper) (a : Act) (i : Nat) : Value := match (l[i]?).bind (·.dst) with
  | some d => a.tmps.getD d undef
  | none => undef
theorem put_held (a : Act) (d : Tmp) : a.put (some d) (a.tmps.getD d undef) = a := by
  obtain ⟨t, df⟩ := a
  simp only [Act.put, Act.mk.injEq, and_true]
  apply Array.ext_getElem?
  intro i
  by_cases h : d = i
  · subst h
    rcases Nat.lt_or_ge d t.size with hl | hl
    · simp [hl]
    · simp [hl]
  · simp [h]
/-- one operation's obligation, the frame by the operations themselves -/
def VStep (P : Program) (l : List Oper) (Q : Exit → Act → World → Prop) (a0 : Act) (V : Nat → Value → World → Prop) (I : World → Prop) (E : World → World → Prop) (i : Nat) (o : Oper) : Prop :=
  ∀ u w, I w → (∀ j, waits .any o j = true → V j (u j) w) → wpOp P l.toArray Q i (fun a' w' => ∃ v, a' = (putAll l 0 u a0).put o.dst v ∧ I w' ∧ E w w' ∧ V i v w') (putAll l 0 u a0) w
def VSteps (P : Program) (L : List Oper) (Q : Exit → Act → World → Prop) (a0 : Act) (V : Nat → Value → World → Prop) (I : World → Prop) (E : World → World → Prop) : Nat → List Oper → Prop
  | _, [] => True
  | i, o :: l => VStep P L Q a0 V I E i o ∧ VSteps P L Q a0 V I E (i + 1) l
theorem VSteps.rsteps {P : Program} {L : List Oper} {Q : Exit → Act → World → Prop} {a0 : Act} {V : Nat → Value → World → Prop} {I : World → Prop} {E : World → World → Prop} (hd : dstsOk L = true) : ∀ (l : List Oper) (k : Nat), (∀ i o, l[i]? = some o → L[k + i]? = some o) → VSteps P L Q a0 V I E k l → RSteps P L.toArray Q (fun u => putAll L 0 u a0) V I E k l
  | [], _, _, _ => trivial
  | o :: l, k, hl, h => ⟨fun u w hI hw => wpOp_mono (fun a' w' ⟨v, ha, h1, h2, h3⟩ => ⟨v, by rw [ha, putAll_at L 0 k u a0 o v hd (by simpa using hl 0 o rfl), Nat.zero_add], h1, h2, h3⟩) (h.1 u w hI hw),
    VSteps.rsteps hd l (k + 1) (fun i o' ho => by rw [show k + 1 + i = k + (i + 1) by omega]; exact hl (i + 1) o' (by simpa using ho)) h.2⟩
theorem wp_region_vals {P : Program} {Q : Exit → Act → World → Prop} {id : Nat} {l : List Oper} {a : Act} {w : World} (V : Nat → Value → World → Prop) (I : World → Prop) (E : World → World → Prop)
    (hm : P.follows .mixedOrders = true) (hf : fwd .any 0 l = true) (hd : dstsOk l = true) (hI : I w.drew)
    (hmono : ∀ w w' j v, I w → I w' → E w w' → V j v w → V j v w')
    (hs : VSteps P l Q a V I E 0 l)
    (hend : ∀ u w', I w' → (∀ i, i < l.length → V i (u i) w') → Q .normal (putAll l 0 u a) w') : (Code.region id l.toArray true).wp P Q a w :=
  wp_region_inv (fun u => putAll l 0 u a) V I E (held l a) hm hf (putAll_self l 0 _ a (fun i o ho => by
    rw [Nat.zero_add]
    cases hdst : o.dst with
    | none => rfl
    | some d =>
      have : held l a i = a.tmps.getD d undef := by simp [held, ho, hdst]
      rw [this]
      exact put_held a d)).symm hI hmono (VSteps.rsteps hd l 0 (fun i o ho => by simpa using ho) hs) hend
/-- an operation that yields a value -/
theorem op_val {P : Program} {o : Oper} {Q : Exit → Act → World → Prop} {K : Act → World → Prop} {a : Act} {w w' : World} (v : Value) (h : (execOp a.eval o).run P w = .ok (.value v) w') (hk : K (a.put o.dst v) w') : o.wp P a w K Q := by
  unfold Oper.wp
  rw [h]
  exact hk
/-- a call -/
theorem op_call {P : Program} {o : Oper} {Q : Exit → Act → World → Prop} {K : Act → World → Prop} {a : Act} {w : World} {f : FuncId} {args : Array Value} {R : Ending → World → Prop} (h : (execOp a.eval o).run P w = .ok (.enter f args) w) (hc : Calls P f args w R) (hR : ∀ e w', R e w' → ∃ v, e = .returned v ∧ K (a.put o.dst v) w') : o.wp P a w K Q := by
  unfold Oper.wp
  rw [h]
  refine hc.mono fun e w' he => ?_
  obtain ⟨v, rfl, hk⟩ := hR e w' he
  exact hk
theorem putAll_size : ∀ (l : List Oper) (k : Nat) (u : Nat → Value) (a : Act), (putAll l k u a).tmps.size = a.tmps.size
  | [], _, _, _ => rfl
  | o :: l, k, u, a => by
    show (putAll l (k + 1) u (a.put o.dst (u k))).tmps.size = _
    rw [putAll_size l (k + 1) u]
    cases o.dst <;> simp [Act.put]
theorem putAll_out : ∀ (l : List Oper) (k : Nat) (u : Nat → Value) (a : Act) (t : Nat), (l.all fun o => o.dst != some t) = true → (putAll l k u a).tmps[t]? = a.tmps[t]?
  | [], _, _, _, _, _ => rfl
  | o :: l, k, u, a, t, h => by
    simp only [List.all_cons, Bool.and_eq_true, bne_iff_ne] at h
    show (putAll l (k + 1) u (a.put o.dst (u k))).tmps[t]? = _
    rw [putAll_out l (k + 1) u _ t h.2]
    cases hd : o.dst with
    | none => rfl
    | some d =>
      have : d ≠ t := fun e => h.1 (by rw [hd, e])
      simp [Act.put, this]
theorem putAll_in : ∀ (l : List Oper) (k : Nat) (u : Nat → Value) (a : Act) (i d : Nat), dstsOk l = true → (l[i]?).bind (·.dst) = some d → d < a.tmps.size → (putAll l k u a).tmps[d]? = some (u (k + i))
  | [], _, _, _, _, _, _, h, _ => by simp at h
  | o :: l, k, u, a, 0, d, hd, h, hs => by
    simp at h
    simp only [dstsOk, Bool.and_eq_true, Bool.or_eq_true] at hd
    show (putAll l (k + 1) u (a.put o.dst (u k))).tmps[d]? = _
    have hall : (l.all fun x => x.dst != some d) = true := by
      rcases hd.1 with h0 | h0
      · rw [h] at h0; cases h0
      · rw [h] at h0; exact h0
    rw [putAll_out l (k + 1) u _ d hall, h]
    simp [Act.put, hs]
  | o :: l, k, u, a, i + 1, d, hd, h, hs => by
    simp only [dstsOk, Bool.and_eq_true] at hd
    show (putAll l (k + 1) u (a.put o.dst (u k))).tmps[d]? = _
    rw [putAll_in l (k + 1) u _ i d hd.2 (by simpa using h) (by cases o.dst <;> simp [Act.put, hs]), show k + 1 + i = k + (i + 1) by omega]
/-- an environment: the region's temporaries are u, the others as they were -/
structure Env (a0 : Act) (D : List (Option Tmp)) (ρ : Operand → Value) (u : Nat → Value) : Prop where
  const : ∀ x, ρ (.const x) = x
  func : ∀ f, ρ (.func f) = .func (.func f) #[] #[]
  glob : ∀ g, ρ (.global g) = .pointer (some ⟨g, 0, none⟩)
  out : ∀ t, D.contains (some t) = false → ρ (.tmp t) = a0.eval (.tmp t)
  inn : ∀ j d, D[j]? = some (some d) → d < a0.tmps.size → ρ (.tmp d) = u j
theorem Env.o {a0 : Act} {D : List (Option Tmp)} {ρ : Operand → Value} {u : Nat → Value} (h : Env a0 D ρ u) {t : Nat} {v : Value} (hv : a0.eval (.tmp t) = v) (hD : D.contains (some t) = false) : ρ (.tmp t) = v := (h.out t hD).trans hv
theorem Env.i {a0 : Act} {D : List (Option Tmp)} {ρ : Operand → Value} {u : Nat → Value} (h : Env a0 D ρ u) {n : Nat} (hn : a0.tmps.size = n) {j d : Nat} {v : Value} (hv : u j = v) (hD : D[j]? = some (some d)) (hd : d < n) : ρ (.tmp d) = v := (h.inn j d hD (by omega)).trans hv
/-- what an operation does -/
def SWp (P : Program) (ρ : Operand → Value) (o : Oper) (w : World) (post : Value → World → Prop) : Prop := match (execOp ρ o).run P w with
  | .ok (.value v) w' => post v w'
  | .ok .skip w' => post undef w'
  | .ok (.enter f args) w' => Calls P f args w' fun e w'' => ∃ v, e = .returned v ∧ post v w''
  | _ => False
/-- one operation's obligation -/
def SStep (P : Program) (a0 : Act) (D : List (Option Tmp)) (V : Nat → Value → World → Prop) (I : World → Prop) (E : World → World → Prop) (i : Nat) (o : Oper) : Prop :=
  ∀ ρ u w, Env a0 D ρ u → I w → (∀ j, waits .any o j = true → V j (u j) w) → match o.guard with
    | none => SWp P ρ o w (fun v w' => I w' ∧ E w w' ∧ V i v w')
    | some (g, b) => (u g = .bool b → SWp P ρ o w (fun v w' => I w' ∧ E w w' ∧ V i v w')) ∧ (u g ≠ .bool b → E w w ∧ V i undef w)
def SSteps (P : Program) (a0 : Act) (D : List (Option Tmp)) (V : Nat → Value → World → Prop) (I : World → Prop) (E : World → World → Prop) : Nat → List Oper → Prop
  | _, [] => True
  | i, o :: l => SStep P a0 D V I E i o ∧ SSteps P a0 D V I E (i + 1) l
def guardsOk (n : Nat) : Nat → List Oper → Bool
  | _, [] => true
  | i, o :: l => (match o.guard with | none => true | some (g, _) => decide (g < n)) && guardsOk n (i + 1) l
theorem yielded_is {l : List Oper} {u : Nat → Value} {a : Act} (g d : Nat) (b : Bool) (hd : dstsOk l = true) (h : (l[g]?).bind (·.dst) = some d) (hs : d < a.tmps.size) : (yielded l.toArray (putAll l 0 u a).tmps g == some b) = true ↔ u g = .bool b := by
  have := putAll_in l 0 u a g d hd h hs
  rw [Nat.zero_add] at this
  simp only [yielded, List.getElem?_toArray, h, Option.bind_some, this]
  cases hu : u g <;> simp
theorem env_of {l : List Oper} {u : Nat → Value} {a : Act} (hd : dstsOk l = true) : Env a (l.map (·.dst)) (putAll l 0 u a).eval u := by
  refine ⟨fun _ => rfl, fun _ => rfl, fun _ => rfl, fun t ht => ?_, fun j d hj hs => ?_⟩
  · have hall : (l.all fun o => o.dst != some t) = true := by
      rw [List.all_eq_true]
      intro o ho
      simp only [bne_iff_ne, ne_eq]
      intro e
      have : (l.map (·.dst)).contains (some t) = true := by
        rw [List.contains_iff_mem]
        exact List.mem_map.2 ⟨o, ho, e⟩
      rw [this] at ht
      cases ht
    have := putAll_out l 0 u a t hall
    simp only [Act.eval, Array.getD_eq_getD_getElem?, this]
  · have h2 : (l[j]?).bind (·.dst) = some d := by
      rw [List.getElem?_map] at hj
      cases ho : l[j]? with
      | none => rw [ho] at hj; cases hj
      | some o => rw [ho] at hj; simpa using hj
    have := putAll_in l 0 u a j d hd h2 hs
    rw [Nat.zero_add] at this
    simp [Act.eval, this]
/-- guards are on operations that have a temporary -/
def guardsIn (n : Nat) (D : List (Option Tmp)) (l : List Oper) : Bool := l.all fun o => match o.guard with
  | none => true
  | some (g, _) => match D[g]? with
    | some (some d) => decide (d < n)
    | _ => false
theorem swp_wp {P : Program} {a : Act} {o : Oper} {w : World} {Q : Exit → Act → World → Prop} {post : Value → World → Prop} {K : Act → World → Prop} (h : SWp P a.eval o w post) (hk : ∀ v w', post v w' → K (a.put o.dst v) w') : o.wp P a w K Q := by
  unfold SWp at h
  unfold Oper.wp
  cases hr : (execOp a.eval o).run P w with
  | ok n w' =>
    rw [hr] at h
    cases n <;> simp only [Oper.upon] at h ⊢
    case value => exact hk _ _ h
    case skip => exact hk _ _ h
    case enter f args =>
      refine h.mono fun e w'' he => ?_
      obtain ⟨v, rfl, hp⟩ := he
      exact hk _ _ hp
  | halt x w' =>
    rw [hr] at h
    cases x <;> exact absurd h id
theorem SSteps.vsteps {P : Program} {L : List Oper} {Q : Exit → Act → World → Prop} {a0 : Act} {D : List (Option Tmp)} {V : Nat → Value → World → Prop} {I : World → Prop} {E : World → World → Prop} {n : Nat} (hd : dstsOk L = true) (hD : L.map (·.dst) = D) (hn : a0.tmps.size = n) (hg : guardsIn n D L = true) :
    ∀ (l : List Oper) (k : Nat), (∀ i o, l[i]? = some o → L[k + i]? = some o) → SSteps P a0 D V I E k l → VSteps P L Q a0 V I E k l
  | [], _, _, _ => trivial
  | o :: l, k, hl, h => by
    refine ⟨fun u w hI hw => ?_, SSteps.vsteps hd hD hn hg l (k + 1) (fun i o' ho => by rw [show k + 1 + i = k + (i + 1) by omega]; exact hl (i + 1) o' (by simpa using ho)) h.2⟩
    have ho : L[k]? = some o := by simpa using hl 0 o rfl
    have h1 := h.1 _ u w (hD ▸ env_of hd) hI hw
    cases hgd : o.guard with
    | none =>
      rw [hgd] at h1
      exact wpOp_plain (by simpa using ho) hgd (swp_wp h1 fun v w' hp => ⟨v, rfl, hp⟩)
    | some gb =>
      obtain ⟨g, b⟩ := gb
      rw [hgd] at h1
      have hgi := List.all_eq_true.1 hg o (List.mem_of_getElem? ho)
      rw [hgd] at hgi
      simp only at hgi
      obtain ⟨d, hDg, hdn⟩ : ∃ d, D[g]? = some (some d) ∧ d < n := by
        cases hDg : D[g]? with
        | none => rw [hDg] at hgi; cases hgi
        | some x =>
          cases x with
          | none => rw [hDg] at hgi; cases hgi
          | some d => rw [hDg] at hgi; exact ⟨d, rfl, of_decide_eq_true hgi⟩
      have hLg : (L[g]?).bind (·.dst) = some d := by
        rw [← hD, List.getElem?_map] at hDg
        cases hx : L[g]? with
        | none => rw [hx] at hDg; cases hDg
        | some x => rw [hx] at hDg; simpa using hDg
      have hy := yielded_is (u := u) (a := a0) g d b hd hLg (by rw [hn]; exact hdn)
      by_cases hb : u g = .bool b
      · exact wpOp_go (by simpa using ho) (by simp only [Region.wanted, hgd]; exact hy.2 hb) (swp_wp (h1.1 hb) fun v w' hp => ⟨v, rfl, hp⟩)
      · refine wpOp_not (by simpa using ho) ?_ ⟨undef, rfl, hI, h1.2 hb⟩
        simp only [Region.wanted, hgd]
        cases hz : (yielded L.toArray (putAll L 0 u a0).tmps g == some b) with
        | false => rfl
        | true => exact absurd (hy.1 hz) hb
theorem wp_region_steps {P : Program} {Q : Exit → Act → World → Prop} {id : Nat} {l : List Oper} {a : Act} {w : World} (D : List (Option Tmp)) (n : Nat) (V : Nat → Value → World → Prop) (I : World → Prop) (E : World → World → Prop)
    (hm : P.follows .mixedOrders = true) (hf : fwd .any 0 l = true) (hd : dstsOk l = true) (hD : l.map (·.dst) = D) (hg : guardsIn n D l = true) (hn : a.tmps.size = n) (hI : I w.drew)
    (hmono : ∀ w w' j v, I w → I w' → E w w' → V j v w → V j v w')
    (hend : ∀ u w', I w' → (∀ i, i < l.length → V i (u i) w') → Q .normal (putAll l 0 u a) w')
    (hs : SSteps P a D V I E 0 l) : (Code.region id l.toArray true).wp P Q a w :=
  wp_region_vals V I E hm hf hd hI hmono (SSteps.vsteps hd hD hn hg l 0 (fun i o ho => by simpa using ho) hs) hend
section
variable {P : Program} {a0 : Act} {D : List (Option Tmp)} {V : Nat → Value → World → Prop} {I : World → Prop} {E : World → World → Prop} {i : Nat} {o : Oper} {ρ : Operand → Value} {w w' : World} {post : Value → World → Prop}
theorem SStep.plain (hg : o.guard = none) (h : ∀ ρ u w, Env a0 D ρ u → I w → (∀ j, waits .any o j = true → V j (u j) w) → SWp P ρ o w (fun v w' => I w' ∧ E w w' ∧ V i v w')) : SStep P a0 D V I E i o := by
  intro ρ u w he hI hd
  rw [hg]
  exact h ρ u w he hI hd
theorem SStep.on (g : Nat) (b : Bool) (hg : o.guard = some (g, b)) (hgw : waits .any o g = true) (hv : ∀ v w, V g v w → v = .bool b) (h : ∀ ρ u w, Env a0 D ρ u → I w → (∀ j, waits .any o j = true → V j (u j) w) → SWp P ρ o w (fun v w' => I w' ∧ E w w' ∧ V i v w')) : SStep P a0 D V I E i o := by
  intro ρ u w he hI hd
  rw [hg]
  exact ⟨fun _ => h ρ u w he hI hd, fun hne => absurd (hv _ _ (hd g hgw)) hne⟩
theorem SStep.off (g : Nat) (b : Bool) (hg : o.guard = some (g, b)) (hgw : waits .any o g = true) (hv : ∀ v w, V g v w → v ≠ .bool b) (h : ∀ w, I w → E w w ∧ V i undef w) : SStep P a0 D V I E i o := by
  intro ρ u w he hI hd
  rw [hg]
  exact ⟨fun he => absurd he (hv _ _ (hd g hgw)), fun _ => h w hI⟩
theorem swp_val {v : Value} (h : (execOp ρ o).run P w = .ok (.value v) w') (hp : post v w') : SWp P ρ o w post := by unfold SWp; rw [h]; exact hp
theorem swp_skip (h : (execOp ρ o).run P w = .ok .skip w') (hp : post undef w') : SWp P ρ o w post := by unfold SWp; rw [h]; exact hp
theorem swp_call {f : FuncId} {args : Array Value} {R : Ending → World → Prop} (h : (execOp ρ o).run P w = .ok (.enter f args) w) (hc : Calls P f args w R) (hR : ∀ e w', R e w' → ∃ v, e = .returned v ∧ post v w') : SWp P ρ o w post := by
  unfold SWp
  rw [h]
  exact hc.mono hR
end
/-- a function of the program's own text -/
def enters (P : Program) (f : FuncId) : Bool := match P.funcs[f]? with
  | some fn => fn.name != "runtime.NumGoroutine" && fn.body.isSome
  | none => false
theorem run_enter {P : Program} {f : FuncId} (h : enters P f = true) (args : Array Value) (w : World) : (callFunc f args).run P w = .ok (.enter f args) w := by
  unfold enters at h
  split at h
  · rename_i fn hf
    simp only [Bool.and_eq_true, bne_iff_ne, ne_eq] at h
    obtain ⟨b, hb⟩ := Option.isSome_iff_exists.1 h.2
    simp [callFunc, hf, h.1, hb, go_sem]
  · cases h
/-- what a call's operation comes to -/
theorem run_call {P : Program} {ρ : Operand → Value} {w : World} {dst : Option Tmp} {f : FuncId} {xs : Array Operand} {ts : Array TypeId} {t : TypeId} {pos : String} {af : Array Edge} {g : Option (Nat × Bool)} (args : Array Value) (hf : ρ (.func f) = .func (.func f) #[] #[])
    (h : enters P f = true) (hx : xs.map ρ = args) : (execOp ρ ⟨dst, .call { callee := .value (.func f), args := xs, argTypes := ts }, t, pos, af, g⟩).run P w = .ok (.enter f args) w := by
  subst hx
  simp [execOp, resolve, invoke, hf, Deferred.ofValue, run_enter h]
end Go.Proofs.YtpekbnkmnellpaaDoor
