/-
  FlowCounts: the plain part.
-/
import Derived.Test.YtpekbnkmnellpaaDoorRowL
import Derived.Test.YtpekbnkmnellpaaDoorOpenB
import Derived.Test.YtpekbnkmnellpaaDoorAwakeW
namespace Go.Proofs.YtpekbnkmnellpaaDoor
open Go.RowKit Go.Maps
set_option linter.unusedVariables false

def cSent (ps : List Pk) (gn : List Bool) (k : Int) : Option ByteArray := if 1 ≤ k ∧ k ≤ ps.length then (if gn.getD (k - 1).toNat true then none else some (ps.getD (k - 1).toNat Pk.zero).comm) else none
def CS (o : Bool) (ps : List Pk) (gn : List Bool) : Fl := ⟨o, (ps.length : Int) + 1, 1, 1, cSent ps gn, fun _ => none, fun _ => false⟩
structure CInv (ps : List Pk) (gn : List Bool) : Prop where
  len : gn.length = ps.length
  seq : ∀ i (h : i < ps.length), ps[i].seq = (i : Int) + 1
  ok : ∀ p ∈ ps, p.ok
  small : ps.length ≤ 60
theorem cSent_at {ps : List Pk} {gn : List Bool} (h : CInv ps gn) (k : Nat) (hk : k < ps.length) : cSent ps gn ps[k].seq = if gn[k]'(by rw [h.len]; exact hk) then none else some ps[k].comm := by
  have hg : k < gn.length := by rw [h.len]; exact hk
  unfold cSent
  rw [h.seq k hk, if_pos (by omega), show ((k : Int) + 1 - 1).toNat = k by omega]
  simp [List.getD_eq_getElem?_getD, hk, hg]
theorem cs_new (o : Bool) : CS o [] [] = Fl.new o := by
  unfold CS Fl.new
  congr 1
  funext k
  unfold cSent
  rw [if_neg]
  intro h
  have h2 := h.2
  simp at h2
  omega
theorem cs_long (o : Bool) (ps : List Pk) (gn : List Bool) (fr to_ tm : Int) (dt : ByteArray) (h : 400 < dt.size) : (CS o ps gn).sendd fr to_ dt tm = CS o ps gn ∧ (CS o ps gn).pkt fr to_ dt tm = Pk.zero ∧ sendCode dt = 181 := by
  unfold Fl.sendd Fl.pkt sendCode
  exact ⟨if_pos h, if_pos h, if_pos h⟩
theorem cs_send (o : Bool) (ps : List Pk) (gn : List Bool) (fr to_ tm : Int) (dt : ByteArray) (hI : CInv ps gn) (h : ¬ 400 < dt.size) (hf : u64r fr) (ht : u64r to_) (hm : u64r tm) : (CS o ps gn).pkt fr to_ dt tm = ⟨(ps.length : Int) + 1, fr, to_, dt, tm⟩ ∧ sendCode dt = 0 ∧
    (CS o ps gn).sendd fr to_ dt tm = CS o (ps ++ [⟨(ps.length : Int) + 1, fr, to_, dt, tm⟩]) (gn ++ [false]) ∧ (ps.length < 60 → CInv (ps ++ [⟨(ps.length : Int) + 1, fr, to_, dt, tm⟩]) (gn ++ [false])) := by
  have hs := hI.small
  refine ⟨by unfold Fl.pkt; rw [if_neg h]; rfl, by unfold sendCode; rw [if_neg h], ?_, fun h60 => ⟨by simp [hI.len], fun i hi => ?_, fun p hp => ?_, by simp; omega⟩⟩
  · unfold Fl.sendd
    rw [if_neg h]
    unfold Fl.sends CS
    have hw : IntKind.u64.wrap ((ps.length : Int) + 1 + 1) = (ps.length : Int) + 1 + 1 := by rw [IntKind.wrap_u64]; omega
    simp only [List.length_append, List.length_singleton]
    rw [hw]
    congr 1
    funext k
    by_cases e : k = (ps.length : Int) + 1
    · rw [e, upd_at]
      unfold cSent
      rw [if_pos (by simp; omega), show ((ps.length : Int) + 1 - 1).toNat = ps.length by omega]
      simp [List.getD_eq_getElem?_getD, ← hI.len]
    · rw [upd_ne _ _ e]
      unfold cSent
      by_cases hk : 1 ≤ k ∧ k ≤ ps.length
      · have hk2 : 1 ≤ k ∧ k ≤ ((ps ++ [(⟨(ps.length : Int) + 1, fr, to_, dt, tm⟩ : Pk)]).length : Int) := ⟨hk.1, by rw [List.length_append, List.length_singleton]; omega⟩
        rw [if_pos hk, if_pos hk2]
        have h1 : (k - 1).toNat < ps.length := by omega
        have h2 : (k - 1).toNat < gn.length := by rw [hI.len]; exact h1
        generalize (k - 1).toNat = i at h1 h2
        rw [List.getD_eq_getElem?_getD, List.getD_eq_getElem?_getD, List.getD_eq_getElem?_getD, List.getD_eq_getElem?_getD, List.getElem?_append_left h1, List.getElem?_append_left h2]
      · rw [if_neg hk, if_neg (by simp; omega)]
  · by_cases e : i < ps.length
    · rw [List.getElem_append_left e]; exact hI.seq i e
    · have : i = ps.length := by simp at hi; omega
      subst this
      simp
  · rcases List.mem_append.1 hp with hp | hp
    · exact hI.ok p hp
    · simp at hp
      subst hp
      exact ⟨⟨by show 0 ≤ (ps.length : Int) + 1; omega, by show (ps.length : Int) + 1 ≤ _; omega⟩, hf, ht, hm, by show dt.size ≤ _; omega⟩
theorem cs_kept (o : Bool) (ps : List Pk) (gn : List Bool) (hI : CInv ps gn) (k : Nat) (hk : k < ps.length) : (CS o ps gn).keptB ps[k] = !(gn[k]'(by rw [hI.len]; exact hk)) := by
  unfold Fl.keptB
  rw [show (CS o ps gn).sent = cSent ps gn from rfl, cSent_at hI k hk]
  cases gn[k]'(by rw [hI.len]; exact hk) <;> simp
theorem cs_set (ps : List Pk) (gn : List Bool) (hI : CInv ps gn) (k : Nat) : CInv ps (gn.set k true) := ⟨by rw [List.length_set]; exact hI.len, hI.seq, hI.ok, hI.small⟩
theorem cs_drop (o : Bool) (ps : List Pk) (gn : List Bool) (hI : CInv ps gn) (k : Nat) (hk : k < ps.length) : (CS o ps gn).drops ps[k].seq = CS o ps (gn.set k true) := by
  unfold Fl.drops CS
  congr 1
  funext i
  show upd (cSent ps gn) ps[k].seq none i = _
  rw [hI.seq k hk]
  by_cases e : i = (k : Int) + 1
  · rw [e, upd_at]
    unfold cSent
    rw [if_pos (by omega), show ((k : Int) + 1 - 1).toNat = k by omega]
    simp [List.getD_eq_getElem?_getD, hI.len, hk]
  · rw [upd_ne _ _ e]
    unfold cSent
    by_cases hr : 1 ≤ i ∧ i ≤ ps.length
    · rw [if_pos hr, if_pos hr]
      have : k ≠ (i - 1).toNat := by omega
      generalize (i - 1).toNat = j at this
      rw [List.getD_eq_getElem?_getD (l := gn.set k true), List.getElem?_set_ne this, ← List.getD_eq_getElem?_getD]
    · rw [if_neg hr, if_neg hr]
theorem set_same (gn : List Bool) (k : Nat) (hk : k < gn.length) (h : gn[k] = true) : gn.set k true = gn := by
  apply List.ext_getElem?
  intro i
  by_cases e : k = i
  · subst e; simp [hk, h]
  · simp [e]
/-- a Timeout in FlowCounts -/
theorem cs_time (o : Bool) (ps : List Pk) (gn : List Bool) (hI : CInv ps gn) (k : Nat) (hk : k < ps.length) : (CS o ps gn).timed ps[k] = CS o ps (gn.set k true) ∧ (CS o ps gn).toCode ps[k] = if gn[k]'(by rw [hI.len]; exact hk) then 185 else 0 := by
  unfold Fl.timed Fl.toCode
  rw [cs_kept o ps gn hI k hk]
  cases hg : gn[k]'(by rw [hI.len]; exact hk) with
  | true => exact ⟨by rw [set_same gn k (by rw [hI.len]; exact hk) hg]; rfl, rfl⟩
  | false => exact ⟨cs_drop o ps gn hI k hk, rfl⟩
/-- an Acknowledge behind it -/
theorem cs_ack (o : Bool) (ps : List Pk) (gn : List Bool) (hI : CInv ps gn) (k : Nat) (hk : k < ps.length) : (CS o ps (gn.set k true)).acks ps[k] = CS o ps (gn.set k true) ∧ (CS o ps (gn.set k true)).ackCode ps[k] = 185 := by
  have hb : (CS o ps (gn.set k true)).keptB ps[k] = false := by
    rw [cs_kept o ps _ (cs_set ps gn hI k) k hk]
    simp
  unfold Fl.acks Fl.ackCode
  rw [hb]
  exact ⟨rfl, rfl⟩
theorem cs_sent (o : Bool) (ps : List Pk) (gn : List Bool) (hI : CInv ps gn) (k : Nat) (hk : k < ps.length) : (CS o ps gn).sent ps[k].seq = if gn[k]'(by rw [hI.len]; exact hk) then none else some ps[k].comm := cSent_at hI k hk
/-- what FlowCounts holds -/
structure CI (w : World) (B : FB) (o : Bool) (V1 V2 : Value) (ps : List Pk) (gn : List Bool) (m : Nat) (W : World) : Prop where
  flow : FlowAt W B m (CS o ps gn)
  rowp : RowP W w.heap.size V1 ps
  rowb : RowB W w.heap.size V2 gn
  bel : Below w.heap.size w W
  glob : Glob W
  bge : ∀ x ∈ B.l, w.heap.size ≤ x
  two : 2 ≤ w.heap.size
section
variable {w : World} {B : FB} {o : Bool} {V1 V2 : Value} {ps ps' : List Pk} {gn gn' : List Bool} {m m' : Nat} {W W' : World}
theorem CI.below (h : CI w B o V1 V2 ps gn m W) (hb : Below W.heap.size W W') : CI w B o V1 V2 ps gn m W' := ⟨h.flow.below hb, own_bel h.rowp hb, own_bel h.rowb hb, bstep h.bel hb, h.glob.below hb h.glob.two, h.bge, h.two⟩
/-- only the flow has changed -/
theorem CI.only (h : CI w B o V1 V2 ps gn m W) (hf : FlowAt W' B m' (CS o ps gn')) (ho : Only B.l W W') (hb : RowB W' w.heap.size V2 gn') : CI w B o V1 V2 ps gn' m' W' := by
  refine ⟨hf, own_only h.rowp ho (fun g hg => ?_), hb, h.bel.trans (ho.below h.bge h.bel.size), h.glob.only ho (fun x hx => Nat.le_trans h.two (h.bge x hx)), h.bge, h.two⟩
  obtain ⟨cur, hc⟩ := own_type h.rowp hg
  exact h.flow.apart hc (by decide)
theorem CI.rowb_only (h : CI w B o V1 V2 ps gn m W) (ho : Only B.l W W') : RowB W' w.heap.size V2 gn := own_only h.rowb ho (fun g hg => by
  obtain ⟨cur, hc⟩ := own_type h.rowb hg
  exact h.flow.apart hc (by decide))
end
end Go.Proofs.YtpekbnkmnellpaaDoor
