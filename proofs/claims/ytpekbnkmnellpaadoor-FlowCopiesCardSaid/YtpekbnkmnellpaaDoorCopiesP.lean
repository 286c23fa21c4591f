/-
  FlowCopies: the plain part.
-/
import Derived.Test.YtpekbnkmnellpaaDoorCountsQ
import Derived.Test.YtpekbnkmnellpaaDoorCopy
namespace Go.Proofs.YtpekbnkmnellpaaDoor
open Go.RowKit Go.Maps
set_option linter.unusedVariables false

def fSent (ps : List Pk) (k : Int) : Option ByteArray := if 1 ≤ k ∧ k ≤ ps.length then some (ps.getD (k - 1).toNat Pk.zero).comm else none
structure PInv (ps : List Pk) : Prop where
  seq : ∀ i (h : i < ps.length), ps[i].seq = (i : Int) + 1
  ok : ∀ p ∈ ps, p.ok
/-- the flow of FlowCopies behind j acts -/
structure FInv (o : Bool) (j : Nat) (ps : List Pk) (s : Fl) : Prop where
  p : PInv ps
  ord : s.ordered = o
  send : s.send = (ps.length : Int) + 1
  ack : s.ack = 1
  sent : s.sent = fSent ps
  rv0 : 1 ≤ s.recv
  rv1 : s.recv ≤ (j : Int) + 1
  got : ∀ k, s.got k = true → k ≤ 5
  wri : ∀ k, (s.written k).isSome = true → k ≤ 5
  small : ps.length ≤ j
theorem fi_new (o : Bool) : FInv o 0 [] (Fl.new o) := by
  refine ⟨⟨fun i h => (by simp at h), fun p h => (by simp at h)⟩, rfl, rfl, rfl, ?_, (show (1 : Int) ≤ 1 by omega), (show (1 : Int) ≤ ((0 : Nat) : Int) + 1 by omega), fun k h => (by cases h), fun k h => (by cases h), by simp⟩
  funext k
  show none = fSent [] k
  unfold fSent
  rw [if_neg]
  intro h
  have := h.2
  simp at this
  omega
theorem fSent_at {ps : List Pk} (h : PInv ps) (k : Nat) (hk : k < ps.length) : fSent ps ps[k].seq = some ps[k].comm := by
  unfold fSent
  rw [h.seq k hk, if_pos (by omega), show ((k : Int) + 1 - 1).toNat = k by omega]
  simp [List.getD_eq_getElem?_getD, hk]
theorem fSent_push (ps : List Pk) (p : Pk) : upd (fSent ps) ((ps.length : Int) + 1) (some p.comm) = fSent (ps ++ [p]) := by
  funext k
  by_cases e : k = (ps.length : Int) + 1
  · rw [e, upd_at]
    unfold fSent
    rw [if_pos (by rw [List.length_append, List.length_singleton]; omega), show ((ps.length : Int) + 1 - 1).toNat = ps.length by omega]
    simp [List.getD_eq_getElem?_getD]
  · rw [upd_ne _ _ e]
    unfold fSent
    by_cases hk : 1 ≤ k ∧ k ≤ ps.length
    · have hk2 : 1 ≤ k ∧ k ≤ ((ps ++ [p]).length : Int) := ⟨hk.1, by rw [List.length_append, List.length_singleton]; omega⟩
      rw [if_pos hk, if_pos hk2]
      have h1 : (k - 1).toNat < ps.length := by omega
      generalize (k - 1).toNat = i at h1
      rw [List.getD_eq_getElem?_getD, List.getD_eq_getElem?_getD, List.getElem?_append_left h1]
    · have hk2 : ¬ (1 ≤ k ∧ k ≤ ((ps ++ [p]).length : Int)) := by rw [List.length_append, List.length_singleton]; omega
      rw [if_neg hk, if_neg hk2]
theorem pinv_push {ps : List Pk} (h : PInv ps) (p : Pk) (hs : p.seq = (ps.length : Int) + 1) (hp : p.ok) : PInv (ps ++ [p]) := by
  refine ⟨fun i hi => ?_, fun q hq => ?_⟩
  · by_cases e : i < ps.length
    · rw [List.getElem_append_left e]; exact h.seq i e
    · have : i = ps.length := by simp at hi; omega
      subst this
      simp [hs]
  · rcases List.mem_append.1 hq with hq | hq
    · exact h.ok q hq
    · simp at hq; subst hq; exact hp
theorem fi_send {o : Bool} {j : Nat} {ps : List Pk} {s : Fl} (h : FInv o j ps s) (hj : j ≤ 60) (fr to_ tm : Int) (dt : ByteArray) (hd : ¬ 400 < dt.size) (h1 : u64r fr) (h2 : u64r to_) (h3 : u64r tm) :
    s.pkt fr to_ dt tm = ⟨(ps.length : Int) + 1, fr, to_, dt, tm⟩ ∧ (s.sendd fr to_ dt tm).send = (ps.length : Int) + 2 ∧ FInv o (j + 1) (ps ++ [⟨(ps.length : Int) + 1, fr, to_, dt, tm⟩]) (s.sendd fr to_ dt tm) := by
  have hs := h.small
  have hsd : s.sendd fr to_ dt tm = s.sends ⟨s.send, fr, to_, dt, tm⟩ := by unfold Fl.sendd; rw [if_neg hd]
  have hw : IntKind.u64.wrap ((ps.length : Int) + 1 + 1) = (ps.length : Int) + 2 := by rw [IntKind.wrap_u64]; omega
  have hse : (s.sends ⟨s.send, fr, to_, dt, tm⟩).send = (ps.length : Int) + 2 := by
    show IntKind.u64.wrap (s.send + 1) = _
    rw [h.send, hw]
  refine ⟨by unfold Fl.pkt; rw [if_neg hd, h.send], by rw [hsd, hse], ?_⟩
  rw [hsd]
  refine ⟨pinv_push h.p _ rfl ⟨⟨by show 0 ≤ (ps.length : Int) + 1; omega, by show (ps.length : Int) + 1 ≤ _; omega⟩, h1, h2, h3, by show dt.size ≤ _; omega⟩, h.ord, by rw [hse, List.length_append, List.length_singleton]; omega, h.ack, ?_, h.rv0, by have := h.rv1; show s.recv ≤ _; omega, h.got, h.wri, by rw [List.length_append, List.length_singleton]; omega⟩
  show upd s.sent s.send (some _) = _
  rw [h.sent, h.send]
  exact fSent_push ps _
theorem fi_long {o : Bool} {j : Nat} {ps : List Pk} {s : Fl} (h : FInv o j ps s) (fr to_ tm : Int) (dt : ByteArray) (hd : 400 < dt.size) : FInv o (j + 1) ps (s.sendd fr to_ dt tm) ∧ s.pkt fr to_ dt tm = Pk.zero := by
  have : s.sendd fr to_ dt tm = s := by unfold Fl.sendd; rw [if_pos hd]
  rw [this]
  exact ⟨{ h with rv1 := (by have := h.rv1; omega), small := (by have := h.small; omega) }, by unfold Fl.pkt; rw [if_pos hd]⟩
theorem sendd_recv (s : Fl) (fr to_ tm : Int) (dt : ByteArray) : (s.sendd fr to_ dt tm).recv = s.recv := by
  unfold Fl.sendd
  split <;> rfl
/-- Recv changes neither what was sent nor the numbers to send -/
theorem recvd_keeps (s : Fl) (p : Pk) (h : Int) : (s.recvd p h).sent = s.sent ∧ (s.recvd p h).send = s.send ∧ (s.recvd p h).ack = s.ack ∧ (s.recvd p h).written = s.written ∧ (s.recvd p h).ordered = s.ordered := by
  unfold Fl.recvd
  split
  · unfold Fl.took
    split <;> exact ⟨rfl, rfl, rfl, rfl, rfl⟩
  · exact ⟨rfl, rfl, rfl, rfl, rfl⟩
theorem writ_keeps (s : Fl) (k : Int) (a : ByteArray) : (s.writ k a).sent = s.sent ∧ (s.writ k a).send = s.send ∧ (s.writ k a).ack = s.ack ∧ (s.writ k a).recv = s.recv ∧ (s.writ k a).got = s.got ∧ (s.writ k a).ordered = s.ordered := by
  unfold Fl.writ
  split <;> exact ⟨rfl, rfl, rfl, rfl, rfl, rfl⟩
/-- one act, behind its Send (which gives the bound j + 1 on recv, one too many) -/
theorem fi_recv {o : Bool} {j : Nat} {ps : List Pk} {s : Fl} (h : FInv o j ps s) (hr : s.recv ≤ (j : Int)) (hj : j ≤ 60) (p : Pk) (hh : Int) (hp : p.seq ≤ 5) : FInv o j ps (s.recvd p hh) := by
  obtain ⟨k1, k2, k3, k4, k5⟩ := recvd_keeps s p hh
  refine ⟨h.p, k5.trans h.ord, k2.trans h.send, k3.trans h.ack, k1.trans h.sent, ?_, ?_, ?_, by rw [k4]; exact h.wri, h.small⟩
  all_goals unfold Fl.recvd Fl.took
  all_goals have h0 := h.rv0
  · split
    · split
      · show 1 ≤ IntKind.u64.wrap (s.recv + 1)
        rw [IntKind.wrap_u64]; omega
      · exact h0
    · exact h0
  · split
    · split
      · show IntKind.u64.wrap (s.recv + 1) ≤ _
        rw [IntKind.wrap_u64]; omega
      · exact h.rv1
    · exact h.rv1
  · split
    · split
      · exact h.got
      · intro k hk
        have hk' : upd s.got p.seq true k = true := hk
        by_cases e : k = p.seq
        · rw [e]; exact hp
        · rw [upd_ne _ _ e] at hk'; exact h.got k hk'
    · exact h.got
theorem fi_write {o : Bool} {j : Nat} {ps : List Pk} {s : Fl} (h : FInv o j ps s) (k : Int) (a : ByteArray) (hk : k ≤ 5) : FInv o j ps (s.writ k a) := by
  obtain ⟨k1, k2, k3, k4, k5, k6⟩ := writ_keeps s k a
  refine ⟨h.p, k6.trans h.ord, k2.trans h.send, k3.trans h.ack, k1.trans h.sent, by rw [k4]; exact h.rv0, by rw [k4]; exact h.rv1, by rw [k5]; exact h.got, ?_, h.small⟩
  unfold Fl.writ
  split
  · intro i hi
    have hi' : (upd s.written k (some (ansB a)) i).isSome = true := hi
    by_cases e : i = k
    · rw [e]; exact hk
    · rw [upd_ne _ _ e] at hi'; exact h.wri i hi'
  · exact h.wri
theorem fi_came {o : Bool} {j : Nat} {ps : List Pk} {s : Fl} (h : FInv o j ps s) (hj : j ≤ 60) : s.came 99 = false ∧ (s.written 99).isSome = false := by
  constructor
  · unfold Fl.came
    split
    · have := h.rv1
      have : ¬ (99 : Int) < s.recv := by omega
      simp [this]
    · cases hg : s.got 99 with
      | false => rfl
      | true => have := h.got 99 hg; omega
  · cases hw : (s.written 99).isSome with
    | false => rfl
    | true => have := h.wri 99 hw; omega
/-- the copy, in its last loop -/
structure GInv (ps : List Pk) (k : Nat) (t : Fl) : Prop where
  send : t.send = (ps.length : Int) + 2
  sent : ∀ i (h : i < ps.length), k ≤ i → t.sent ps[i].seq = some ps[i].comm
theorem gi_kept {ps : List Pk} {k : Nat} {t : Fl} (h : GInv ps k t) (hk : k < ps.length) : t.keptB ps[k] = true := by
  unfold Fl.keptB
  rw [h.sent k hk (Nat.le_refl _)]
  simp
theorem gi_step {ps : List Pk} {k : Nat} {t : Fl} (h : GInv ps k t) (hp : PInv ps) (hk : k < ps.length) : GInv ps (k + 1) (t.timed ps[k]) ∧ t.toCode ps[k] = 0 := by
  have hb := gi_kept h hk
  unfold Fl.timed Fl.toCode
  rw [hb]
  refine ⟨⟨h.send, fun i hi hki => ?_⟩, rfl⟩
  show upd t.sent ps[k].seq none ps[i].seq = _
  rw [upd_ne _ _ (by rw [hp.seq i hi, hp.seq k hk]; omega)]
  exact h.sent i hi (by omega)
theorem gi_start {o : Bool} {j : Nat} {ps : List Pk} {s : Fl} (h : FInv o j ps s) (hj : j ≤ 60) (dt : ByteArray) (hd : ¬ 400 < dt.size) (p q : Pk) (a : ByteArray) (x y z : Int) : GInv ps 0 ((((s.sendd 1 2 dt 0).recvd p x).recvd q y).writ z a) := by
  obtain ⟨_, i2, i3⟩ := fi_send h hj 1 2 0 dt hd ⟨by omega, by omega⟩ ⟨by omega, by omega⟩ ⟨by omega, by omega⟩
  have k1 := writ_keeps (((s.sendd 1 2 dt 0).recvd p x).recvd q y) z a
  have k2 := recvd_keeps ((s.sendd 1 2 dt 0).recvd p x) q y
  have k3 := recvd_keeps (s.sendd 1 2 dt 0) p x
  refine ⟨by rw [k1.2.1, k2.2.1, k3.2.1]; exact i2, fun i hi _ => ?_⟩
  rw [k1.1, k2.1, k3.1, i3.sent, ← fSent_push, upd_ne _ _ (by rw [h.p.seq i hi]; omega)]
  exact fSent_at h.p i hi
end Go.Proofs.YtpekbnkmnellpaaDoor
