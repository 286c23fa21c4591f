/-
  FlowOnce: the plain part.
-/
import Derived.Test.YtpekbnkmnellpaaDoorCountsQ
import Derived.Test.YtpekbnkmnellpaaDoorInput18
namespace Go.Proofs.YtpekbnkmnellpaaDoor
open Go.RowKit Go.Maps
set_option linter.unusedVariables false

/-- what became of a packet -/
structure Ft where
  p : Pk
  (came acked timed : Nat)
  missed : Bool
def Ft.m (f : Ft) : Ft := ⟨f.p, f.came, f.acked, f.timed, true⟩
def Ft.c (f : Ft) : Ft := ⟨f.p, f.came + 1, f.acked, f.timed, f.missed⟩
def Ft.a (f : Ft) : Ft := ⟨f.p, f.came, f.acked + 1, f.timed, f.missed⟩
def Ft.t (f : Ft) : Ft := ⟨f.p, f.came, f.acked, f.timed + 1, f.missed⟩
/-- one packet's part -/
structure FtOk (a b : Fl) (hh : Int) (f : Ft) : Prop where
  ok : f.p.ok
  c1 : f.came ≤ 1
  at1 : f.acked + f.timed ≤ 1
  gone : 1 ≤ f.acked + f.timed → a.sent f.p.seq = none
  miss : f.missed = true → f.p.timeout ≠ 0 ∧ f.p.timeout ≤ hh
  tim : 0 < f.timed → f.missed = true ∧ f.came = 0
  cm : b.came f.p.seq = decide (0 < f.came)
structure OInv (o : Bool) (j : Nat) (fs : List Ft) (a b : Fl) (hh last : Int) : Prop where
  len : fs.length ≤ j
  seq : ∀ i (h : i < fs.length), fs[i].p.seq = (i : Int) + 1
  send : a.send = (fs.length : Int) + 1
  ord : b.ordered = o
  lst : o = true → b.recv = last + 1
  l0 : 0 ≤ last
  l1 : last ≤ fs.length
  beyond : ∀ k, b.came k = true → 1 ≤ k ∧ k ≤ fs.length
  wr : ∀ k, (b.written k).isSome = true → b.came k = true
  h0 : 1 ≤ hh
  h1 : hh ≤ 1 + 2 * (j : Int)
  each : ∀ i (h : i < fs.length), FtOk a b hh fs[i]
theorem came_ord (s : Fl) (k : Int) (h : s.ordered = true) : s.came k = (decide (0 < k) && decide (k < s.recv)) := by unfold Fl.came; rw [h]; rfl
theorem came_un (s : Fl) (k : Int) (h : s.ordered = false) : s.came k = s.got k := by unfold Fl.came; rw [h]; rfl
theorem oi_new (o : Bool) : OInv o 0 [] (Fl.new o) (Fl.new o) 1 0 := by
  have hc : ∀ k, (Fl.new o).came k = false := fun k => by
    cases o with
    | true =>
      rw [came_ord _ _ rfl]
      show (decide (0 < k) && decide (k < 1)) = false
      by_cases h : 0 < k
      · have : ¬ k < 1 := by omega
        simp [this]
      · simp [h]
    | false => exact came_un _ _ rfl
  refine ⟨by simp, fun i h => (by simp at h), rfl, rfl, fun _ => rfl, by omega, by simp, fun k h => (by rw [hc] at h; cases h), fun k h => (by cases h), by omega, by omega, fun i h => (by simp at h)⟩
section
variable {o : Bool} {j : Nat} {fs : List Ft} {a b : Fl} {hh last : Int}
theorem OInv.mono (h : OInv o j fs a b hh last) : OInv o (j + 1) fs a b hh last := { h with len := (by have := h.len; omega), h1 := (by have := h.h1; omega) }
theorem OInv.higher (h : OInv o j fs a b hh last) (d : Int) (h0 : 0 ≤ d) (h2 : d ≤ 2) : OInv o (j + 1) fs a b (hh + d) last := { h with len := (by have := h.len; omega), h0 := (by have := h.h0; omega), h1 := (by have := h.h1; omega), each := fun i hi => { h.each i hi with miss := fun hm => (by have := (h.each i hi).miss hm; exact ⟨this.1, by omega⟩) } }
/-- a packet is sent -/
theorem oi_send (h : OInv o j fs a b hh last) (hj : j ≤ 80) (dt : ByteArray) (hd : ¬ 400 < dt.size) (t : Int) (ht : u64r t) (ms : Bool) (hm : ms = true → t ≠ 0 ∧ t ≤ hh) :
    sendCode dt = 0 ∧ a.pkt 1 2 dt t = ⟨(fs.length : Int) + 1, 1, 2, dt, t⟩ ∧ OInv o (j + 1) (fs ++ [⟨⟨(fs.length : Int) + 1, 1, 2, dt, t⟩, 0, 0, 0, ms⟩]) (a.sendd 1 2 dt t) b hh last := by
  have hl := h.len
  have hsd : a.sendd 1 2 dt t = a.sends ⟨a.send, 1, 2, dt, t⟩ := by unfold Fl.sendd; rw [if_neg hd]
  refine ⟨by unfold sendCode; rw [if_neg hd], by unfold Fl.pkt; rw [if_neg hd, h.send], ?_⟩
  rw [hsd]
  refine ⟨by rw [List.length_append, List.length_singleton]; omega, fun i hi => ?_, ?_, h.ord, h.lst, h.l0, by rw [List.length_append, List.length_singleton]; have := h.l1; omega, fun k hk => ?_, h.wr, h.h0, by have := h.h1; omega, fun i hi => ?_⟩
  · by_cases e : i < fs.length
    · rw [List.getElem_append_left e]; exact h.seq i e
    · have : i = fs.length := by simp at hi; omega
      subst this
      simp
  · show IntKind.u64.wrap (a.send + 1) = _
    rw [h.send, List.length_append, List.length_singleton, IntKind.wrap_u64]
    omega
  · have := h.beyond k hk
    rw [List.length_append, List.length_singleton]
    omega
  · by_cases e : i < fs.length
    · rw [List.getElem_append_left e]
      have he := h.each i e
      exact { he with gone := fun hg => (by show upd a.sent a.send _ _ = none; rw [upd_ne _ _ (by rw [h.send, h.seq i e]; omega)]; exact he.gone hg) }
    · have : i = fs.length := by simp at hi; omega
      subst this
      simp only [List.getElem_concat_length]
      refine ⟨⟨⟨by show 0 ≤ (fs.length : Int) + 1; omega, by show (fs.length : Int) + 1 ≤ _; omega⟩, ⟨by show (0 : Int) ≤ 1; omega, by show (1 : Int) ≤ _; omega⟩, ⟨by show (0 : Int) ≤ 2; omega, by show (2 : Int) ≤ _; omega⟩, ht, by show dt.size ≤ _; omega⟩, by show 0 ≤ 1; omega, by show 0 + 0 ≤ 1; omega, fun hg => (by have : 1 ≤ 0 + 0 := hg; omega), hm, fun hg => (by have : 0 < 0 := hg; omega), ?_⟩
      show b.came ((fs.length : Int) + 1) = decide (0 < 0)
      cases hc : b.came ((fs.length : Int) + 1) with
      | false => rfl
      | true => have := (h.beyond _ hc).2; omega
/-- one packet's fate changes -/
theorem oi_step (h : OInv o j fs a b hh last) (k : Nat) (hk : k < fs.length) (f' : Ft) (hp : f'.p = fs[k].p) (a' b' : Fl) (last' : Int) (hs : a'.send = a.send) (hor : b'.ordered = b.ordered) (hl : o = true → b'.recv = last' + 1) (hl0 : 0 ≤ last') (hl1 : last' ≤ fs.length)
    (hbe : ∀ i, b'.came i = true → i = fs[k].p.seq ∨ b.came i = true) (hw : ∀ i, (b'.written i).isSome = true → b'.came i = true) (hf : FtOk a' b' hh f') (hoa : ∀ i, i ≠ fs[k].p.seq → a'.sent i = a.sent i) (hob : ∀ i, i ≠ fs[k].p.seq → b'.came i = b.came i) : OInv o j (fs.set k f') a' b' hh last' := by
  refine ⟨by rw [List.length_set]; exact h.len, fun i hi => ?_, by rw [hs, h.send, List.length_set], hor.trans h.ord, hl, hl0, by rw [List.length_set]; exact hl1, fun i hi => ?_, hw, h.h0, h.h1, fun i hi => ?_⟩
  · rw [List.getElem_set]
    rw [List.length_set] at hi
    split
    · rename_i e
      subst e
      rw [hp]
      exact h.seq _ hk
    · exact h.seq i hi
  · rw [List.length_set]
    rcases hbe i hi with e | e
    · rw [e, h.seq k hk]; omega
    · exact h.beyond i e
  · rw [List.getElem_set]
    rw [List.length_set] at hi
    split
    · exact hf
    · rename_i e
      have he := h.each i hi
      have hne : fs[i].p.seq ≠ fs[k].p.seq := by rw [h.seq i hi, h.seq k hk]; omega
      exact { he with gone := fun hg => (hoa _ hne).trans (he.gone hg), cm := (hob _ hne).trans he.cm }
theorem oi_miss (h : OInv o j fs a b hh last) (k : Nat) (hk : k < fs.length) (ht : fs[k].p.timeout ≠ 0) (ht2 : fs[k].p.timeout ≤ hh) : OInv o j (fs.set k fs[k].m) a b hh last :=
  oi_step h k hk fs[k].m rfl a b last rfl rfl h.lst h.l0 h.l1 (fun _ e => .inr e) h.wr ⟨(h.each k hk).ok, (h.each k hk).c1, (h.each k hk).at1, (h.each k hk).gone, fun _ => ⟨ht, ht2⟩, fun hg => ⟨rfl, ((h.each k hk).tim hg).2⟩, (h.each k hk).cm⟩ (fun _ _ => rfl) (fun _ _ => rfl)
/-- what Recv does to Came -/
theorem recvd_came (s : Fl) (p : Pk) (h : Int) (hc : s.recvCode p h = 0) (hr : s.ordered = true → 1 ≤ s.recv ∧ s.recv ≤ 1000) : lateB p h = false ∧ s.came p.seq = false ∧ (s.ordered = true → p.seq = s.recv ∧ (s.recvd p h).recv = s.recv + 1) ∧ ∀ k, (s.recvd p h).came k = (decide (k = p.seq) || s.came k) := by
  have hl : lateB p h = false := by
    cases hl : lateB p h with
    | false => rfl
    | true => unfold Fl.recvCode at hc; rw [hl] at hc; cases hc
  have hm : s.may p.seq = 0 := by unfold Fl.recvCode at hc; rw [hl] at hc; exact hc
  have hrd : s.recvd p h = s.took p.seq := by unfold Fl.recvd; rw [if_pos hc]
  refine ⟨hl, ?_⟩
  rw [hrd]
  cases ho : s.ordered with
  | true =>
    obtain ⟨r0, r1⟩ := hr ho
    rw [may_ord s _ ho] at hm
    have hq : p.seq = s.recv := by
      by_cases e : p.seq = s.recv
      · exact e
      · rw [if_neg e] at hm; cases hm
    have htk : s.took p.seq = { s with recv := IntKind.u64.wrap (s.recv + 1) } := by unfold Fl.took; rw [ho]; rfl
    have hwr : IntKind.u64.wrap (s.recv + 1) = s.recv + 1 := by rw [IntKind.wrap_u64]; omega
    rw [htk, hwr]
    refine ⟨by rw [came_ord s _ ho, hq]; simp, fun _ => ⟨hq, rfl⟩, fun k => ?_⟩
    rw [came_ord _ _ (show (Fl.mk s.ordered s.send (s.recv + 1) s.ack s.sent s.written s.got).ordered = true from ho), came_ord s _ ho, hq]
    show (decide (0 < k) && decide (k < s.recv + 1)) = _
    by_cases e1 : k = s.recv
    · have : 0 < k := by omega
      simp [e1]; omega
    · by_cases e2 : 0 < k
      · by_cases e3 : k < s.recv
        · have : k < s.recv + 1 := by omega
          simp [e1, e2, e3, this]
        · have : ¬ k < s.recv + 1 := by omega
          simp [e1, e2, e3, this]
      · simp [e1, e2]
  | false =>
    rw [may_un s _ ho] at hm
    have hg : ¬ (p.seq = 0 ∨ s.got p.seq = true) := fun e => by rw [if_pos e] at hm; cases hm
    have htk : s.took p.seq = { s with got := upd s.got p.seq true } := by unfold Fl.took; rw [ho]; rfl
    rw [htk]
    refine ⟨by rw [came_un s _ ho]; cases hgp : s.got p.seq with | false => rfl | true => exact absurd (.inr hgp) hg, fun h => (by cases h), fun k => ?_⟩
    rw [came_un _ _ (show (Fl.mk s.ordered s.send s.recv s.ack s.sent s.written (upd s.got p.seq true)).ordered = false from ho), came_un s _ ho]
    show upd s.got p.seq true k = _
    by_cases e : k = p.seq
    · rw [e, upd_at]; simp
    · rw [upd_ne _ _ e]; simp [e]
theorem recvd_keeps' (s : Fl) (p : Pk) (h : Int) : (s.recvd p h).written = s.written ∧ (s.recvd p h).ordered = s.ordered := by
  unfold Fl.recvd
  split
  · unfold Fl.took
    split <;> exact ⟨rfl, rfl⟩
  · exact ⟨rfl, rfl⟩
theorem oi_recv (h : OInv o j fs a b hh last) (hj : j ≤ 80) (k : Nat) (hk : k < fs.length) (hc : b.recvCode fs[k].p hh = 0) :
    fs[k].came = 0 ∧ fs[k].timed = 0 ∧ (o = true → fs[k].p.seq = last + 1) ∧ OInv o j (fs.set k fs[k].c) a (b.recvd fs[k].p hh) hh fs[k].p.seq := by
  have hl := h.len
  have hl1 := h.l1
  have hl0 := h.l0
  obtain ⟨r1, r2, r3, r4⟩ := recvd_came b fs[k].p hh hc (fun ho => by rw [h.ord] at ho; rw [h.lst ho]; omega)
  have he := h.each k hk
  have kp := recvd_keeps' b fs[k].p hh
  have hc0 : fs[k].came = 0 := by
    have := he.cm
    rw [r2] at this
    have := of_decide_eq_false this.symm
    omega
  have ht0 : fs[k].timed = 0 := by
    cases ht : fs[k].timed with
    | zero => rfl
    | succ n =>
      have hm := he.miss (he.tim (by omega)).1
      unfold lateB at r1
      simp [hm.1, hm.2] at r1
  refine ⟨hc0, ht0, fun ho => ?_, ?_⟩
  · rw [(r3 (h.ord.trans ho)).1, h.lst ho]
  · refine oi_step h k hk fs[k].c rfl a (b.recvd fs[k].p hh) fs[k].p.seq rfl kp.2 (fun ho => ?_) (by rw [h.seq k hk]; omega) (by rw [h.seq k hk]; omega) (fun i hi => ?_) (fun i hi => ?_) ?_ (fun _ _ => rfl) (fun i hi => ?_)
    · have := r3 (h.ord.trans ho)
      rw [this.2, this.1]
    · rw [r4] at hi
      rcases Bool.or_eq_true _ _ ▸ hi with e | e
      · exact .inl (of_decide_eq_true e)
      · exact .inr e
    · rw [kp.1] at hi
      rw [r4, h.wr i hi]
      simp
    · refine ⟨he.ok, (by show fs[k].came + 1 ≤ 1; omega), he.at1, he.gone, he.miss, fun hg => (by have : 0 < fs[k].timed := hg; omega), ?_⟩
      show (b.recvd fs[k].p hh).came fs[k].p.seq = decide (0 < fs[k].came + 1)
      rw [r4]
      simp
    · rw [r4]
      simp [hi]
theorem oi_recv_no {p : Pk} (hc : b.recvCode p hh ≠ 0) : b.recvd p hh = b := by unfold Fl.recvd; rw [if_neg hc]
theorem writ_came (s : Fl) (k : Int) (x : ByteArray) : (∀ i, (s.writ k x).came i = s.came i) ∧ (s.writ k x).ordered = s.ordered ∧ (s.writ k x).recv = s.recv ∧ ∀ i, ((s.writ k x).written i).isSome = true → (s.written i).isSome = true ∨ s.came i = true := by
  unfold Fl.writ
  by_cases hc : s.wCode k = 0
  · rw [if_pos hc]
    refine ⟨fun _ => rfl, rfl, rfl, fun i hi => ?_⟩
    by_cases e : i = k
    · right
      subst e
      cases hca : s.came i with
      | true => rfl
      | false => unfold Fl.wCode at hc; rw [hca] at hc; cases hc
    · left
      have hi' : (upd s.written k (some (ansB x)) i).isSome = true := hi
      rwa [upd_ne _ _ e] at hi'
  · rw [if_neg hc]
    exact ⟨fun _ => rfl, rfl, rfl, fun i hi => .inl hi⟩
theorem oi_write (h : OInv o j fs a b hh last) (k : Int) (x : ByteArray) : OInv o j fs a (b.writ k x) hh last := by
  obtain ⟨w1, w2, w3, w4⟩ := writ_came b k x
  refine ⟨h.len, h.seq, h.send, w2.trans h.ord, fun ho => w3.trans (h.lst ho), h.l0, h.l1, fun i hi => h.beyond i (by rwa [w1] at hi), fun i hi => ?_, h.h0, h.h1, fun i hi => { h.each i hi with cm := (w1 _).trans (h.each i hi).cm }⟩
  rw [w1]
  rcases w4 i hi with e | e
  · exact h.wr i e
  · exact e
theorem oi_wcode (h : OInv o j fs a b hh last) (k : Nat) (hk : k < fs.length) : (b.wCode fs[k].p.seq != 185) = decide (0 < fs[k].came) := by
  have := (h.each k hk).cm
  unfold Fl.wCode
  rw [this]
  cases decide (0 < fs[k].came) with
  | false => rfl
  | true => cases (b.written fs[k].p.seq).isSome <;> rfl
theorem kept_some {s : Fl} {p : Pk} (h : s.keptB p = true) : s.sent p.seq ≠ none := fun e => by unfold Fl.keptB at h; rw [e] at h; cases h
theorem oi_ack (h : OInv o j fs a b hh last) (k : Nat) (hk : k < fs.length) (hw : (b.written fs[k].p.seq).isSome = true) (hc : a.ackCode fs[k].p = 0) : 0 < fs[k].came ∧ OInv o j (fs.set k fs[k].a) (a.acks fs[k].p) b hh last := by
  have he := h.each k hk
  have hca := h.wr _ hw
  rw [he.cm] at hca
  have hca := of_decide_eq_true hca
  have hkb : a.keptB fs[k].p = true := by
    cases hkb : a.keptB fs[k].p with
    | true => rfl
    | false => unfold Fl.ackCode at hc; rw [hkb] at hc; cases hc
  have hor : (a.ordered && fs[k].p.seq != a.ack) = false := by
    cases hor : (a.ordered && fs[k].p.seq != a.ack) with
    | false => rfl
    | true => unfold Fl.ackCode at hc; rw [hkb, hor] at hc; cases hc
  have hac : a.acks fs[k].p = a.acked fs[k].p := by unfold Fl.acks; rw [hkb, hor]; rfl
  have h2 : (a.acked fs[k].p).send = a.send ∧ (a.acked fs[k].p).sent = upd a.sent fs[k].p.seq none := by
    unfold Fl.acked
    split <;> exact ⟨rfl, rfl⟩
  have hz : ¬ 1 ≤ fs[k].acked + fs[k].timed := fun hg => kept_some hkb (he.gone hg)
  have ht : fs[k].timed = 0 := by omega
  refine ⟨hca, ?_⟩
  rw [hac]
  refine oi_step h k hk fs[k].a rfl (a.acked fs[k].p) b last h2.1 rfl h.lst h.l0 h.l1 (fun _ e => .inr e) h.wr ⟨he.ok, he.c1, by show fs[k].acked + 1 + fs[k].timed ≤ 1; omega, fun _ => ?_, he.miss, he.tim, he.cm⟩ (fun i hi => ?_) (fun _ _ => rfl)
  · show (a.acked fs[k].p).sent fs[k].p.seq = none
    rw [h2.2, upd_at]
  · rw [h2.2, upd_ne _ _ hi]
theorem oi_ack_no {p : Pk} (hc : a.ackCode p ≠ 0) : a.acks p = a := by
  unfold Fl.ackCode at hc
  unfold Fl.acks
  cases hk : a.keptB p with
  | false => rfl
  | true =>
    rw [hk] at hc
    cases ho : (a.ordered && p.seq != a.ack) with
    | true => rfl
    | false => rw [ho] at hc; exact absurd rfl hc
theorem oi_time (h : OInv o j fs a b hh last) (k : Nat) (hk : k < fs.length) (hm : fs[k].missed = true) (hz : fs[k].came = 0) (hc : a.toCode fs[k].p = 0) : OInv o j (fs.set k fs[k].t) (a.timed fs[k].p) b hh last := by
  have he := h.each k hk
  have hkb : a.keptB fs[k].p = true := by
    cases hkb : a.keptB fs[k].p with
    | true => rfl
    | false => unfold Fl.toCode at hc; rw [hkb] at hc; cases hc
  have htd : a.timed fs[k].p = a.drops fs[k].p.seq := by unfold Fl.timed; rw [hkb]; rfl
  have hz2 : ¬ 1 ≤ fs[k].acked + fs[k].timed := fun hg => kept_some hkb (he.gone hg)
  rw [htd]
  refine oi_step h k hk fs[k].t rfl (a.drops fs[k].p.seq) b last rfl rfl h.lst h.l0 h.l1 (fun _ e => .inr e) h.wr ⟨he.ok, he.c1, by show fs[k].acked + (fs[k].timed + 1) ≤ 1; omega, fun _ => ?_, he.miss, fun _ => ⟨hm, hz⟩, he.cm⟩ (fun i hi => ?_) (fun _ _ => rfl)
  · show upd a.sent fs[k].p.seq none fs[k].p.seq = none
    rw [upd_at]
  · exact upd_ne _ _ hi
theorem oi_time_no {p : Pk} (hc : a.toCode p ≠ 0) : a.timed p = a := by
  unfold Fl.toCode at hc
  unfold Fl.timed
  cases hk : a.keptB p with
  | false => rfl
  | true => rw [hk] at hc; exact absurd rfl hc
end
end Go.Proofs.YtpekbnkmnellpaaDoor
