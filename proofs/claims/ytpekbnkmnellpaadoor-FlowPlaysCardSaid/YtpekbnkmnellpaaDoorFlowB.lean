/-
  The flow as a plain machine: one contract for each of Recv, Write, Send, Timeout, Acknowledge.
-/
import Derived.Test.YtpekbnkmnellpaaDoorFlowA
namespace Go.Proofs.YtpekbnkmnellpaaDoor
open Go.RowKit Go.Maps
set_option linter.unusedVariables false

def Fl.recvCode (s : Fl) (p : Pk) (h : Int) : Int := if lateB p h then 182 else s.may p.seq
def Fl.recvd (s : Fl) (p : Pk) (h : Int) : Fl := if s.recvCode p h = 0 then s.took p.seq else s
theorem may_ord (s : Fl) (k : Int) (h : s.ordered = true) : s.may k = if k = s.recv then 0 else 183 := by unfold Fl.may; rw [h]; rfl
theorem may_un (s : Fl) (k : Int) (h : s.ordered = false) : s.may k = if k = 0 ∨ s.got k = true then 184 else 0 := by unfold Fl.may; rw [h]; rfl
theorem recv_is (w : World) (B : FB) (n : Nat) (s : Fl) (p : Pk) (h : Int) (F : FlowAt w B n s) (hq : u64r p.seq) (hn : n < maxLen) :
    Calls Tryd.prog 21 #[.pointer (some ⟨B.f, 0, none⟩), p.v, .int .u64 h] w fun e w' => e = .returned (.int .i64 (s.recvCode p h)) ∧ FlowAt w' B (n + 1) (s.recvd p h) ∧ Only B.l w w' := by
  unfold Fl.recvd Fl.recvCode
  cases hl : lateB p h with
  | true => exact (recv_late w B n s p h F hl).mono fun e w' ⟨h1, h2⟩ => ⟨h1, (F.below h2).mono (Nat.le_succ _), Only.of_below h2⟩
  | false =>
    obtain ⟨f, ms, mw, mg⟩ := B
    obtain ⟨od, sd, rv, ak, st, wt, gt⟩ := s
    cases od with
    | true =>
      by_cases hk : p.seq = rv
      · have hm : Fl.may ⟨true, sd, rv, ak, st, wt, gt⟩ p.seq = 0 := by rw [may_ord _ _ rfl]; exact if_pos hk
        rw [hm]
        exact (recv_ord w f ms mw mg n sd rv ak st wt gt p h F hl hk).mono fun e w' ⟨h1, h2, h3⟩ => ⟨h1, h2.mono (Nat.le_succ _), h3⟩
      · have hm : Fl.may ⟨true, sd, rv, ak, st, wt, gt⟩ p.seq = 183 := by rw [may_ord _ _ rfl]; exact if_neg hk
        rw [hm]
        exact (recv_ordno w f ms mw mg n sd rv ak st wt gt p h F hl hk).mono fun e w' ⟨h1, h2⟩ => ⟨h1, (F.below h2).mono (Nat.le_succ _), Only.of_below h2⟩
    | false =>
      by_cases hk : p.seq = 0 ∨ gt p.seq = true
      · have hm : Fl.may ⟨false, sd, rv, ak, st, wt, gt⟩ p.seq = 184 := by rw [may_un _ _ rfl]; exact if_pos hk
        rw [hm]
        exact (recv_unno w f ms mw mg n sd rv ak st wt gt p h F hl hq hk).mono fun e w' ⟨h1, h2⟩ => ⟨h1, (F.below h2).mono (Nat.le_succ _), Only.of_below h2⟩
      · have hm : Fl.may ⟨false, sd, rv, ak, st, wt, gt⟩ p.seq = 0 := by rw [may_un _ _ rfl]; exact if_neg hk
        rw [hm]
        exact (recv_un w f ms mw mg n sd rv ak st wt gt p h F hl hq hk hn).mono fun e w' ⟨h1, h2, h3⟩ => ⟨h1, h2, h3⟩
def Fl.wCode (s : Fl) (k : Int) : Int := if s.came k then (if (s.written k).isSome then 184 else 0) else 185
def Fl.writ (s : Fl) (k : Int) (a : ByteArray) : Fl := if s.wCode k = 0 then s.wrote k a else s
theorem fwrite_is (w : World) (G : Glob w) (B : FB) (n : Nat) (s : Fl) (k : Int) (a : ByteArray) (h : FlowAt w B n s) (hk : u64r k) (ha : a.size ≤ 140737488351232) (hn : n < maxLen) :
    Calls Tryd.prog 24 #[.pointer (some ⟨B.f, 0, none⟩), .int .u64 k, .string a] w fun e w' => e = .returned (.int .i64 (s.wCode k)) ∧ FlowAt w' B (n + 1) (s.writ k a) ∧ Only B.l w w' := by
  unfold Fl.writ
  cases hc : s.came k with
  | false =>
    have e : s.wCode k = 185 := by unfold Fl.wCode; rw [hc]; rfl
    rw [e]
    exact (write_none w B n s k a h hk hc).mono fun e w' ⟨h1, h2⟩ => ⟨h1, h2 ▸ h.mono (Nat.le_succ _), h2 ▸ Only.refl _ _⟩
  | true =>
    cases hw : (s.written k).isSome with
    | true =>
      have e : s.wCode k = 184 := by unfold Fl.wCode; rw [hc, hw]; rfl
      rw [e]
      exact (write_twice w B n s k a h hk hc hw).mono fun e w' ⟨h1, h2⟩ => ⟨h1, h2 ▸ h.mono (Nat.le_succ _), h2 ▸ Only.refl _ _⟩
    | false =>
      have e : s.wCode k = 0 := by unfold Fl.wCode; rw [hc, hw]; rfl
      rw [e]
      exact (write_ok w G B n s k a h hk hc hw ha hn).mono fun e w' ⟨h1, h2, h3⟩ => ⟨h1, h2, h3⟩
/-- the packet that Send makes, the number that it tells -/
def Fl.pkt (s : Fl) (fr to_ : Int) (dt : ByteArray) (tm : Int) : Pk := if 400 < dt.size then Pk.zero else ⟨s.send, fr, to_, dt, tm⟩
def sendCode (dt : ByteArray) : Int := if 400 < dt.size then 181 else 0
def Fl.sendd (s : Fl) (fr to_ : Int) (dt : ByteArray) (tm : Int) : Fl := if 400 < dt.size then s else s.sends ⟨s.send, fr, to_, dt, tm⟩
theorem send_is (w : World) (G : Glob w) (B : FB) (n : Nat) (s : Fl) (fr to_ tm : Int) (dt : ByteArray) (F : FlowAt w B n s) (h1 : u64r fr) (h2 : u64r to_) (h3 : u64r tm) (hd : dt.size ≤ 140737488351232) (hn : n < maxLen) :
    Calls Tryd.prog 25 #[.pointer (some ⟨B.f, 0, none⟩), .int .u64 fr, .int .u64 to_, .string dt, .int .u64 tm] w fun e w' => e = .returned (.tuple #[(s.pkt fr to_ dt tm).v, .int .i64 (sendCode dt)]) ∧ FlowAt w' B (n + 1) (s.sendd fr to_ dt tm) ∧ Only B.l w w' := by
  unfold Fl.pkt sendCode Fl.sendd
  by_cases h : 400 < dt.size
  · rw [if_pos h, if_pos h, if_pos h]
    exact (send_long w B.f fr to_ tm dt h hd).mono fun e w' ⟨h1, h2⟩ => ⟨h1, (F.below h2).mono (Nat.le_succ _), Only.of_below h2⟩
  · rw [if_neg h, if_neg h, if_neg h]
    obtain ⟨f, ms, mw, mg⟩ := B
    obtain ⟨od, sd, rv, ak, st, wt, gt⟩ := s
    exact (send_ok w G f ms mw mg n od sd rv ak st wt gt fr to_ tm dt F ⟨F.send, h1, h2, h3, hd⟩ (by omega) hn).mono fun e w' ⟨h1, h2, h3⟩ => ⟨h1, h2, h3⟩
theorem ack_is (w : World) (G : Glob w) (B : FB) (n : Nat) (s : Fl) (p : Pk) (F : FlowAt w B n s) (hp : p.ok) :
    Calls Tryd.prog 27 #[.pointer (some ⟨B.f, 0, none⟩), p.v] w fun e w' => e = .returned (.int .i64 (s.ackCode p)) ∧ FlowAt w' B n (s.acks p) ∧ Only B.l w w' := by
  obtain ⟨od, sd, rv, ak, st, wt, gt⟩ := s
  obtain ⟨sq, fr, to_, dt, tm⟩ := p
  exact ack_core w G B n od sd rv ak st wt gt sq fr to_ tm dt F hp _ _ (Lib.hid rfl) (Lib.hid rfl)
def Fl.toCode (s : Fl) (p : Pk) : Int := if s.keptB p then 0 else 185
def Fl.timed (s : Fl) (p : Pk) : Fl := if s.keptB p then s.drops p.seq else s
theorem tout_is (w : World) (G : Glob w) (B : FB) (n : Nat) (s : Fl) (p : Pk) (F : FlowAt w B n s) (hp : p.ok) :
    Calls Tryd.prog 26 #[.pointer (some ⟨B.f, 0, none⟩), p.v] w fun e w' => e = .returned (.int .i64 (s.toCode p)) ∧ FlowAt w' B n (s.timed p) ∧ Only B.l w w' :=
  timeout_is w G B n s p F hp _ rfl
theorem next_same (w : World) (B : FB) (n : Nat) (s : Fl) (h : FlowAt w B n s) :
    Calls Tryd.prog 29 #[.pointer (some ⟨B.f, 0, none⟩)] w fun e w' => e = .returned (.tuple #[.int .u64 s.send, .int .u64 s.recv, .int .u64 s.ack]) ∧ Below w.heap.size w w' :=
  (next_is w B n s h).mono fun e w' ⟨h1, m, h2⟩ => ⟨h1, h2 ▸ below_drewN' (Below.refl _ w) m⟩
end Go.Proofs.YtpekbnkmnellpaaDoor
