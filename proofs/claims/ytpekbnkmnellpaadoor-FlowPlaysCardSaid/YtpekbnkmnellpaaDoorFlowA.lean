/-
  Acknowledge; one contract for Recv, Write, Send, Timeout, Acknowledge.
-/
import Derived.Test.YtpekbnkmnellpaaDoorFlowU
namespace Go.Proofs.YtpekbnkmnellpaaDoor
open Go.RowKit Go.Maps
set_option linter.unusedVariables false

def Fl.ackCode (s : Fl) (p : Pk) : Int := if s.keptB p then (if s.ordered && p.seq != s.ack then 183 else 0) else 185
def Fl.acked (s : Fl) (p : Pk) : Fl := if s.ordered then { s with ack := IntKind.u64.wrap (s.ack + 1), sent := upd s.sent p.seq none } else s.drops p.seq
def Fl.acks (s : Fl) (p : Pk) : Fl := if s.keptB p then (if s.ordered && p.seq != s.ack then s else s.acked p) else s
set_option maxRecDepth 100000 in
set_option maxHeartbeats 1000000 in
theorem ack_core (w : World) (G : Glob w) (B : FB) (n : Nat) (od : Bool) (sd rv ak : Int) (st wt : Int → Option ByteArray) (gt : Int → Bool) (sq fr to_ tm : Int) (dt : ByteArray) (F : FlowAt w B n ⟨od, sd, rv, ak, st, wt, gt⟩) (hp : (Pk.mk sq fr to_ dt tm).ok) (kb ne : Bool) (hkb : Hid (Fl.keptB ⟨od, sd, rv, ak, st, wt, gt⟩ ⟨sq, fr, to_, dt, tm⟩ = kb)) (hne : Hid ((sq != ak) = ne)) :
    Calls Tryd.prog 27 #[.pointer (some ⟨B.f, 0, none⟩), .agg #[.int .u64 sq, .int .u64 fr, .int .u64 to_, .string dt, .int .u64 tm]] w fun e w' =>
      e = .returned (.int .i64 (if kb then (if od && ne then 183 else 0) else 185)) ∧ FlowAt w' B n (if kb then (if od && ne then ⟨od, sd, rv, ak, st, wt, gt⟩ else Fl.acked ⟨od, sd, rv, ak, st, wt, gt⟩ ⟨sq, fr, to_, dt, tm⟩) else ⟨od, sd, rv, ak, st, wt, gt⟩) ∧ Only B.l w w' := by
  have HG := Lib.hid G
  have HF := Lib.hid F
  have HP := Lib.hid hp
  have hq : u64r sq := hp.seq
  have hb := balloc (Below.refl _ w) (.cells #[.int .u64 sq, .int .u64 fr, .int .u64 to_, .string dt, .int .u64 tm] 24)
  have hB := Blk.new w 24 #[.int .u64 sq, .int .u64 fr, .int .u64 to_, .string dt, .int .u64 tm]
  have F1 := F.alloc (.cells #[.int .u64 sq, .int .u64 fr, .int .u64 to_, .string dt, .int .u64 tm] 24)
  have G1 := G.alloc (.cells #[.int .u64 sq, .int .u64 fr, .int .u64 to_, .string dt, .int .u64 tm] 24)
  clear G F hp
  go_enter Tryd.func27, Tryd.ntmps27
  go_wp2_with fail
  generalize w.alloc (.cells #[.int .u64 sq, .int .u64 fr, .int .u64 to_, .string dt, .int .u64 tm] 24) = w1 at hb hB F1 G1 ⊢
  have p0 : w1.cell? ⟨w.heap.size, 0, none⟩ = some (.int .u64 sq) := hB.cell 0
  have p1 : w1.cell? ⟨w.heap.size, 1, none⟩ = some (.int .u64 fr) := hB.cell 1
  have p2 : w1.cell? ⟨w.heap.size, 2, none⟩ = some (.int .u64 to_) := hB.cell 2
  have p3 : w1.cell? ⟨w.heap.size, 3, none⟩ = some (.string dt) := hB.cell 3
  have p4 : w1.cell? ⟨w.heap.size, 4, none⟩ = some (.int .u64 tm) := hB.cell 4
  have HF1 := Lib.hid F1
  have HG1 := Lib.hid G1
  have HB := Lib.hid hB
  have HL := Lib.hid hb
  clear F1 G1 hB hb
  go_wp2_with fail
  refine (kept_is w1 HG1.out B n ⟨od, sd, rv, ak, st, wt, gt⟩ ⟨sq, fr, to_, dt, tm⟩ HF1.out HP.out).mono ?_
  rw [hkb.out]
  rintro e w2 ⟨rfl, hb2⟩
  have HF2 := Lib.hid (HF1.out.below hb2)
  have HB2 := Lib.hid (HB.out.below hb2)
  have HL2 := Lib.hid (bstep HL.out hb2)
  clear hb2 p0 p1 p2 p3 p4 HF1 HG1 HB HL
  have hrS := HF.out.send
  have hrR := HF.out.recv
  have hrW := wrap_r (ak + 1)
  cases kb with
  | false =>
    go_wp2_with fail
    go_ret
    exact ⟨rfl, HF2.out, Only.of_below HL2.out⟩
  | true =>
    have c2 : w2.cell? ⟨B.f, 2, none⟩ = some (.bool od) := HF2.out.blk.cell 2
    have c5 : w2.cell? ⟨B.f, 5, none⟩ = some (.int .u64 ak) := HF2.out.blk.cell 5
    have p0 : w2.cell? ⟨w.heap.size, 0, none⟩ = some (.int .u64 sq) := HB2.out.cell 0
    have t0 := hne.out
    cases od with
    | false =>
      go_upto_region 3 with fail
      go_quiet (fail)
      have HF3 := Lib.hid (HF2.out.drewN nq)
      have HB3 : Hid (Blk (w2.drewN nq) w.heap.size 24 #[.int .u64 sq, .int .u64 fr, .int .u64 to_, .string dt, .int .u64 tm]) := Lib.hid HB2.out
      have HL3 := Lib.hid (below_drewN' HL2.out nq)
      clear c2 c5 p0 HF2 HB2 HL2
      generalize w2.drewN nq = w3 at HF3 HB3 HL3 ⊢
      have c2 : w3.cell? ⟨B.f, 2, none⟩ = some (.bool false) := HF3.out.blk.cell 2
      have c6 : w3.cell? ⟨B.f, 6, none⟩ = some (.map (some B.ms)) := HF3.out.blk.cell 6
      have p0 : w3.cell? ⟨w.heap.size, 0, none⟩ = some (.int .u64 sq) := HB3.out.cell 0
      obtain ⟨w4, hrun, hm4, ht4⟩ := HF3.out.drew.ms.drop hq 0
      have HR := Lib.hid (flow_sent HF3.out.drew ht4 _ hm4 (Nat.le_refl _))
      have HO := Lib.hid ((Only.of_below (S := B.l) HL3.out).drew.turned ht4 (by simp [FB.l]))
      clear hm4 ht4 HF3 HL3 HB3
      go_upto_region 7 with fail
      go_region
      go_wp2_with fail
      go_ret
      exact ⟨rfl, HR.out, HO.out⟩
    | true =>
      cases ne with
      | true =>
        go_upto_region 3 with fail
        go_quiet (fail)
        go_wp2_with fail
        go_ret
        exact ⟨rfl, HF2.out.drewN nq, (Only.of_below HL2.out).drewN nq⟩
      | false =>
        go_upto_region 3 with fail
        go_quiet (fail)
        have HF3 := Lib.hid (HF2.out.drewN nq)
        have HB3 : Hid (Blk (w2.drewN nq) w.heap.size 24 #[.int .u64 sq, .int .u64 fr, .int .u64 to_, .string dt, .int .u64 tm]) := Lib.hid HB2.out
        have HL3 := Lib.hid (below_drewN' HL2.out nq)
        clear c2 c5 p0 HF2 HB2 HL2
        generalize w2.drewN nq = w3 at HF3 HB3 HL3 ⊢
        have c2 : w3.cell? ⟨B.f, 2, none⟩ = some (.bool true) := HF3.out.blk.cell 2
        have c5 : w3.cell? ⟨B.f, 5, none⟩ = some (.int .u64 ak) := HF3.out.blk.cell 5
        have f5 := HF3.out.blk.frozen 5
        have hf := HF.out.blk.lt
        have hs := flow_set (i := 5) (u := .int .u64 (IntKind.u64.wrap (ak + 1))) HF3.out ⟨true, sd, rv, IntKind.u64.wrap (ak + 1), st, wt, gt⟩ rfl rfl rfl rfl hrS hrR hrW
        have hB4 := HB3.out.other B.f 5 (.int .u64 (IntKind.u64.wrap (ak + 1))) (by omega)
        have hO4 := (Only.of_below (S := B.l) HL3.out).set_ (g := B.f) (i := 5) (by simp [FB.l]) (.int .u64 (IntKind.u64.wrap (ak + 1)))
        go_upto_region 7 with fail
        clear c2 c5 f5 HF3 HB3 HL3
        generalize w3.setCell ⟨B.f, 5, none⟩ (.int .u64 (IntKind.u64.wrap (ak + 1))) = w5 at hs hB4 hO4 ⊢
        have c6 : w5.cell? ⟨B.f, 6, none⟩ = some (.map (some B.ms)) := hs.blk.cell 6
        have p0 : w5.cell? ⟨w.heap.size, 0, none⟩ = some (.int .u64 sq) := hB4.cell 0
        obtain ⟨w4, hrun, hm4, ht4⟩ := hs.drew.ms.drop hq 0
        have HR := Lib.hid (flow_sent hs.drew ht4 _ hm4 (Nat.le_refl _))
        have HO := Lib.hid (hO4.drew.turned ht4 (by simp [FB.l]))
        clear hm4 ht4 hs hB4 hO4
        go_region
        go_wp2_with fail
        go_ret
        exact ⟨rfl, HR.out, HO.out⟩
end Go.Proofs.YtpekbnkmnellpaaDoor
