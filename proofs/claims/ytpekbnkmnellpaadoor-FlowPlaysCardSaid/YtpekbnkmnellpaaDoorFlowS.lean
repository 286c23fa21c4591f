/-
  The walk of channel's Send.
-/
import Derived.Test.YtpekbnkmnellpaaDoorFlowR
import Derived.StillTailTactics
namespace Go.Proofs.YtpekbnkmnellpaaDoor
open Go.RowKit Go.Maps
set_option linter.unusedVariables false

def Pk.zero : Pk := ⟨0, 0, 0, ⟨#[]⟩, 0⟩
set_option maxHeartbeats 1000000 in
theorem send_long (w : World) (f : Nat) (fr to_ tm : Int) (dt : ByteArray) (hd : 400 < dt.size) (hd2 : dt.size ≤ 140737488351232) :
    Calls Tryd.prog 25 #[.pointer (some ⟨f, 0, none⟩), .int .u64 fr, .int .u64 to_, .string dt, .int .u64 tm] w fun e w' => e = .returned (.tuple #[Pk.zero.v, .int .i64 181]) ∧ Below w.heap.size w w' := by
  go_enter Tryd.func25, Tryd.ntmps25
  go_wp2_with fail
  refine bodyPost_ret (v := .tuple #[Pk.zero.v, .int .i64 181]) (by simp [results, Tryd.results25, go_sem, Pk.zero, Pk.v]) rfl ⟨rfl, ?_⟩
  exact balloc (Below.refl _ w) _
/-- a flow behind a Send -/
def Fl.sends (s : Fl) (p : Pk) : Fl := { s with send := IntKind.u64.wrap (s.send + 1), sent := upd s.sent s.send (some p.comm) }
theorem Only.row (w : World) (g : Nat) (cs : Array Value) : Only [g] w (w.setRow g cs) := ⟨rfl, rfl, rfl, by simp, fun k _ hk => setRow_other w g k _ (by simpa using hk)⟩
theorem Only.below_row {S : List Nat} {w w' : World} (h : Only S w w') (cs : Array Value) : Only S w (w'.setRow w.heap.size cs) :=
  ⟨h.os, h.tape, h.output, by simpa using h.size, fun k hk hs => (setRow_other w' w.heap.size k _ (by omega)).trans (h.block k hk hs)⟩
theorem comm_len {p : Pk} : p.comm.size ≤ maxLen := by
  unfold Pk.comm
  rw [sumB_size]
  unfold maxLen
  omega
def SendRest (w : World) (f ms mw mg n : Nat) (od : Bool) (sd rv ak : Int) (st wt : Int → Option ByteArray) (gt : Int → Bool) (fr to_ tm : Int) (dt : ByteArray) (w3 : World) : Prop :=
  FlowAt w3 ⟨f, ms, mw, mg⟩ (n + 1) ⟨od, sd, rv, ak, upd st sd (some (Pk.mk sd fr to_ dt tm).comm), wt, gt⟩ ∧ Only [f, ms, mw, mg] w w3 ∧ Blk w3 w.heap.size 24 #[.int .u64 0, .int .u64 0, .int .u64 0, .string ⟨#[]⟩, .int .u64 0] ∧
    Blk w3 (w.heap.size + 1) 24 #[.int .u64 sd, .int .u64 fr, .int .u64 to_, .string dt, .int .u64 tm]
theorem send_mid {w w1 w2 : World} {f ms mw mg n : Nat} {od : Bool} {sd rv ak : Int} {st wt : Int → Option ByteArray} {gt : Int → Bool} {fr to_ tm : Int} {dt : ByteArray} (F : FlowAt w ⟨f, ms, mw, mg⟩ n ⟨od, sd, rv, ak, st, wt, gt⟩) (F1 : FlowAt w1 ⟨f, ms, mw, mg⟩ n ⟨od, sd, rv, ak, st, wt, gt⟩)
    (R1 : Blk w1 w.heap.size 24 #[.int .u64 0, .int .u64 0, .int .u64 0, .string ⟨#[]⟩, .int .u64 0]) (P1 : Blk w1 (w.heap.size + 1) 24 #[.int .u64 sd, .int .u64 fr, .int .u64 to_, .string dt, .int .u64 tm]) (L1 : Below w.heap.size w w1) (hb2 : Below w1.drew.heap.size w1.drew w2) (hq : u64r sd) (hn : n < maxLen) :
    (w2.cell? ⟨f, 6, none⟩ = some (.map (some ms)) ∧ w2.cell? ⟨w.heap.size + 1, 0, none⟩ = some (.int .u64 sd) ∧ w2.cell? ⟨w.heap.size + 1, 1, none⟩ = some (.int .u64 fr) ∧ w2.cell? ⟨w.heap.size + 1, 2, none⟩ = some (.int .u64 to_) ∧ w2.cell? ⟨w.heap.size + 1, 3, none⟩ = some (.string dt) ∧ w2.cell? ⟨w.heap.size + 1, 4, none⟩ = some (.int .u64 tm)) ∧
    ∃ w3, (Instr.mapUpdate 91 (.map (some ms)) (.int .u64 sd) (.string (Pk.comm ⟨sd, fr, to_, dt, tm⟩))).run Tryd.prog w2 = .ok () w3 ∧
      (w3.cell? ⟨f, 6, none⟩ = some (.map (some ms)) ∧ w3.cell? ⟨w.heap.size + 1, 0, none⟩ = some (.int .u64 sd) ∧ w3.cell? ⟨w.heap.size + 1, 1, none⟩ = some (.int .u64 fr) ∧ w3.cell? ⟨w.heap.size + 1, 2, none⟩ = some (.int .u64 to_) ∧ w3.cell? ⟨w.heap.size + 1, 3, none⟩ = some (.string dt) ∧ w3.cell? ⟨w.heap.size + 1, 4, none⟩ = some (.int .u64 tm)) ∧
      Hid (SendRest w f ms mw mg n od sd rv ak st wt gt fr to_ tm dt w3) := by
  have F2 := F1.drew.below hb2
  have R2 := R1.drew.below hb2
  have P2 := P1.drew.below hb2
  have O2 := Only.of_below (S := [f, ms, mw, mg]) (bstep L1.drew hb2)
  obtain ⟨w3, hrun, hm3, ht3⟩ := F2.ms.store hq (Pk.comm ⟨sd, fr, to_, dt, tm⟩) comm_len hn
  have hms : ms < w.heap.size := F.ms.lt
  have F3 := flow_sent F2 ht3 _ hm3 (Nat.le_succ _)
  have O3 := O2.turned ht3 (by simp)
  have R3 : Blk w3 w.heap.size 24 #[.int .u64 0, .int .u64 0, .int .u64 0, .string ⟨#[]⟩, .int .u64 0] := (turned_other ht3 R2.lt (fun e => by have e' : w.heap.size = ms := e; omega)).trans R2
  have P3 : Blk w3 (w.heap.size + 1) 24 #[.int .u64 sd, .int .u64 fr, .int .u64 to_, .string dt, .int .u64 tm] := (turned_other ht3 P2.lt (fun e => by have e' : w.heap.size + 1 = ms := e; omega)).trans P2
  exact ⟨⟨F2.blk.cell 6, P2.cell 0, P2.cell 1, P2.cell 2, P2.cell 3, P2.cell 4⟩, w3, hrun, ⟨F3.blk.cell 6, P3.cell 0, P3.cell 1, P3.cell 2, P3.cell 3, P3.cell 4⟩, Lib.hid ⟨F3, O3, R3, P3⟩⟩
set_option maxRecDepth 100000 in
set_option maxHeartbeats 2000000 in
theorem send_ok (w : World) (G : Glob w) (f ms mw mg n : Nat) (od : Bool) (sd rv ak : Int) (st wt : Int → Option ByteArray) (gt : Int → Bool) (fr to_ tm : Int) (dt : ByteArray) (F : FlowAt w ⟨f, ms, mw, mg⟩ n ⟨od, sd, rv, ak, st, wt, gt⟩)
    (hp : (Pk.mk sd fr to_ dt tm).ok) (hd : dt.size ≤ 400) (hn : n < maxLen) :
    Calls Tryd.prog 25 #[.pointer (some ⟨f, 0, none⟩), .int .u64 fr, .int .u64 to_, .string dt, .int .u64 tm] w fun e w' => e = .returned (.tuple #[(Pk.mk sd fr to_ dt tm).v, .int .i64 0]) ∧
      FlowAt w' ⟨f, ms, mw, mg⟩ (n + 1) ⟨od, IntKind.u64.wrap (sd + 1), rv, ak, upd st sd (some (Pk.mk sd fr to_ dt tm).comm), wt, gt⟩ ∧ Only [f, ms, mw, mg] w w' := by
  have HG := Lib.hid G
  have HF := Lib.hid F
  have HP := Lib.hid hp
  have c3 : (w.alloc (.cells #[.int .u64 0, .int .u64 0, .int .u64 0, .string ⟨#[]⟩, .int .u64 0] 24)).cell? ⟨f, 3, none⟩ = some (.int .u64 sd) := (F.alloc _).blk.cell 3
  clear G F hp
  go_enter Tryd.func25, Tryd.ntmps25
  go_upto_region 4 with fail
  have hF1 := (HF.out.alloc (.cells #[.int .u64 0, .int .u64 0, .int .u64 0, .string ⟨#[]⟩, .int .u64 0] 24)).alloc (.cells #[.int .u64 sd, .int .u64 fr, .int .u64 to_, .string dt, .int .u64 tm] 24)
  have hR1 := (Blk.new w 24 #[.int .u64 0, .int .u64 0, .int .u64 0, .string ⟨#[]⟩, .int .u64 0]).alloc (.cells #[.int .u64 sd, .int .u64 fr, .int .u64 to_, .string dt, .int .u64 tm] 24)
  have hP1 := Blk.new (w.alloc (.cells #[.int .u64 0, .int .u64 0, .int .u64 0, .string ⟨#[]⟩, .int .u64 0] 24)) 24 #[.int .u64 sd, .int .u64 fr, .int .u64 to_, .string dt, .int .u64 tm]
  have hL1 := balloc (balloc (Below.refl _ w) (.cells #[.int .u64 0, .int .u64 0, .int .u64 0, .string ⟨#[]⟩, .int .u64 0] 24)) (.cells #[.int .u64 sd, .int .u64 fr, .int .u64 to_, .string dt, .int .u64 tm] 24)
  rw [show (w.alloc (.cells #[.int .u64 0, .int .u64 0, .int .u64 0, .string ⟨#[]⟩, .int .u64 0] 24)).heap.size = w.heap.size + 1 by simp] at hP1
  generalize (w.alloc (.cells #[.int .u64 0, .int .u64 0, .int .u64 0, .string ⟨#[]⟩, .int .u64 0] 24)).alloc (.cells #[.int .u64 sd, .int .u64 fr, .int .u64 to_, .string dt, .int .u64 tm] 24) = w1 at hF1 hR1 hP1 hL1 ⊢
  have c6 : w1.cell? ⟨f, 6, none⟩ = some (.map (some ms)) := hF1.blk.cell 6
  have p0 : w1.cell? ⟨w.heap.size + 1, 0, none⟩ = some (.int .u64 sd) := hP1.cell 0
  have p1 : w1.cell? ⟨w.heap.size + 1, 1, none⟩ = some (.int .u64 fr) := hP1.cell 1
  have p2 : w1.cell? ⟨w.heap.size + 1, 2, none⟩ = some (.int .u64 to_) := hP1.cell 2
  have p3 : w1.cell? ⟨w.heap.size + 1, 3, none⟩ = some (.string dt) := hP1.cell 3
  have p4 : w1.cell? ⟨w.heap.size + 1, 4, none⟩ = some (.int .u64 tm) := hP1.cell 4
  have HF1 := Lib.hid hF1
  have HR1 := Lib.hid hR1
  have HP1 := Lib.hid hP1
  have HL1 := Lib.hid hL1
  have HG1 := Lib.hid (HG.out.below hL1 HG.out.two)
  clear hF1 hR1 hP1 hL1 c3
  go_region_held3 (fun w' => w'.cell? ⟨f, 6, none⟩ = some (.map (some ms)) ∧ w'.cell? ⟨w.heap.size + 1, 0, none⟩ = some (.int .u64 sd) ∧ w'.cell? ⟨w.heap.size + 1, 1, none⟩ = some (.int .u64 fr) ∧ w'.cell? ⟨w.heap.size + 1, 2, none⟩ = some (.int .u64 to_) ∧ w'.cell? ⟨w.heap.size + 1, 3, none⟩ = some (.string dt) ∧ w'.cell? ⟨w.heap.size + 1, 4, none⟩ = some (.int .u64 tm)) (first | go_keep | exact hS2 | exact hS3)
    (first | (go_at_call 14; refine (commitment_is ⟨sd, fr, to_, dt, tm⟩ w1.drew ⟨HG1.out.k, HG1.out.first⟩ HP.out).mono ?_; rintro e w2 ⟨rfl, hb2⟩; obtain ⟨hS2, w3, hrun, hS3, HM⟩ := send_mid HF.out HF1.out HR1.out HP1.out HL1.out hb2 HP.out.seq hn; clear c6 p0 p1 p2 p3 p4))
  obtain ⟨hF3, hO3, hR3, hP3⟩ := HM.out
  clear hS2 hS3
  have HF3 := Lib.hid hF3
  have HO3 := Lib.hid hO3
  clear hF3 hO3 HM
  have hfl : f < w.heap.size := HF.out.blk.lt
  have HF4 := Lib.hid (flow_set (i := 3) (u := .int .u64 (IntKind.u64.wrap (sd + 1))) HF3.out ⟨od, IntKind.u64.wrap (sd + 1), rv, ak, upd st sd (some (Pk.comm ⟨sd, fr, to_, dt, tm⟩)), wt, gt⟩ rfl rfl rfl rfl (wrap_r _) HF.out.recv HF.out.ack)
  have HO4 := Lib.hid (HO3.out.set_ (g := f) (i := 3) (by simp) (.int .u64 (IntKind.u64.wrap (sd + 1))))
  have hR4 := hR3.other f 3 (.int .u64 (IntKind.u64.wrap (sd + 1))) (by omega)
  have hP4 := hP3.other f 3 (.int .u64 (IntKind.u64.wrap (sd + 1))) (by omega)
  have c3 : w3.cell? ⟨f, 3, none⟩ = some (.int .u64 sd) := HF3.out.blk.cell 3
  have f3 := HF3.out.blk.frozen 3
  clear hR3 hP3
  have HR4 := Lib.hid hR4
  have HP4 := Lib.hid hP4
  clear hR4 hP4
  go_upto_region 6 with fail
  generalize w3.setCell ⟨f, 3, none⟩ (.int .u64 (IntKind.u64.wrap (sd + 1))) = w4 at HR4 HP4 HF4 HO4 ⊢
  have q0 : w4.cell? ⟨w.heap.size + 1, 0, none⟩ = some (.int .u64 sd) := HP4.out.cell 0
  have q1 : w4.cell? ⟨w.heap.size + 1, 1, none⟩ = some (.int .u64 fr) := HP4.out.cell 1
  have q2 : w4.cell? ⟨w.heap.size + 1, 2, none⟩ = some (.int .u64 to_) := HP4.out.cell 2
  have q3 : w4.cell? ⟨w.heap.size + 1, 3, none⟩ = some (.string dt) := HP4.out.cell 3
  have q4 : w4.cell? ⟨w.heap.size + 1, 4, none⟩ = some (.int .u64 tm) := HP4.out.cell 4
  have HRow : Hid (w4.heap[w.heap.size]? = some (.cells #[.int .u64 0, .int .u64 0, .int .u64 0, .string ⟨#[]⟩, .int .u64 0] 24 (0, 0))) := Lib.hid HR4.out
  clear c3 f3
  go_wp2_with (refine wpList_store_row rfl 24 _ _ rfl w.heap.size #[.int .u64 sd, .int .u64 fr, .int .u64 to_, .string dt, .int .u64 tm] rfl rfl _ _ HRow.out (by kernel_rfl) rfl (by simp [Value.oneCell']) ?_)
  have HB5 := Lib.hid (setRow_heap w4 w.heap.size _ #[.int .u64 sd, .int .u64 fr, .int .u64 to_, .string dt, .int .u64 tm] 24 _ HRow.out)
  have HF5 := Lib.hid (HF4.out.kept (S := [w.heap.size]) (Only.row w4 w.heap.size #[.int .u64 sd, .int .u64 fr, .int .u64 to_, .string dt, .int .u64 tm]) (fun x hx => by have := HF.out.lt x hx; simp; omega))
  have HO5 := Lib.hid (Only.below_row HO4.out #[.int .u64 sd, .int .u64 fr, .int .u64 to_, .string dt, .int .u64 tm])
  refine bodyPost_ret (v := .tuple #[(Pk.mk sd fr to_ dt tm).v, .int .i64 0]) ?_ rfl ⟨rfl, HF5.out, HO5.out⟩
  have d0 := (show Blk (w4.setRow w.heap.size #[.int .u64 sd, .int .u64 fr, .int .u64 to_, .string dt, .int .u64 tm]) w.heap.size 24 #[.int .u64 sd, .int .u64 fr, .int .u64 to_, .string dt, .int .u64 tm] from HB5.out).cell 0
  have d1 := (show Blk (w4.setRow w.heap.size #[.int .u64 sd, .int .u64 fr, .int .u64 to_, .string dt, .int .u64 tm]) w.heap.size 24 #[.int .u64 sd, .int .u64 fr, .int .u64 to_, .string dt, .int .u64 tm] from HB5.out).cell 1
  have d2 := (show Blk (w4.setRow w.heap.size #[.int .u64 sd, .int .u64 fr, .int .u64 to_, .string dt, .int .u64 tm]) w.heap.size 24 #[.int .u64 sd, .int .u64 fr, .int .u64 to_, .string dt, .int .u64 tm] from HB5.out).cell 2
  have d3 := (show Blk (w4.setRow w.heap.size #[.int .u64 sd, .int .u64 fr, .int .u64 to_, .string dt, .int .u64 tm]) w.heap.size 24 #[.int .u64 sd, .int .u64 fr, .int .u64 to_, .string dt, .int .u64 tm] from HB5.out).cell 3
  have d4 := (show Blk (w4.setRow w.heap.size #[.int .u64 sd, .int .u64 fr, .int .u64 to_, .string dt, .int .u64 tm]) w.heap.size 24 #[.int .u64 sd, .int .u64 fr, .int .u64 to_, .string dt, .int .u64 tm] from HB5.out).cell 4
  simp at d0 d1 d2 d3 d4
  simp [results, Tryd.results25, go_sem, Pk.v, d0, d1, d2, d3, d4]
end Go.Proofs.YtpekbnkmnellpaaDoor
