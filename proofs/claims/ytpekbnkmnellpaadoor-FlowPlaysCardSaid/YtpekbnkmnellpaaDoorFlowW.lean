/-
  The walks of channel's Next, Written, Write; of pick.
-/
import Derived.Test.YtpekbnkmnellpaaDoorFlowS
namespace Go.Proofs.YtpekbnkmnellpaaDoor
open Go.RowKit Go.Maps
set_option linter.unusedVariables false

set_option maxHeartbeats 1000000 in
theorem written_is (w : World) (B : FB) (n : Nat) (s : Fl) (k : Int) (h : FlowAt w B n s) (hk : u64r k) :
    Calls Tryd.prog 23 #[.pointer (some ⟨B.f, 0, none⟩), .int .u64 k] w fun e w' => e = .returned (.tuple #[.string ((s.written k).getD ByteArray.empty), .bool (s.written k).isSome]) ∧ w = w' := by
  have c7 : w.cell? ⟨B.f, 7, none⟩ = some (.map (some B.mw)) := h.blk.cell 7
  have hl := h.mw.look hk
  generalize (s.written k).getD ByteArray.empty = v at hl ⊢
  generalize (s.written k).isSome = b at hl ⊢
  have HH := Lib.hid h
  clear h
  go_enter Tryd.func23, Tryd.ntmps23
  go_wp2_with fail
  go_ret2
  exact ⟨rfl, rfl⟩
set_option maxHeartbeats 1000000 in
theorem next_is (w : World) (B : FB) (n : Nat) (s : Fl) (h : FlowAt w B n s) :
    Calls Tryd.prog 29 #[.pointer (some ⟨B.f, 0, none⟩)] w fun e w' => e = .returned (.tuple #[.int .u64 s.send, .int .u64 s.recv, .int .u64 s.ack]) ∧ ∃ m, w' = w.drewN m := by
  have c3 : w.cell? ⟨B.f, 3, none⟩ = some (.int .u64 s.send) := h.blk.cell 3
  have c4 : w.cell? ⟨B.f, 4, none⟩ = some (.int .u64 s.recv) := h.blk.cell 4
  have c5 : w.cell? ⟨B.f, 5, none⟩ = some (.int .u64 s.ack) := h.blk.cell 5
  have HH := Lib.hid h
  clear h
  go_enter Tryd.func29, Tryd.ntmps29
  go_wp2_with fail
  go_quiet (fail)
  go_wp2_with fail
  go_ret3
  exact ⟨rfl, _, rfl⟩
/-- a flow behind an answer that is written -/
def Fl.wrote (s : Fl) (k : Int) (a : ByteArray) : Fl := { s with written := upd s.written k (some (ansB a)) }
set_option maxHeartbeats 1000000 in
theorem write_none (w : World) (B : FB) (n : Nat) (s : Fl) (k : Int) (a : ByteArray) (h : FlowAt w B n s) (hk : u64r k) (hc : s.came k = false) :
    Calls Tryd.prog 24 #[.pointer (some ⟨B.f, 0, none⟩), .int .u64 k, .string a] w fun e w' => e = .returned (.int .i64 185) ∧ w = w' := by
  have c7 : w.cell? ⟨B.f, 7, none⟩ = some (.map (some B.mw)) := h.blk.cell 7
  have hl := h.mw.look hk
  generalize (s.written k).getD ByteArray.empty = v at hl
  generalize (s.written k).isSome = b at hl
  have HH := Lib.hid h
  have HC := Lib.hid (came_is w B n s k h hk)
  rw [hc] at HC
  clear h hc
  go_enter Tryd.func24, Tryd.ntmps24
  go_wp2_with fail
  refine HC.out.mono ?_
  rintro e w1 ⟨rfl, rfl⟩
  go_wp2_with fail
  go_ret
  exact ⟨rfl, rfl⟩
set_option maxHeartbeats 1000000 in
theorem write_twice (w : World) (B : FB) (n : Nat) (s : Fl) (k : Int) (a : ByteArray) (h : FlowAt w B n s) (hk : u64r k) (hc : s.came k = true) (hw : (s.written k).isSome = true) :
    Calls Tryd.prog 24 #[.pointer (some ⟨B.f, 0, none⟩), .int .u64 k, .string a] w fun e w' => e = .returned (.int .i64 184) ∧ w = w' := by
  have c7 : w.cell? ⟨B.f, 7, none⟩ = some (.map (some B.mw)) := h.blk.cell 7
  have hl := h.mw.look hk
  rw [hw] at hl
  generalize (s.written k).getD ByteArray.empty = v at hl
  have HH := Lib.hid h
  have HC := Lib.hid (came_is w B n s k h hk)
  rw [hc] at HC
  clear h hc hw
  go_enter Tryd.func24, Tryd.ntmps24
  go_wp2_with fail
  refine HC.out.mono ?_
  rintro e w1 ⟨rfl, rfl⟩
  go_wp2_with fail
  go_ret
  exact ⟨rfl, rfl⟩
theorem flow_written {w w' : World} {B : FB} {n m : Nat} {s : Fl} (F : FlowAt w B n s) (ht : w.mapTurned w' B.mw) (g : Int → Option ByteArray) (hm : MapS w' B.mw m g) (hn : n ≤ m) : FlowAt w' B m { s with written := g } :=
  { F with
    blk := (turned_other ht F.blk.lt F.fmw).trans F.blk
    ms := (F.ms.of_block (turned_other ht F.ms.lt F.sw)).mono hn
    mw := hm
    mg := (F.mg.of_block (turned_other ht F.mg.lt F.wg.symm)).mono hn }
theorem ans_len {a : ByteArray} : (ansB a).size ≤ maxLen := by
  unfold ansB
  rw [sumB_size]
  unfold maxLen
  omega
theorem write_mid {w w2 : World} {B : FB} {n : Nat} {s : Fl} {k : Int} {a : ByteArray} (F : FlowAt w B n s) (hb2 : Below w.drew.heap.size w.drew w2) (hk : u64r k) (hn : n < maxLen) :
    w2.cell? ⟨B.f, 7, none⟩ = some (.map (some B.mw)) ∧ ∃ w3, (Instr.mapUpdate 91 (.map (some B.mw)) (.int .u64 k) (.string (ansB a))).run Tryd.prog w2 = .ok () w3 ∧ w3.cell? ⟨B.f, 7, none⟩ = some (.map (some B.mw)) ∧
      Hid (FlowAt w3 B (n + 1) (s.wrote k a) ∧ Only B.l w w3) := by
  have F2 := F.drew.below hb2
  have O2 := Only.of_below (S := B.l) (bstep (Below.refl _ w).drew hb2)
  obtain ⟨w3, hrun, hm3, ht3⟩ := F2.mw.store hk (ansB a) ans_len hn
  have F3 := flow_written F2 ht3 _ hm3 (Nat.le_succ _)
  exact ⟨F2.blk.cell 7, w3, hrun, F3.blk.cell 7, Lib.hid ⟨F3, O2.turned ht3 (by simp [FB.l])⟩⟩
set_option maxRecDepth 100000 in
set_option maxHeartbeats 1000000 in
theorem write_ok (w : World) (G : Glob w) (B : FB) (n : Nat) (s : Fl) (k : Int) (a : ByteArray) (h : FlowAt w B n s) (hk : u64r k) (hc : s.came k = true) (hw : (s.written k).isSome = false) (ha : a.size ≤ 140737488351232) (hn : n < maxLen) :
    Calls Tryd.prog 24 #[.pointer (some ⟨B.f, 0, none⟩), .int .u64 k, .string a] w fun e w' => e = .returned (.int .i64 0) ∧ FlowAt w' B (n + 1) (s.wrote k a) ∧ Only B.l w w' := by
  have c7 : w.cell? ⟨B.f, 7, none⟩ = some (.map (some B.mw)) := h.blk.cell 7
  have hl := h.mw.look hk
  rw [hw] at hl
  generalize (s.written k).getD ByteArray.empty = v at hl
  have HH := Lib.hid h
  have HG := Lib.hid G
  have HC := Lib.hid (came_is w B n s k h hk)
  rw [hc] at HC
  clear h hc hw G
  go_enter Tryd.func24, Tryd.ntmps24
  go_wp2_with fail
  refine HC.out.mono ?_
  rintro e w1 ⟨rfl, rfl⟩
  go_upto_region 6 with fail
  clear hl
  go_region_held3 (fun w' => w'.cell? ⟨B.f, 7, none⟩ = some (.map (some B.mw))) (first | go_keep | exact hS2 | exact hS3)
    (first | (go_at_call 15; refine (answer_is a w.drew ⟨HG.out.k, HG.out.first⟩ ha).mono ?_; rintro e w2 ⟨rfl, hb2⟩; obtain ⟨hS2, w3, hrun, hS3, HM⟩ := write_mid (a := a) HH.out hb2 hk hn; clear c7))
  go_wp2_with fail
  go_ret
  exact ⟨rfl, HM.out⟩
end Go.Proofs.YtpekbnkmnellpaaDoor
