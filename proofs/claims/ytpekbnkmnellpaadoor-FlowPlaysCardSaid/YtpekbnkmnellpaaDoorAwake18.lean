/-
  The walk of awake (chapter 18's example).
-/
import Derived.Test.YtpekbnkmnellpaaDoorFlowS
namespace Go.Proofs.YtpekbnkmnellpaaDoor
open Go.RowKit Go.Maps
set_option linter.unusedVariables false

theorem Glob.only {w w' : World} {S : List Nat} (G : Glob w) (h : Only S w w') (hs : ∀ x ∈ S, 2 ≤ x) : Glob w' := G.of_blocks fun i hi => h.block i (Nat.lt_of_lt_of_le hi G.two) (fun hm => by have := hs i hm; omega)
theorem Only.from {S : List Nat} {w w1 w2 : World} (hb : Below w.heap.size w w1) (h : Only S w1 w2) (hs : ∀ x ∈ S, w.heap.size ≤ x) : Below w.heap.size w w2 := hb.trans (h.below hs hb.size)
abbrev cX : Array Value := #[.int .u64 1, .int .u64 1, .int .u64 2, .string ⟨#[120]⟩, .int .u64 0]
abbrev cY : Array Value := #[.int .u64 2, .int .u64 1, .int .u64 2, .string ⟨#[121]⟩, .int .u64 9]
def pX : Pk := ⟨1, 1, 2, ⟨#[120]⟩, 0⟩
def pY : Pk := ⟨2, 1, 2, ⟨#[121]⟩, 9⟩
theorem small_r {n : Nat} (h : n ≤ 1000) : u64r (n : Int) := ⟨by omega, by omega⟩
theorem pX_ok : pX.ok := ⟨⟨by decide, by decide⟩, ⟨by decide, by decide⟩, ⟨by decide, by decide⟩, ⟨by decide, by decide⟩, by decide⟩
theorem pY_ok : pY.ok := ⟨⟨by decide, by decide⟩, ⟨by decide, by decide⟩, ⟨by decide, by decide⟩, ⟨by decide, by decide⟩, by decide⟩
def fl1 (cx : ByteArray) : Fl := ⟨true, 2, 1, 1, upd (fun _ => none) 1 (some cx), fun _ => none, fun _ => false⟩
def fl2 (cx cy : ByteArray) : Fl := ⟨true, 3, 1, 1, upd (upd (fun _ => none) 1 (some cx)) 2 (some cy), fun _ => none, fun _ => false⟩
def fr1 : Fl := ⟨true, 1, 2, 1, fun _ => none, fun _ => none, fun _ => false⟩
set_option maxHeartbeats 400000 in
theorem sendX (w : World) (G : Glob w) (B : FB) (F : FlowAt w B 0 (Fl.new true)) :
    Calls Tryd.prog 25 #[.pointer (some ⟨B.f, 0, none⟩), .int .u64 1, .int .u64 2, .string ⟨#[120]⟩, .int .u64 0] w fun e w' => e = .returned (.tuple #[.agg #[.int .u64 1, .int .u64 1, .int .u64 2, .string ⟨#[120]⟩, .int .u64 0], .int .i64 0]) ∧ FlowAt w' B 1 (fl1 pX.comm) ∧ Only B.l w w' := by
  have h := send_ok w G B.f B.ms B.mw B.mg 0 true 1 1 1 (fun _ => none) (fun _ => none) (fun _ => false) 1 2 0 ⟨#[120]⟩ F pX_ok (by decide) (by unfold maxLen; omega)
  rw [show IntKind.u64.wrap (1 + 1) = 2 by decide] at h
  exact h
set_option maxHeartbeats 400000 in
theorem sendY (w : World) (G : Glob w) (B : FB) (cx : ByteArray) (F : FlowAt w B 1 (fl1 cx)) :
    Calls Tryd.prog 25 #[.pointer (some ⟨B.f, 0, none⟩), .int .u64 1, .int .u64 2, .string ⟨#[121]⟩, .int .u64 9] w fun e w' => e = .returned (.tuple #[.agg #[.int .u64 2, .int .u64 1, .int .u64 2, .string ⟨#[121]⟩, .int .u64 9], .int .i64 0]) ∧ FlowAt w' B 2 (fl2 cx pY.comm) ∧ Only B.l w w' := by
  have h := send_ok w G B.f B.ms B.mw B.mg 1 true 2 1 1 (upd (fun _ => none) 1 (some cx)) (fun _ => none) (fun _ => false) 1 2 9 ⟨#[121]⟩ F pY_ok (by decide) (by unfold maxLen; omega)
  rw [show IntKind.u64.wrap (2 + 1) = 3 by decide] at h
  exact h
theorem recv1 (w : World) (B : FB) (F : FlowAt w B 0 (Fl.new true)) :
    Calls Tryd.prog 21 #[.pointer (some ⟨B.f, 0, none⟩), .agg #[.int .u64 2, .int .u64 1, .int .u64 2, .string ⟨#[121]⟩, .int .u64 9], .int .u64 5] w fun e w' => e = .returned (.int .i64 183) ∧ Below w.heap.size w w' :=
  recv_ordno w B.f B.ms B.mw B.mg 0 1 1 1 (fun _ => none) (fun _ => none) (fun _ => false) pY 5 F (by decide) (by decide)
theorem recv2 (w : World) (B : FB) (F : FlowAt w B 0 (Fl.new true)) :
    Calls Tryd.prog 21 #[.pointer (some ⟨B.f, 0, none⟩), .agg #[.int .u64 1, .int .u64 1, .int .u64 2, .string ⟨#[120]⟩, .int .u64 0], .int .u64 5] w fun e w' => e = .returned (.int .i64 0) ∧ FlowAt w' B 0 fr1 ∧ Only B.l w w' := by
  have h := recv_ord w B.f B.ms B.mw B.mg 0 1 1 1 (fun _ => none) (fun _ => none) (fun _ => false) pX 5 F (by decide) (by decide)
  rw [show IntKind.u64.wrap (1 + 1) = 2 by decide] at h
  exact h
theorem recv3 (w : World) (B : FB) (F : FlowAt w B 0 fr1) :
    Calls Tryd.prog 21 #[.pointer (some ⟨B.f, 0, none⟩), .agg #[.int .u64 1, .int .u64 1, .int .u64 2, .string ⟨#[120]⟩, .int .u64 0], .int .u64 5] w fun e w' => e = .returned (.int .i64 183) ∧ Below w.heap.size w w' :=
  recv_ordno w B.f B.ms B.mw B.mg 0 1 2 1 (fun _ => none) (fun _ => none) (fun _ => false) pX 5 F (by decide) (by decide)
theorem recv4 (w : World) (B : FB) (F : FlowAt w B 0 fr1) :
    Calls Tryd.prog 21 #[.pointer (some ⟨B.f, 0, none⟩), .agg #[.int .u64 2, .int .u64 1, .int .u64 2, .string ⟨#[121]⟩, .int .u64 9], .int .u64 9] w fun e w' => e = .returned (.int .i64 182) ∧ Below w.heap.size w w' :=
  recv_late w B 0 fr1 pY 9 F (by decide)
theorem sent1 (w : World) (B : FB) (cx cy : ByteArray) (F : FlowAt w B 2 (fl2 cx cy)) :
    Calls Tryd.prog 28 #[.pointer (some ⟨B.f, 0, none⟩), .int .u64 1] w fun e w' => e = .returned (.tuple #[.string cx, .bool true]) ∧ w = w' :=
  sent_is w B 2 _ 1 F ⟨by decide, by decide⟩
theorem came1 (w : World) (B : FB) (F : FlowAt w B 0 fr1) :
    Calls Tryd.prog 22 #[.pointer (some ⟨B.f, 0, none⟩), .int .u64 1] w fun e w' => e = .returned (.bool true) ∧ w = w' :=
  came_is w B 0 _ 1 F ⟨by decide, by decide⟩
theorem commX (w : World) (G : Glob w) : Calls Tryd.prog 14 #[.agg #[.int .u64 1, .int .u64 1, .int .u64 2, .string ⟨#[120]⟩, .int .u64 0]] w fun e w' => e = .returned (.string pX.comm) ∧ Below w.heap.size w w' := commitment_is pX w G pX_ok
end Go.Proofs.YtpekbnkmnellpaaDoor
