/-
  The walk of sha's round.
-/
import Derived.Test.YtichklplcpkjdaaDoorShaWalk
import Derived.Laws.CopyRow
import Derived.Laws.CopyOwn
namespace Go.Proofs.YtichklplcpkjdaaDoor
open Go.RowKit
set_option linter.unusedVariables false

/-- a state's cells -/
def stC (l : List Int) : Array Value := (l.map fun x => Value.int .u32 x).toArray
/-- copy(x[1:], x[:7]) -/
theorem copy_is (g : Nat) (x0 x1 x2 x3 x4 x5 x6 x7 : Int) : ∀ W : World, W.heap[g]? = some (.cells (stC [x0, x1, x2, x3, x4, x5, x6, x7]) 84 (0, 0)) → (Builtin.copy_ #[110, 110] 3 #[.slice (some ⟨g, 1, none⟩) 7 7, .slice (some ⟨g, 0, none⟩) 7 8]).run Tryd.prog W = .ok (.int .i64 7) (W.setRow g (stC [x0, x0, x1, x2, x3, x4, x5, x6])) := fun W h => by
  have hW : Blk W g 84 (stC [x0, x1, x2, x3, x4, x5, x6, x7]) := h
  exact run_copy_row Tryd.prog W 110 110 3 82 g 1 7 7 ⟨g, 0, none⟩ 7 8 _ 84 ([x0, x1, x2, x3, x4, x5, x6].map fun x => Value.int .u32 x) Tryd.underlying110 (by kernel_rfl) h rfl (fun j v hv => by
    have hj : j < 7 := by
      rcases Nat.lt_or_ge j 7 with h | h
      · exact h
      · rw [List.getElem?_eq_none (by simpa using h)] at hv; cases hv
    have e : (⟨g, 0, none⟩ : Addr).add j = ⟨g, j, none⟩ := by unfold Addr.add; split <;> simp_all
    rw [e, hW.cell j]
    have : j = 0 ∨ j = 1 ∨ j = 2 ∨ j = 3 ∨ j = 4 ∨ j = 5 ∨ j = 6 := by omega
    rcases this with rfl | rfl | rfl | rfl | rfl | rfl | rfl <;> exact hv) (by simp [stC]) (by simp [Value.oneCell'])
def tV (x4 x5 x6 x7 kw : Int) : Int := IntKind.u32.wrap
              (IntKind.u32.wrap
                  (IntKind.u32.wrap
                      (x7 +
                        bits BinOp.xor IntKind.u32 (bits BinOp.xor IntKind.u32 (rorV x4 6) (rorV x4 11)) (rorV x4 25)) +
                    bits BinOp.xor IntKind.u32 (bits BinOp.and IntKind.u32 x4 x5)
                      (bits BinOp.and IntKind.u32 (bits BinOp.xor IntKind.u32 IntKind.u32.max x4) x6)) +
                kw)
def uV (x0 x1 x2 : Int) : Int := (bits BinOp.xor IntKind.u32 (bits BinOp.xor IntKind.u32 (rorV x0 2) (rorV x0 13)) (rorV x0 22) +
                bits BinOp.xor IntKind.u32
                  (bits BinOp.xor IntKind.u32 (bits BinOp.and IntKind.u32 x0 x1) (bits BinOp.and IntKind.u32 x0 x2))
                  (bits BinOp.and IntKind.u32 x1 x2)) % 4294967296
set_option maxRecDepth 100000 in
set_option maxHeartbeats 4000000 in
theorem round_is (g : Nat) (x0 x1 x2 x3 x4 x5 x6 x7 kw : Int) (w : World) (hb : Blk w g 84 (stC [x0, x1, x2, x3, x4, x5, x6, x7])) :
    Calls Tryd.prog 56 #[.pointer (some ⟨g, 0, none⟩), .int .u32 kw] w fun e w' => e = .returned (.tuple #[]) ∧ Below g w w' ∧ Blk w' g 84 (stC [(tV x4 x5 x6 x7 kw + uV x0 x1 x2) % 4294967296, x0, x1, x2, (x3 + tV x4 x5 x6 x7 kw) % 4294967296, x4, x5, x6]) := by
  have c0 : w.cell? ⟨g, 0, none⟩ = some (.int .u32 x0) := hb.cell 0
  have c1 : w.cell? ⟨g, 1, none⟩ = some (.int .u32 x1) := hb.cell 1
  have c2 : w.cell? ⟨g, 2, none⟩ = some (.int .u32 x2) := hb.cell 2
  have c3 : w.cell? ⟨g, 3, none⟩ = some (.int .u32 x3) := hb.cell 3
  have c4 : w.cell? ⟨g, 4, none⟩ = some (.int .u32 x4) := hb.cell 4
  have c5 : w.cell? ⟨g, 5, none⟩ = some (.int .u32 x5) := hb.cell 5
  have c6 : w.cell? ⟨g, 6, none⟩ = some (.int .u32 x6) := hb.cell 6
  have c7 : w.cell? ⟨g, 7, none⟩ = some (.int .u32 x7) := hb.cell 7
  have hcopy := copy_is g x0 x1 x2 x3 x4 x5 x6 x7
  have HB := Lib.hid hb
  have hc3 := hcopy w.drew.drew.drew hb
  clear hb hcopy
  go_enter Tryd.func56, Tryd.ntmps56
  go_upto_region 0 with fail
  go_region_held3 (fun w' => w'.cell? ⟨g, 0, none⟩ = some (.int .u32 x0) ∧ w'.cell? ⟨g, 1, none⟩ = some (.int .u32 x1) ∧ w'.cell? ⟨g, 2, none⟩ = some (.int .u32 x2) ∧ w'.cell? ⟨g, 4, none⟩ = some (.int .u32 x4)) (go_keep) (fail)
  go_upto_region 1 with fail
  go_region_held3 (fun w' => w'.cell? ⟨g, 5, none⟩ = some (.int .u32 x5) ∧ w'.cell? ⟨g, 6, none⟩ = some (.int .u32 x6) ∧ w'.cell? ⟨g, 7, none⟩ = some (.int .u32 x7)) (go_keep)
    (first | (go_at_call 55; refine (right_is x4 6 _ (by omega) (by omega)).mono ?_; rintro e w' ⟨rfl, rfl⟩) | (go_at_call 55; refine (right_is x4 11 _ (by omega) (by omega)).mono ?_; rintro e w' ⟨rfl, rfl⟩) | (go_at_call 55; refine (right_is x4 25 _ (by omega) (by omega)).mono ?_; rintro e w' ⟨rfl, rfl⟩))
  go_wp2_with fail
  refine (right_is x0 2 _ (by omega) (by omega)).mono ?_
  rintro e w' ⟨rfl, rfl⟩
  go_wp2_with fail
  refine (right_is x0 13 _ (by omega) (by omega)).mono ?_
  rintro e w' ⟨rfl, rfl⟩
  go_wp2_with fail
  refine (right_is x0 22 _ (by omega) (by omega)).mono ?_
  rintro e w' ⟨rfl, rfl⟩
  go_upto_region 3 with fail
  go_cut [0, 8, 9] (fun p t u wx => p = .pointer (some ⟨g, 0, none⟩) ∧ t = .int .u32 (tV x4 x5 x6 x7 kw) ∧ u = .int .u32 (uV x0 x1 x2) ∧ Below g w wx ∧ Blk wx g 84 (stC [x0, x0, x1, x2, x3, x4, x5, x6]))
  case first =>
    go_region
    go_wp2_with fail
    go_meet
    exact ⟨rfl, rfl, rfl, below_setRow (Below.refl _ _).drew.drew.drew (Nat.le_refl _) _, setRow_heap _ _ _ _ _ _ HB.out⟩
  case rest =>
    obtain ⟨rfl, rfl, rfl, hbel, hblk⟩ := hcut
    have d0 : wc.cell? ⟨g, 0, none⟩ = some (.int .u32 x0) := hblk.cell 0
    have d4 : wc.cell? ⟨g, 4, none⟩ = some (.int .u32 x3) := hblk.cell 4
    have f0 := hblk.frozen 0
    have f4 := hblk.frozen 4
    have HK := Lib.hid hblk
    have HL := Lib.hid hbel
    clear hblk hbel c0 c1 c2 c3 c4 c5 c6 c7
    go_upto_region 4 with fail
    go_region
    go_wp2_with fail
    go_end0
    exact ⟨rfl, ((HL.out.setCell (p := ⟨g, 4, none⟩) (Nat.le_refl _) _).setCell (p := ⟨g, 0, none⟩) (Nat.le_refl _) _).drew, (HK.out.set_ 4 _).set_ 0 _⟩
end Go.Proofs.YtichklplcpkjdaaDoor
