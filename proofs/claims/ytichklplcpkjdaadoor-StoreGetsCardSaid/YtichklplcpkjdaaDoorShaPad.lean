/-
  The walk of sha's Pad.
-/
import Derived.Test.YtichklplcpkjdaaDoorBytes
namespace Go.Proofs.YtichklplcpkjdaaDoor
open Go.RowKit
set_option linter.unusedVariables false

theorem zeroCells_get (n : Nat) : (Builtin.zeroCells #[.int .u8 0] n).toList = bC (List.replicate n 0) := by
  apply List.ext_getElem
  · simp [Builtin.zeroCells, bC]
  · intro i h1 h2
    simp [Builtin.zeroCells, bC, Nat.mod_one]
theorem run_append_zeros (w : World) (g n ty : Nat) (hn : n ≤ 63) (hb : Blk w g 5 #[.int .u8 128]) :
    ∃ v' w', (Builtin.append_ #[68, 3] ty #[.slice (some ⟨g, 0, none⟩) 1 1, .int .i64 (n : Int)]).run Tryd.prog w = .ok v' w' ∧ Byt w' g v' (128 :: List.replicate n 0) ∧ w.grownBy w' none := by
  obtain ⟨i0, hi, hz0, hz1, hz2⟩ := info_parts info_u8
  have e1 : IntKind.i64.wrap (n : Int) = (n : Int) := IntWalk.i64_in _ (by omega)
  have e2 : ¬ ((n : Int) < 0) := by omega
  have e4 : ¬ (281474976710656 < (n : Int)) := by omega
  rcases Nat.eq_zero_or_pos n with rfl | hp
  · refine ⟨.slice (some ⟨g, 0, none⟩) 1 1, w, ?_, ⟨rfl, .inr ⟨g, 1, _, rfl, Nat.le_refl _, hb, Nat.le_refl _, by unfold maxLen; omega, rfl, rfl⟩⟩, ⟨rfl, rfl, rfl, Nat.le_refl _, fun _ _ _ => rfl⟩⟩
    simp [Builtin.append_, run_underlying Tryd.underlying68, run_underlying Tryd.underlying3, sizeOf, typeInfo, zeroValue, hi, hz0, hz2, asInt, asIntOf, storeCells, show IntKind.i64.wrap 0 = 0 from by decide]
  · have hn1 : ¬ (1 + n ≤ 1) := by omega
    have hfo := run_firstCells_some (P := Tryd.prog) w.drew 1 1 ⟨g, 0, none⟩ 1 1 [.int .u8 128] rfl (fun j v hj => by
      have e : (⟨g, 0, none⟩ : Addr).add j = ⟨g, j, none⟩ := by unfold Addr.add; split <;> simp_all
      rw [e]
      show w.cell? _ = _
      rw [hb.cell j]
      simpa using hj)
    have h48 : ¬ (281474976710656 < Builtin.nextslicecap (1 + n) 1) := by
      have := growslice_fits (need := 1 + n) (old := 1) (bytes := 1) (by omega) (by omega)
      omega
    have h63 : ¬ (9223372036854775807 < (1 + (n : Int))) := by omega
    refine ⟨.slice (some ⟨w.heap.size, 0, none⟩) (1 + n) (grownCap w (1 + n) 1 5), w.drew.alloc (.cells (#[Value.int .u8 128] ++ Builtin.zeroCells #[.int .u8 0] n ++ Builtin.zeroCells #[.int .u8 0] (grownCap w (1 + n) 1 5 - (1 + n))) 5), ?_, ?_, ?_⟩
    · simp [Builtin.append_, run_underlying Tryd.underlying68, run_underlying Tryd.underlying3, sizeOf, typeInfo, zeroValue, hi, hz0, hz1, hz2, asInt, asIntOf, e1, e2, e4, hn1, h48, h63, hfo, Question.forced, newRow, grownCap, Value.cells, show n ≠ 0 by omega]
    · have hge := grownCap_ge w (1 + n) 1 5
      have hle := grownCap_le_maxLen w (1 + n) 1 5 (by unfold maxLen; omega)
      generalize grownCap w (1 + n) 1 5 = C at hge hle
      refine ⟨by simp [bC], .inr ⟨w.heap.size, C, _, by simp [Nat.add_comm], by have := hb.lt; omega, heap_alloc_new _ _, by simp; omega, hle, ?_, ?_⟩⟩
      · simp [Builtin.zeroCells]; omega
      · simp only [Array.toList_append, zeroCells_get]
        rw [List.take_left' (by simp [bC])]
        rfl
    · exact ⟨rfl, rfl, rfl, by simp, fun k hk _ => Below.heap_alloc w.drew _ k hk⟩
/-- what stands behind a text of n bytes -/
def padL (n : Nat) : List UInt8 := 128 :: List.replicate ((119 - n % 64) % 64) 0 ++ w4 ((8 * (n : Int)) / 4294967296) ++ w4 ((8 * (n : Int)) % 4294967296)
theorem padL_len (n : Nat) : (padL n).length = 9 + (119 - n % 64) % 64 := by simp [padL, w4]; omega
theorem pad_whole (n : Nat) : (n + (padL n).length) % 64 = 0 := by rw [padL_len]; omega
set_option maxRecDepth 100000 in
set_option maxHeartbeats 1000000 in
theorem pad_is (n : Nat) (hn : n ≤ 140737488355328) (w : World) :
    Calls Tryd.prog 43 #[.int .i64 (n : Int)] w fun e w' => e = .returned (.string ⟨(padL n).toArray⟩) ∧ Below w.heap.size w w' := by
  have e119 : ((119 - (n : Int) % 64) % 64) = (((119 - n % 64) % 64 : Nat) : Int) := by omega
  have hl : (128 :: List.replicate ((119 - n % 64) % 64) (0 : UInt8)).length ≤ 64 := by simp; omega
  obtain ⟨v1, w1, hrun, hy, hg⟩ := run_append_zeros (w.alloc (.cells #[.int .u8 128] 5)) w.heap.size ((119 - n % 64) % 64) 68 (by omega) (Blk.new w _ _)
  rw [← e119] at hrun
  have HL1 := Lib.hid (below_grown (balloc (Below.refl _ w) (.cells #[.int .u8 128] 5)) (Byt.nil _ w.heap.size) hg (Nat.le_refl _) (by simp))
  have HY1 := Lib.hid hy
  have HE : Hid (padL n = (128 :: List.replicate ((119 - n % 64) % 64) 0) ++ w4 ((8 * (n : Int)) / 4294967296) ++ w4 ((8 * (n : Int)) % 4294967296)) := Lib.hid rfl
  generalize (128 :: List.replicate ((119 - n % 64) % 64) (0 : UInt8)) = l at HY1 HE hl
  clear e119 hy hg
  have HRun := Lib.hid hrun
  clear hrun
  go_enter Tryd.func43, Tryd.ntmps43
  go_wp2_with (at_builtin; refine wpList_append_run _ rfl _ _ 68 3 rfl (.slice (some ⟨w.heap.size, 0, none⟩) 1 1) (.int .i64 ((119 - (n : Int) % 64) % 64)) rfl rfl v1 w1 HRun.out ?_)
  refine (lay_is w.heap.size _ _ _ _ HY1.out (by omega) HL1.out.size (by omega) (by omega)).mono ?_
  rintro e w2 ⟨v2, rfl, hy2, hg2⟩
  have HL2 := Lib.hid (below_grown HL1.out HY1.out hg2 (Nat.le_refl _) HL1.out.size)
  have HY2 := Lib.hid hy2
  clear hy2 hg2 HRun
  go_wp2_with fail
  refine (lay_is w.heap.size _ _ _ _ HY2.out (by rw [List.length_append]; show l.length + 4 + 4 ≤ _; omega) HL2.out.size (by omega) (by omega)).mono ?_
  rintro e w3 ⟨v3, rfl, hy3, hg3⟩
  have HL3 := Lib.hid (below_grown HL2.out HY2.out hg3 (Nat.le_refl _) HL2.out.size)
  rw [← HE.out] at hy3
  have hcv := hy3.conv
  clear hy3 hg3
  go_wp2_with fail
  go_ret
  exact ⟨rfl, HL3.out⟩
end Go.Proofs.YtichklplcpkjdaaDoor
