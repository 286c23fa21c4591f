/-
  The walks of sha's String, Pad and Sum.
-/
import Derived.Test.YtichklplcpkjdaaDoorShaMix
import Derived.Test.YtichklplcpkjdaaDoorBytes
namespace Go.Proofs.YtichklplcpkjdaaDoor
open Go.RowKit
set_option linter.unusedVariables false

def St.ok (s : St) : Prop := ∀ x ∈ s.l, 0 ≤ x ∧ x ≤ 4294967295
/-- words as bytes -/
def stB (l : List Int) : List UInt8 := l.flatMap w4
theorem w4_len (x : Int) : (w4 x).length = 4 := rfl
theorem stB_len : ∀ l : List Int, (stB l).length = 4 * l.length
  | [] => rfl
  | x :: l => by
    show (w4 x ++ stB l).length = _
    rw [List.length_append, w4_len, stB_len l, List.length_cons]
    omega
theorem firstS_ok : firstS.ok := by unfold St.ok St.l firstS; decide
theorem mixS_ok (s : St) (B : List UInt8) : (mixS s B).ok := by
  intro x hx
  simp only [mixS, addS, St.l, List.mem_cons, List.not_mem_nil, or_false] at hx
  rcases hx with rfl | rfl | rfl | rfl | rfl | rfl | rfl | rfl <;> omega
theorem index_st (x0 x1 x2 x3 x4 x5 x6 x7 : Int) (j : Nat) (h : j < 8) (W : World) : (Instr.index 84 (.agg #[.int .u32 x0, .int .u32 x1, .int .u32 x2, .int .u32 x3, .int .u32 x4, .int .u32 x5, .int .u32 x6, .int .u32 x7]) (.int .i64 (j : Int))).run Tryd.prog W = .ok (.int .u32 ([x0, x1, x2, x3, x4, x5, x6, x7].getD j 0)) W := by
  have : j = 0 ∨ j = 1 ∨ j = 2 ∨ j = 3 ∨ j = 4 ∨ j = 5 ∨ j = 6 ∨ j = 7 := by omega
  rcases this with rfl | rfl | rfl | rfl | rfl | rfl | rfl | rfl <;> (show _ = _; kernel_rfl)
def StrRel (l : List Int) (w : World) (c : Nat) (v i : Value) (wr : World) : Prop :=
  ∃ j : Nat, j ≤ 8 ∧ c = 8 - j ∧ i = .int .i64 j ∧ Byt wr w.heap.size v (stB (l.take j)) ∧ Below w.heap.size w wr
theorem stB_snoc (l : List Int) (j : Nat) (h : j < l.length) : stB (l.take (j + 1)) = stB (l.take j) ++ w4 (l.getD j 0) := by
  rw [List.take_succ_eq_append_getElem h, getD_at l j 0 h]
  simp only [stB, List.flatMap_append, List.flatMap_cons, List.flatMap_nil, List.append_nil]
set_option maxHeartbeats 1000000 in
theorem string_is (s : St) (hok : s.ok) (w : World) :
    Calls Tryd.prog 45 #[.agg (stC s.l)] w fun e w' => e = .returned (.string ⟨(stB s.l).toArray⟩) ∧ Below w.heap.size w w' := by
  obtain ⟨x0, x1, x2, x3, x4, x5, x6, x7⟩ := s
  have HOK : Hid (∀ x ∈ [x0, x1, x2, x3, x4, x5, x6, x7], 0 ≤ x ∧ x ≤ 4294967295) := Lib.hid hok
  clear hok
  show Calls Tryd.prog 45 #[.agg #[.int .u32 x0, .int .u32 x1, .int .u32 x2, .int .u32 x3, .int .u32 x4, .int .u32 x5, .int .u32 x6, .int .u32 x7]] w fun e w' => e = .returned (.string ⟨(stB [x0, x1, x2, x3, x4, x5, x6, x7]).toArray⟩) ∧ Below w.heap.size w w'
  go_enter Tryd.func45, Tryd.ntmps45
  go_wp2
  go_loopg [3, 7] 8 (fun c v i wr => StrRel [x0, x1, x2, x3, x4, x5, x6, x7] w c v i wr)
  case atStart => exact ⟨0, by omega, rfl, rfl, Byt.nil _ _, (Below.refl _ _).alloc (Nat.le_refl _) _⟩
  case round =>
    rename_i v3 v7
    obtain ⟨j, hj, hc, rfl, hby, hbel⟩ := hrel
    have HC := Lib.hid hc
    have HY := Lib.hid hby
    have HL := Lib.hid hbel
    clear hc hby hbel
    by_cases h8 : j < 8
    · have hix := fun W => index_st x0 x1 x2 x3 x4 x5 x6 x7 j h8 W
      have HSn := Lib.hid (stB_snoc [x0, x1, x2, x3, x4, x5, x6, x7] j h8)
      have hx : 0 ≤ [x0, x1, x2, x3, x4, x5, x6, x7].getD j 0 ∧ [x0, x1, x2, x3, x4, x5, x6, x7].getD j 0 ≤ 4294967295 := by
        rw [getD_at [x0, x1, x2, x3, x4, x5, x6, x7] j 0 h8]
        exact HOK.out _ (List.getElem_mem _)
      generalize [x0, x1, x2, x3, x4, x5, x6, x7].getD j 0 = x at hix HSn hx
      have hlen : (stB ([x0, x1, x2, x3, x4, x5, x6, x7].take j)).length + 4 ≤ 140737488355328 := by rw [stB_len, List.length_take]; omega
      go_wp2_with fail
      refine (lay_is w.heap.size _ _ x _ HY.out hlen HL.out.size hx.1 hx.2).mono ?_
      rintro e w1 ⟨v', rfl, hy', hg'⟩
      rw [← HSn.out] at hy'
      have HR : Hid (StrRel [x0, x1, x2, x3, x4, x5, x6, x7] w (8 - (j + 1)) v' (.int .i64 ((j + 1 : Nat) : Int)) w1) := Lib.hid ⟨j + 1, by omega, rfl, rfl, hy', below_grown HL.out HY.out hg' (Nat.le_refl _) HL.out.size⟩
      clear hy' hg' hlen hix
      go_wp2_with fail
      go_roundg (8 - (j + 1))
      case measure => rw [HC.out]; omega
      case rel => exact HR.out
    · obtain rfl : j = 8 := by omega
      clear HC h8 hj
      have hcv := HY.out.conv
      go_wp2_with fail
      go_ret
      exact ⟨rfl, HL.out⟩
end Go.Proofs.YtichklplcpkjdaaDoor
