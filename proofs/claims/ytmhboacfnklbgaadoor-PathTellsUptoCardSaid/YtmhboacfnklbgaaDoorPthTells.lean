/-
  The walk of PathTells.
-/
import Derived.Test.YtmhboacfnklbgaaDoorPthRefP
namespace Go.Proofs.YtmhboacfnklbgaaDoor
open Go.RowKit
set_option linter.unusedVariables false

set_option maxRecDepth 100000 in
set_option maxHeartbeats 2000000 in
theorem tells_core (k a b : Int) (s : ByteArray) (X : List UInt8) (e x y z f : Int) (w : World) (G : Glob w)
    (P1 : Hid (∀ W, Glob W → Calls Tryd.prog 10 #[.agg #[.int .i64 k, .int .u64 a, .int .u64 b]] W fun r W' => r = .returned (.tuple #[.string ⟨X.toArray⟩, .int .i64 e]) ∧ Below W.heap.size W W'))
    (P2 : Hid (∀ W, Calls Tryd.prog 11 #[.agg #[.int .i64 k, .int .u64 a, .int .u64 b]] W fun r W' => r = .returned (.tuple #[.string ⟨X.toArray⟩, .int .i64 e]) ∧ Below W.heap.size W W'))
    (P3 : Hid (∀ W, Glob W → Calls Tryd.prog 12 #[.string s] W fun r W' => r = .returned (.tuple #[.agg #[.int .i64 x, .int .u64 y, .int .u64 z], .int .i64 f]) ∧ Below W.heap.size W W'))
    (P4 : Hid (∀ W, Calls Tryd.prog 13 #[.string s] W fun r W' => r = .returned (.tuple #[.agg #[.int .i64 x, .int .u64 y, .int .u64 z], .int .i64 f]) ∧ Below W.heap.size W W')) :
    Calls Tryd.prog 3 #[.agg #[.int .i64 k, .int .u64 a, .int .u64 b], .string s] w fun e w' => e = .returned (.bool true) ∧ Below w.heap.size w w' := by
  have HG := Lib.hid G
  clear G
  go_enter Tryd.func3, Tryd.ntmps3
  go_wp2_with fail
  have O0 := Lib.hid (Blk.new w 24 #[.int .i64 k, .int .u64 a, .int .u64 b])
  refine (awake_ok _ (HG.out.below (balloc (Below.refl _ _) _))).mono ?_
  rintro r w1 ⟨rfl, hb1⟩
  have B1 := Lib.hid (bstep (balloc (Below.refl _ w) _) hb1)
  have O1 := Lib.hid (O0.out.below hb1)
  obtain ⟨q0, q1, q2, q3⟩ := O1.out.three
  clear hb1 O0
  go_wp2_with fail
  refine (P1.out _ (HG.out.below B1.out)).mono ?_
  rintro r w2 ⟨rfl, hb2⟩
  have B2 := Lib.hid (bstep B1.out hb2)
  have O2 := Lib.hid (O1.out.below hb2)
  clear q0 q1 q2 q3 hb2 O1 B1
  obtain ⟨q0, q1, q2, q3⟩ := O2.out.three
  go_wp2_with fail
  refine (P2.out _).mono ?_
  rintro r w3 ⟨rfl, hb3⟩
  have B3 := Lib.hid (bstep B2.out hb3)
  clear q0 q1 q2 q3 hb3 O2 B2
  go_wp2_with fail
  refine (P3.out _ (HG.out.below B3.out)).mono ?_
  rintro r w4 ⟨rfl, hb4⟩
  have B4 := Lib.hid (bstep B3.out hb4)
  clear hb4 B3
  go_wp2_with fail
  have O4 := Lib.hid (Blk.new w4 24 #[.int .i64 x, .int .u64 y, .int .u64 z])
  refine (P4.out _).mono ?_
  rintro r w5 ⟨rfl, hb5⟩
  obtain ⟨q0, q1, q2, q3⟩ := (O4.out.below hb5).three
  have B5 := Lib.hid (bstep (balloc B4.out _) hb5)
  clear hb5 B4 O4
  go_wp2_with fail
  go_ret
  exact ⟨rfl, balloc B5.out _⟩
theorem print_two (k a b : Int) (a0 : 0 ≤ a) (a1 : a ≤ 18446744073709551615) (b0 : 0 ≤ b) (b1 : b ≤ 18446744073709551615) : ∃ X e,
    (∀ W, Glob W → Calls Tryd.prog 10 #[.agg #[.int .i64 k, .int .u64 a, .int .u64 b]] W fun r W' => r = .returned (.tuple #[.string ⟨(X : List UInt8).toArray⟩, .int .i64 e]) ∧ Below W.heap.size W W') ∧
    (∀ W, Calls Tryd.prog 11 #[.agg #[.int .i64 k, .int .u64 a, .int .u64 b]] W fun r W' => r = .returned (.tuple #[.string ⟨X.toArray⟩, .int .i64 e]) ∧ Below W.heap.size W W') := by
  by_cases h : k < 1 ∨ 8 < k
  · exact ⟨[], 40, fun W _ => pprint_bad k a b W h, fun W => rpprint_bad k a b W h⟩
  · obtain ⟨K, rfl⟩ := Int.eq_ofNat_of_zero_le (by omega : 0 ≤ k)
    by_cases hg : (Pth.fm K).2.2 = true ∨ b = 0
    · refine ⟨Pth.text K a.toNat b.toNat, 0, fun W g => ?_, fun W => ?_⟩
      · refine (pprint_good K a b W (by omega) (by omega) a0 a1 b0 b1 g).mono ?_
        rintro r W' ⟨⟨_, rfl⟩ | ⟨hn, _⟩, hb⟩
        · exact ⟨rfl, hb⟩
        · exact absurd hg hn
      · refine (rpprint_good K a b W (by omega) (by omega) a0 a1 b0 b1).mono ?_
        rintro r W' ⟨⟨_, rfl⟩ | ⟨hn, _⟩, hb⟩
        · exact ⟨rfl, hb⟩
        · exact absurd hg hn
    · refine ⟨[], 40, fun W g => ?_, fun W => ?_⟩
      · refine (pprint_good K a b W (by omega) (by omega) a0 a1 b0 b1 g).mono ?_
        rintro r W' ⟨⟨hn, _⟩ | ⟨_, rfl⟩, hb⟩
        · exact absurd hn hg
        · exact ⟨rfl, hb⟩
      · refine (rpprint_good K a b W (by omega) (by omega) a0 a1 b0 b1).mono ?_
        rintro r W' ⟨⟨hn, _⟩ | ⟨_, rfl⟩, hb⟩
        · exact absurd hn hg
        · exact ⟨rfl, hb⟩
theorem ans_fix {s : List UInt8} : ∃ x y z f : Int, ∀ r, ParseAns s r → r = .returned (.tuple #[.agg #[.int .i64 x, .int .u64 y, .int .u64 z], .int .i64 f]) := by
  cases hp : Pth.parseP s with
  | none =>
    refine ⟨0, 0, 0, 40, fun r h => ?_⟩
    rcases h with ⟨k, a, b, h, _⟩ | ⟨_, rfl⟩
    · rw [hp] at h; cases h
    · rfl
  | some p =>
    obtain ⟨k, a, b⟩ := p
    refine ⟨k, a, b, 0, fun r h => ?_⟩
    rcases h with ⟨k', a', b', h, rfl⟩ | ⟨h, _⟩
    · rw [hp] at h; cases h; rfl
    · rw [hp] at h; cases h
theorem tells_walk (k a b : Int) (s : ByteArray) (v1 : (Lit.int .i64 k).wf = true) (v2 : (Lit.int .u64 a).wf = true) (v3 : (Lit.int .u64 b).wf = true) (ws : s.size ≤ maxLen) (hbulk : s.data.toList.length ≤ 1048576) (w : World) (G : Glob w) :
    Calls Tryd.prog 3 #[.agg #[.int .i64 k, .int .u64 a, .int .u64 b], .string s] w fun e w' => e = .returned (.bool true) ∧ Below w.heap.size w w' := by
  obtain ⟨x0, x1⟩ := bounds_u64 v2
  obtain ⟨x2, x3⟩ := bounds_u64 v3
  rw [len_data] at hbulk
  obtain ⟨X, e, h1, h2⟩ := print_two k a b x0 (by omega) x2 (by omega)
  obtain ⟨x, y, z, f, hans⟩ := ans_fix (s := s.data.toList)
  exact tells_core k a b s X e x y z f w G (Lib.hid h1) (Lib.hid h2)
    (Lib.hid fun W g => (pparse s W (by omega) g).mono fun r W' ⟨h, hb⟩ => ⟨hans r h, hb⟩)
    (Lib.hid fun W => (rparseP s W hbulk).mono fun r W' ⟨h, hb⟩ => ⟨hans r h, hb⟩)
end Go.Proofs.YtmhboacfnklbgaaDoor
