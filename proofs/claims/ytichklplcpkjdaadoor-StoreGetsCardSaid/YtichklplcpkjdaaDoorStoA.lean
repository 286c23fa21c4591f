/-
  A raw path made right (Fit, path), a raw number made one of n; the paths' keys. (Cut out of the paths' seat's texts.)
-/
import Derived.Test.YtichklplcpkjdaaDoorSTrieJ
import Derived.Test.YtichklplcpkjdaaDoorSPth
namespace Go.Proofs.YtichklplcpkjdaaDoor
open Go.RowKit
set_option linter.unusedVariables false

/-- which of n things a raw number speaks of -/
def pickN (c : Int) (n : Nat) : Nat := ((if c < 0 then -(c + 1) else c) % n).toNat
theorem pick_is (c : Int) (n : Nat) (h0 : -9223372036854775808 ≤ c) (h1 : c ≤ 9223372036854775807) (hn : 1 ≤ n) (hm : n ≤ 1000000) (w : World) :
    Calls Tryd.prog 38 #[.int .i64 c, .int .i64 n] w fun e w' => e = .returned (.int .i64 (pickN c n)) ∧ w = w' := by
  have hz : ((n : Int) == 0) = false := by rw [beq_eq_false_iff_ne]; omega
  by_cases hc : c < 0
  · have hr : Hid (((pickN c n : Nat) : Int) = -(c + 1).tmod n) := Lib.hid (by
      unfold pickN
      rw [if_pos hc, Int.toNat_of_nonneg (Int.emod_nonneg _ (by omega)), ← Int.neg_tmod, Int.tmod_eq_emod_of_nonneg (by omega)])
    go_enter Tryd.func38, Tryd.ntmps38
    go_wp2
    go_ret
    exact ⟨by rw [hr.out]; rfl, rfl⟩
  · have hc' : 0 ≤ c := by omega
    have hr : Hid (((pickN c n : Nat) : Int) = c % n) := Lib.hid (by unfold pickN; rw [if_neg hc, Int.toNat_of_nonneg (Int.emod_nonneg _ (by omega))])
    go_enter Tryd.func38, Tryd.ntmps38
    go_wp2
    go_ret
    exact ⟨by rw [hr.out]; rfl, rfl⟩
theorem pick9_is (c : Int) (n : Nat) (h0 : -9223372036854775808 ≤ c) (h1 : c ≤ 9223372036854775807) (hn : 1 ≤ n) (hm : n ≤ 1000000) (w : World) :
    Calls Tryd.prog 16 #[.int .i64 c, .int .i64 n] w fun e w' => e = .returned (.int .i64 (pickN c n)) ∧ w = w' := by
  have hz : ((n : Int) == 0) = false := by rw [beq_eq_false_iff_ne]; omega
  by_cases hc : c < 0
  · have hr : Hid (((pickN c n : Nat) : Int) = -(c + 1).tmod n) := Lib.hid (by
      unfold pickN
      rw [if_pos hc, Int.toNat_of_nonneg (Int.emod_nonneg _ (by omega)), ← Int.neg_tmod, Int.tmod_eq_emod_of_nonneg (by omega)])
    go_enter Tryd.func16, Tryd.ntmps16
    go_wp2
    go_ret
    exact ⟨by rw [hr.out]; rfl, rfl⟩
  · have hc' : 0 ≤ c := by omega
    have hr : Hid (((pickN c n : Nat) : Int) = c % n) := Lib.hid (by unfold pickN; rw [if_neg hc, Int.toNat_of_nonneg (Int.emod_nonneg _ (by omega))])
    go_enter Tryd.func16, Tryd.ntmps16
    go_wp2
    go_ret
    exact ⟨by rw [hr.out]; rfl, rfl⟩
theorem pickN_lt (c : Int) (n : Nat) (hn : 1 ≤ n) : pickN c n < n := by
  unfold pickN
  have h1 := Int.emod_lt_of_pos (if c < 0 then -(c + 1) else c) (show (0 : Int) < n by omega)
  have h2 := Int.emod_nonneg (if c < 0 then -(c + 1) else c) (show (n : Int) ≠ 0 by omega)
  omega

/-- the second number, where its kind has one -/
def fitB (k : Nat) (b : Nat) : Nat := if (Pth.fm k).2.2 then b else 0
theorem fit_right (c : Int) (a b : Nat) (ha : a < 18446744073709551616) (hb : b < 18446744073709551616) : Pth.Right (1 + pickN c 8) a (fitB (1 + pickN c 8) b) := by
  have := pickN_lt c 8 (by omega)
  refine ⟨by omega, by omega, ha, ?_, fun h => by unfold fitB; rw [h]; rfl⟩
  unfold fitB; split <;> omega

set_option maxHeartbeats 1000000 in
theorem fit_is (c : Int) (a b : Nat) (h0 : -9223372036854775808 ≤ c) (h1 : c ≤ 9223372036854775807) (w : World) :
    Calls Tryd.prog 27 #[.agg #[.int .i64 c, .int .u64 a, .int .u64 b]] w fun e w' => e = .returned (.agg #[.int .i64 ((1 + pickN c 8 : Nat) : Int), .int .u64 a, .int .u64 (fitB (1 + pickN c 8) b : Nat)]) ∧ Below w.heap.size w w' := by
  have hlt := pickN_lt c 8 (by omega)
  obtain ⟨p, hp⟩ : ∃ p, pickN c 8 = p := ⟨_, rfl⟩
  have hpk := fun W => pick_is c 8 h0 h1 (by omega) (by omega) W
  rw [hp] at hlt hpk
  simp only [hp]
  have HPK := Lib.hid hpk
  clear hpk hp
  go_enter Tryd.func27, Tryd.ntmps27
  go_upto_region 1 with fail
  have q1 : IntKind.i64.wrap (1 + (p : Int)) = 1 + p := by rw [IntKind.wrap_i64]; omega
  go_cut [3] (fun s3 wx => s3 = .pointer (some ⟨w.heap.size + 2, 0, none⟩) ∧ wx = (((w.alloc (.cells #[.int .i64 c, .int .u64 a, .int .u64 b] 25)).alloc (.cells #[.int .i64 0, .int .u64 0, .int .u64 0] 25)).alloc (.cells #[.int .i64 (1 + p), .int .u64 a, .int .u64 0] 25)).drew)
  case first =>
    go_region_with (first
      | (go_at_call 38; refine (HPK.out _).mono ?_; rintro e w2 ⟨rfl, rfl⟩))
    all_goals clear q1
    all_goals go_wp2_with fail
    all_goals go_meet
    all_goals exact ⟨rfl, rfl⟩
  case rest =>
    obtain ⟨rfl, rfl⟩ := hcut
    clear q1
    have hc : p = 0 ∨ p = 1 ∨ p = 2 ∨ p = 3 ∨ p = 4 ∨ p = 5 ∨ p = 6 ∨ p = 7 := by omega
    have hbel : ∀ o1 o2 o3 : Obj, Below w.heap.size w (((w.alloc o1).alloc o2).alloc o3).drew := fun o1 o2 o3 => Below.drew ((((Below.refl _ _).alloc (Nat.le_refl _) _).alloc (by simp) _).alloc (by simp; omega) _)
    have HBL := Lib.hid hbel
    clear hbel
    rcases hc with rfl | rfl | rfl | rfl | rfl | rfl | rfl | rfl
    all_goals go_wp2_with fail
    · refine bodyPost_ret (v := .agg #[.int .i64 1, .int .u64 a, .int .u64 0]) (by simp [results, Tryd.results27, go_sem]) rfl ⟨rfl, HBL.out _ _ _⟩
    · refine bodyPost_ret (v := .agg #[.int .i64 2, .int .u64 a, .int .u64 (b : Int)]) (by simp [results, Tryd.results27, go_sem]) rfl ⟨rfl, HBL.out _ _ _⟩
    · refine bodyPost_ret (v := .agg #[.int .i64 3, .int .u64 a, .int .u64 0]) (by simp [results, Tryd.results27, go_sem]) rfl ⟨rfl, HBL.out _ _ _⟩
    · refine bodyPost_ret (v := .agg #[.int .i64 4, .int .u64 a, .int .u64 0]) (by simp [results, Tryd.results27, go_sem]) rfl ⟨rfl, HBL.out _ _ _⟩
    · refine bodyPost_ret (v := .agg #[.int .i64 5, .int .u64 a, .int .u64 (b : Int)]) (by simp [results, Tryd.results27, go_sem]) rfl ⟨rfl, HBL.out _ _ _⟩
    · refine bodyPost_ret (v := .agg #[.int .i64 6, .int .u64 a, .int .u64 (b : Int)]) (by simp [results, Tryd.results27, go_sem]) rfl ⟨rfl, HBL.out _ _ _⟩
    · refine bodyPost_ret (v := .agg #[.int .i64 7, .int .u64 a, .int .u64 (b : Int)]) (by simp [results, Tryd.results27, go_sem]) rfl ⟨rfl, HBL.out _ _ _⟩
    · refine bodyPost_ret (v := .agg #[.int .i64 8, .int .u64 a, .int .u64 0]) (by simp [results, Tryd.results27, go_sem]) rfl ⟨rfl, HBL.out _ _ _⟩


end Go.Proofs.YtichklplcpkjdaaDoor
