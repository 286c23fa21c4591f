/-
  The walks of layer 1 (sha).
-/
import Derived.Test.YtichklplcpkjdaaDoorBase
import Derived.Laws.Bits64b
import Derived.OpenShut
import Derived.Deep.RegionWith
import Derived.Deep.RegionHeld3
import Derived.Deep.DeepCutAuto
import Derived.Laws.BytesArg
namespace Go.Proofs.YtichklplcpkjdaaDoor
open Go.RowKit
set_option linter.unusedVariables false

/-- a word turned to the right -/
def rorV (x : Int) (n : Nat) : Int := bits .or .u32 (x * 2 ^ (32 - n) % 4294967296) (x / 2 ^ n)
theorem rorV_in (x : Int) (n : Nat) : 0 ≤ rorV x n ∧ rorV x n ≤ 4294967295 := ⟨(bits_within .or .u32 _ _).1, (bits_within .or .u32 _ _).2⟩
theorem mask31 (n : Nat) (h1 : 1 ≤ n) (h2 : n ≤ 31) : bits .and .u64 (IntKind.u64.wrap (-(n : Int))) 31 = ((32 - n : Nat) : Int) := by
  have e : IntKind.u64.wrap (-(n : Int)) = ((18446744073709551616 - n : Nat) : Int) := by rw [IntKind.wrap_u64]; omega
  rw [e]
  have := bits_and_u64_nat (18446744073709551616 - n) 31 (by omega) (by omega)
  rw [Nat.and_two_pow_sub_one_eq_mod _ 5] at this
  refine this.trans ?_
  congr 1
  omega
set_option maxHeartbeats 1000000 in
theorem rot_is (x : Int) (n : Nat) (w : World) (h1 : 1 ≤ n) (h2 : n ≤ 31) :
    Calls Tryd.prog 65 #[.int .u32 x, .int .i64 (-(n : Int))] w fun e w' => e = .returned (.int .u32 (rorV x n)) ∧ w = w' := by
  have hm := mask31 n h1 h2
  have e1 : IntKind.u64.wrap (32 - ((32 - n : Nat) : Int)) = (n : Int) := by rw [IntKind.wrap_u64]; omega
  have hz : Hid (bits .or .u32 (x * 2 ^ (32 - n) % 4294967296) (x / 2 ^ n) = rorV x n) := Lib.hid rfl
  obtain ⟨m, hmm⟩ : ∃ m, 32 - n = m := ⟨_, rfl⟩
  have hb : m ≤ 31 := by omega
  rw [hmm] at hm e1 hz
  clear hmm
  go_enter Tryd.func65, Tryd.ntmps65
  go_wp2
  refine bodyPost_ret (v := .int .u32 (rorV x n)) (by simp [results, Tryd.results65, go_sem, hz.out]) rfl ⟨rfl, rfl⟩
set_option maxHeartbeats 1000000 in
theorem right_is (x : Int) (n : Nat) (w : World) (h1 : 1 ≤ n) (h2 : n ≤ 31) :
    Calls Tryd.prog 55 #[.int .u32 x, .int .i64 (n : Int)] w fun e w' => e = .returned (.int .u32 (rorV x n)) ∧ w = w' := by
  go_enter Tryd.func55, Tryd.ntmps55
  go_wp2_with fail
  refine (rot_is x n _ h1 h2).mono ?_
  rintro e w1 ⟨rfl, rfl⟩
  go_wp2_with fail
  refine bodyPost_ret (v := .int .u32 (rorV x n)) (by simp [results, Tryd.results55, go_sem]) rfl ⟨rfl, rfl⟩
theorem idx_at (s : ByteArray) (i : Nat) (h : i < s.size) (W : World) : (Instr.index 9 (.string s) (.int .i64 (i : Int))).run Tryd.prog W = .ok (.int .u8 (s[i].toNat : Int)) W := by
  rw [run_index_string W _ _ _ _ Tryd.underlying9, dif_pos ⟨by omega, by omega⟩]
  rfl
/-- a word out of four bytes -/
def wordV (a b c d : Int) : Int := bits .or .u32 (bits .or .u32 (bits .or .u32 (a % 4294967296 * 16777216 % 4294967296) (b % 4294967296 * 65536 % 4294967296)) (c % 4294967296 * 256 % 4294967296)) (d % 4294967296)
set_option maxHeartbeats 1000000 in
theorem word_is (s : ByteArray) (w : World) (hs : 4 ≤ s.size) (h2 : s.size ≤ maxLen) :
    Calls Tryd.prog 54 #[.string s] w fun e w' => e = .returned (.int .u32 (wordV s[0].toNat s[1].toNat s[2].toNat s[3].toNat)) ∧ Below w.heap.size w w' := by
  go_enter Tryd.func54, Tryd.ntmps54
  have i0 := fun W => idx_at s 0 (by omega) W
  have i1 := fun W => idx_at s 1 (by omega) W
  have i2 := fun W => idx_at s 2 (by omega) W
  have i3 := fun W => idx_at s 3 (by omega) W
  simp only [Int.cast_ofNat_Int] at i0 i1 i2 i3
  go_upto_region 1 with fail
  go_region
  go_wp2_with fail
  go_ret
  exact ⟨rfl, Below.drew (Below.refl _ _)⟩
end Go.Proofs.YtichklplcpkjdaaDoor
