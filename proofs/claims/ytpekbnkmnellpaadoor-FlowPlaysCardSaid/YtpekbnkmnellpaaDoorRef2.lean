/-
  The walks of the document's Writer (voussoirref02).
-/
import Derived.Test.YtpekbnkmnellpaaDoorCodecMath
import Derived.Deep.RegionWith
import Derived.Deep.RegionLaw
namespace Go.Proofs.YtpekbnkmnellpaaDoor
open Go.RowKit
set_option linter.unusedVariables false

def numL (n : Int) (k : Nat) : List UInt8 := List.replicate k 0 ++ nB n (8 - k)
def bCA (l : List UInt8) : Array Value := (bC l).toArray
theorem numL_len (n : Int) (k : Nat) (h : k ≤ 8) : (numL n k).length = 8 := by simp [numL, nB_len]; omega
theorem numL_set (n : Int) (k : Nat) (h : k + 1 ≤ 8) : (numL n (k + 1)).set k (nByte n (8 - (k + 1))) = numL n k := by
  unfold numL
  rw [show 8 - k = (8 - (k + 1)) + 1 by omega, nB, List.replicate_succ', List.append_assoc, List.set_append]
  simp
theorem bCA_set (l : List UInt8) (i : Nat) (b : UInt8) : (bCA l).setIfInBounds i (.int .u8 (b.toNat : Int)) = bCA (l.set i b) := by
  unfold bCA bC
  rw [List.setIfInBounds_toArray, List.map_set]
theorem bCA_get (l : List UInt8) (i : Nat) (h : i < l.length) : (bCA l)[i]? = some (.int .u8 ((l.getD i 0).toNat : Int)) := by
  simp only [bCA, bC, List.getElem?_toArray, List.getElem?_map, getD_at _ i 0 h, List.getElem?_eq_getElem h]
  rfl
def NumRel8 (n : Int) (w : World) (c : Nat) (n' i : Value) (wr : World) : Prop :=
  ∃ k : Nat, k ≤ 8 ∧ c = k ∧ n' = .int .u64 (n / 256 ^ (8 - k)) ∧ i = .int .i64 ((k : Int) - 1) ∧ Blk wr w.heap.size 5 (bCA (numL n k)) ∧ Below w.heap.size w wr
theorem num_div (n : Int) (m : Nat) (h0 : 0 ≤ n) (h1 : n ≤ 18446744073709551615) (hm : m + 1 ≤ 8) : 0 ≤ n / 256 ^ (8 - (m + 1)) ∧ n / 256 ^ (8 - (m + 1)) ≤ 18446744073709551615 := by
  have hp : (0 : Int) < 256 ^ (8 - (m + 1)) := Int.pow_pos (by omega)
  refine ⟨Int.ediv_nonneg h0 (Int.le_of_lt hp), ?_⟩
  exact Int.le_trans (Int.ediv_le_self _ h0) h1
theorem num_step (n : Int) (m : Nat) (hm : m + 1 ≤ 8) (h0 : 0 ≤ n) {w wr : World} (hb : Blk wr w.heap.size 5 (bCA (numL n (m + 1)))) (hl : Below w.heap.size w wr) :
    NumRel8 n w m (.int .u64 (n / 256 ^ (8 - (m + 1)) / 256)) (.int .i64 ((m : Int) - 1)) (wr.setCell ⟨w.heap.size, m, none⟩ (.int .u8 (n / 256 ^ (8 - (m + 1)) % 256))) := by
  refine ⟨m, by omega, rfl, ?_, rfl, ?_, hl.setCell (p := ⟨w.heap.size, m, none⟩) (Nat.le_refl _) _⟩
  · congr 1
    rw [show 8 - m = (8 - (m + 1)) + 1 by omega, Int.pow_succ, Int.ediv_ediv_of_nonneg (Int.le_of_lt (Int.pow_pos (by omega)))]
  · have := hb.set_ m (.int .u8 (n / 256 ^ (8 - (m + 1)) % 256))
    have e : ((nByte n (8 - (m + 1))).toNat : Int) = n / 256 ^ (8 - (m + 1)) % 256 := by
      unfold nByte
      have h2 : (2 : Nat) ^ (8 * (8 - (m + 1))) = 256 ^ (8 - (m + 1)) := by rw [Nat.pow_mul]
      have h3 : (2 : Int) ^ (8 * (8 - (m + 1))) = 256 ^ (8 - (m + 1)) := by
        have := congrArg (fun x : Nat => (x : Int)) h2
        simpa using this
      rw [h3, byte_back _ (by omega) (by omega)]
    rw [← e, bCA_set, numL_set n m hm, e] at this
    exact this
set_option maxRecDepth 100000 in
set_option maxHeartbeats 1000000 in
theorem number8_is (n : Int) (w : World) (hn : u64r n) :
    Calls Tryd.prog 97 #[.int .u64 n, .int .i64 8] w fun e w' => e = .returned (.string ⟨(nB n 8).toArray⟩) ∧ Below w.heap.size w w' := by
  have hmk : ∀ w : World, (Instr.makeSlice 89 (.int .i64 8) (.int .i64 8)).run Tryd.prog w = .ok (.slice (some ⟨w.heap.size, 0, none⟩) 8 8) (w.alloc (.cells #[.int .u8 0, .int .u8 0, .int .u8 0, .int .u8 0, .int .u8 0, .int .u8 0, .int .u8 0, .int .u8 0] 5)) := fun _ => by kernel_rfl
  obtain ⟨h0, h1⟩ := hn
  go_enter Tryd.func97, Tryd.ntmps97
  go_wp2_with fail
  go_loopg [0, 6] 8 (fun c n' i wr => NumRel8 n w c n' i wr)
  case atStart => exact ⟨8, by omega, rfl, by simp, rfl, Blk.new _ _ _, balloc (Below.refl _ w) _⟩
  case round =>
    obtain ⟨k, hk, hc, rfl, rfl, hb, hl⟩ := hrel
    have HC := Lib.hid hc
    have HB := Lib.hid hb
    have HL := Lib.hid hl
    clear hc hb hl hmk
    rcases Nat.eq_zero_or_pos k with hk0 | hk0
    · have HK0 := Lib.hid hk0
      have t0 : (k : Int) - 1 < 0 := by omega
      have hby : Byt wr w.heap.size (.slice (some ⟨w.heap.size, 0, none⟩) 8 8) (nB n 8) := by
        have := HB.out
        rw [HK0.out] at this
        refine ⟨by rw [bC_len]; simp, .inr ⟨w.heap.size, 8, _, by rw [nB_len], Nat.le_refl _, this, by rw [nB_len]; omega, by unfold maxLen; omega, ?_, ?_⟩⟩
        · simp [bCA, bC, numL, nB_len]
        · simp only [bCA, numL, List.replicate_zero, List.nil_append, Nat.sub_zero, Nat.mul_one]
          rw [List.take_of_length_le]
          rw [bC_len]; simp [nB_len]
      have hcv := hby.conv
      clear hk0 hby
      go_wp2_with fail
      go_ret
      exact ⟨rfl, HL.out⟩
    · obtain ⟨m, rfl⟩ : ∃ m, k = m + 1 := ⟨k - 1, by omega⟩
      have hd := num_div n m h0 h1 (by omega)
      have HN : Hid (NumRel8 n w m (.int .u64 (n / 256 ^ (8 - (m + 1)) / 256)) (.int .i64 ((m : Int) - 1)) (wr.setCell ⟨w.heap.size, m, none⟩ (.int .u8 (n / 256 ^ (8 - (m + 1)) % 256)))) := Lib.hid (num_step n m (by omega) h0 HB.out HL.out)
      have c0 := HB.out.cell m
      rw [bCA_get _ _ (by rw [numL_len _ _ (by omega)]; omega)] at c0
      have f0 := HB.out.frozen m
      generalize n / 256 ^ (8 - (m + 1)) = x at hd HN ⊢
      obtain ⟨x0, x1⟩ := hd
      have i0 : (m : Int) < 8 := by omega
      generalize ((numL n (m + 1)).getD m 0).toNat = z at c0
      clear HB HL
      go_wp2_with fail
      go_roundg m
      case measure => rw [HC.out]; omega
      case rel => exact HN.out
set_option maxHeartbeats 1000000 in
theorem rnewwriter_is (w : World) : Calls Tryd.prog 65 #[] w fun e w' => e = .returned (.pointer (some ⟨w.heap.size, 0, none⟩)) ∧ w' = w.alloc (.cells #[.string ⟨#[]⟩] 126) := by
  go_enter Tryd.func65, Tryd.ntmps65
  go_wp2
  go_ret
  exact ⟨rfl, rfl⟩
set_option maxHeartbeats 1000000 in
theorem rbytes_is (w : World) (g : Nat) (s : ByteArray) (hb : Blk w g 126 #[.string s]) :
    Calls Tryd.prog 67 #[.pointer (some ⟨g, 0, none⟩)] w fun e w' => e = .returned (.string s) ∧ w = w' := by
  have c0 : w.cell? ⟨g, 0, none⟩ = some (.string s) := hb.cell 0
  have HB := Lib.hid hb
  clear hb
  go_enter Tryd.func67, Tryd.ntmps67
  go_wp2
  go_ret
  exact ⟨rfl, rfl⟩
set_option maxRecDepth 100000 in
set_option maxHeartbeats 1000000 in
theorem rnum_is (w : World) (g : Nat) (l : List UInt8) (n : Int) (hb : Blk w g 126 #[.string ⟨l.toArray⟩]) (hl : l.length ≤ 1000) (hn : u64r n) :
    Calls Tryd.prog 66 #[.pointer (some ⟨g, 0, none⟩), .int .u64 n] w fun e w' => e = .returned (.tuple #[]) ∧ Blk w' g 126 #[.string ⟨(l ++ nB n 8).toArray⟩] ∧ Only [g] w w' := by
  have c0 : w.cell? ⟨g, 0, none⟩ = some (.string ⟨l.toArray⟩) := hb.cell 0
  have f0 := hb.frozen 0
  have HB := Lib.hid hb
  have HN := Lib.hid hn
  have hlen := nB_len n 8
  have HLn := Lib.hid hlen
  have hle : (nB n 8).length ≤ 8 := by omega
  have HCat : Hid ((⟨l.toArray⟩ ++ ⟨(nB n 8).toArray⟩ : ByteArray) = ⟨(l ++ nB n 8).toArray⟩) := Lib.hid (cat2 _ _)
  clear hb hn hlen
  go_enter Tryd.func66, Tryd.ntmps66
  go_wp2_with fail
  go_region_with ((go_at_call 97; refine (number8_is n _ HN.out).mono ?_; rintro e w2 ⟨rfl, hb2⟩; have hB2 := HB.out.drew.below hb2; have d0 := hB2.cell 0; have e0 := hB2.frozen 0; have HB2 := Lib.hid hB2; have HL2 := Lib.hid hb2; clear hB2 hb2))
  all_goals
    go_end0
    exact ⟨rfl, by rw [← HCat.out]; exact HB2.out.set_ 0 _, (Only.of_below (S := [g]) (bstep (Below.refl _ w).drew HL2.out)).set_ (by simp) _⟩
end Go.Proofs.YtpekbnkmnellpaaDoor
