/-
  The document's sha (voussoirref01): Sum and Tag answer as sha's do.
-/
import Derived.Test.YtpekbnkmnellpaaDoorRef1
import Derived.Test.YtpekbnkmnellpaaDoorRegAll
import Derived.Deep.QuietTactic
import Derived.BigQuiet
import Derived.IntWalk
import Derived.StillTailTactics
import Derived.Deep.AppendLies
import Derived.Deep.RegionLaw
import Derived.Test.YtpekbnkmnellpaaDoorShaTop
import Derived.Test.YtpekbnkmnellpaaDoorCodecMath
import Derived.Test.YtpekbnkmnellpaaDoorRowL
import Derived.Deep.DeepCutAuto
import Derived.Test.YtpekbnkmnellpaaDoorShaTag
namespace Go.Proofs.YtpekbnkmnellpaaDoor
open Go.RowKit
set_option linter.unusedVariables false

/-- what the walks use of the variables, the document's, too -/
structure GlobR (w : World) : Prop where
  g : Glob w
  k : ∃ t fr, w.heap[3]? = some (.cells kA t fr)
  first : ∃ t fr, w.heap[2]? = some (.cells (stC firstS.l) t fr)
theorem GlobR.of_blocks {w w' : World} (G : GlobR w) (h : ∀ i, i < 4 → w'.heap[i]? = w.heap[i]?) : GlobR w' := by
  obtain ⟨g, ⟨t, fr, hk⟩, ⟨t2, fr2, h2⟩⟩ := G
  exact ⟨g.of_blocks fun i hi => h i (by omega), ⟨t, fr, by rw [h _ (by decide)]; exact hk⟩, ⟨t2, fr2, by rw [h _ (by decide)]; exact h2⟩⟩
theorem GlobR.four {w : World} (G : GlobR w) : 4 ≤ w.heap.size := by
  obtain ⟨g, ⟨t, fr, hk⟩, _⟩ := G
  exact lt_of_some hk
theorem GlobR.below {w w' : World} {B : Nat} (G : GlobR w) (hb : Below B w w') (h2 : 4 ≤ B) : GlobR w' := G.of_blocks fun i hi => hb.block i (by omega)
theorem GlobR.next {w w' : World} (G : GlobR w) (hb : Below w.heap.size w w') : GlobR w' := G.below hb G.four
theorem GlobR.alloc {w : World} (G : GlobR w) (o : Obj) : GlobR (w.alloc o) := G.of_blocks fun i hi => Below.heap_alloc w o i (Nat.lt_of_lt_of_le hi G.four)
theorem GlobR.kcell {w : World} (G : GlobR w) (i : Nat) (h : i < 64) : w.cell? ⟨3, i, none⟩ = some (.int .u32 (kL.getD i 0)) := by
  obtain ⟨t, fr, hk⟩ := G.k
  rw [cell_of_row w _ i kA t fr hk, kA_get i h]

theorem bits_or_comm (x y : Int) : bits .or .u32 x y = bits .or .u32 y x := by
  unfold bits
  simp only [BitVec.or_comm]
theorem bits_xor_comm (x y : Int) : bits .xor .u32 x y = bits .xor .u32 y x := by
  unfold bits
  simp only [BitVec.xor_comm]
set_option maxHeartbeats 1000000 in
theorem rrot_is (x : Int) (n : Nat) (w : World) (h1 : 1 ≤ n) (h2 : n ≤ 31) :
    Calls Tryd.prog 118 #[.int .u32 x, .int .i64 (n : Int)] w fun e w' => e = .returned (.int .u32 (rorV x n)) ∧ ∃ m, w' = w.drewN m := by
  have hz : Hid (bits .or .u32 (x / 2 ^ n) (x * 2 ^ (32 - n) % 4294967296) = rorV x n) := Lib.hid (bits_or_comm _ _)
  obtain ⟨m, hmm⟩ : ∃ m, 32 - n = m := ⟨_, rfl⟩
  have hb : m ≤ 31 := by omega
  rw [hmm] at hz
  have e1 : IntKind.i64.wrap ((32 : Int) - (n : Int)) = (m : Int) := by rw [IntKind.wrap_i64]; omega
  clear hmm
  go_enter Tryd.func118, Tryd.ntmps118
  go_upto_region 1 with fail
  go_quiet (fail)
  go_wp2
  refine bodyPost_ret (v := .int .u32 (rorV x n)) (by simp [results, Tryd.results118, go_sem, hz.out]) rfl ⟨rfl, ⟨nq, rfl⟩⟩
/-- words as cells -/
def uC (l : List Int) : List Value := l.map fun x => Value.int .u32 x
/-- the slice v owns the words l, in a block from base on -/
def Wds (w : World) (base : Nat) (v : Value) (l : List Int) : Prop := w.ownsRow base 122 1 v l.length (uC l)
theorem info_u32 : (Tryd.prog.info? 122).map (fun i => (i.zero, i.size, i.bytes)) = some (some (.int .u32 0), 1, 4) := by kernel_rfl
theorem oneCell (w : World) (a : Value) (t : TypeId) : ∀ j u, [a][j]? = some u → (w.alloc (.cells #[a] t)).cell? ((⟨w.heap.size, 0, none⟩ : Addr).add j) = some u := by
  intro j u hu
  have e : (⟨w.heap.size, 0, none⟩ : Addr).add j = ⟨w.heap.size, j, none⟩ := by unfold Addr.add; split <;> simp_all
  rw [e, (Blk.new w t #[a]).cell j]
  simpa using hu
/-- the first words of bytes -/
def wordsL (l : List UInt8) : Nat → List Int
  | 0 => []
  | n + 1 => wordsL l n ++ [wordL (l.drop (4 * n))]
theorem wordsL_len (l : List UInt8) : ∀ n, (wordsL l n).length = n
  | 0 => rfl
  | n + 1 => by simp [wordsL, wordsL_len l n]
theorem Wds.nil (w : World) (base : Nat) : Wds w base (.slice none 0 0) [] := World.ownsRow_nil _ _ _ _
theorem Wds.kept {w w' : World} {base : Nat} {v : Value} {l : List Int} (h : Wds w base v l) (hb : Below w.heap.size w w') : Wds w' base v l := by
  refine ⟨h.1, ?_⟩
  rcases h.2 with hn | ⟨g, cap, cur, hv, hbg, hgg, rest⟩
  · exact .inl hn
  · exact .inr ⟨g, cap, cur, hv, hbg, (hb.block g (lt_of_block hgg)).trans hgg, rest⟩
theorem word_at (s : ByteArray) (j : Nat) (h : 4 * j + 4 ≤ s.size) : wordV s[4 * j].toNat s[4 * j + 1].toNat s[4 * j + 2].toNat s[4 * j + 3].toNat = wordL (s.data.toList.drop (4 * j)) := by
  have hl := len_data s
  have e : ∀ i (hi : 4 * j + i < s.size), s[4 * j + i] = (s.data.toList.drop (4 * j)).getD i 0 := fun i hi => by
    rw [get_list s _ hi, List.getD_eq_getElem?_getD, List.getD_eq_getElem?_getD, List.getElem?_drop]
  unfold wordL
  rw [← e 0 (by omega), ← e 1 (by omega), ← e 2 (by omega), ← e 3 (by omega)]
  rfl
def wordsV (s : ByteArray) (p b0 b1 b2 b3 H : Nat) (u3 : Value) (i : Nat) (v : Value) : Prop := match i with
  | 0 => v = u3
  | 1 => v = .string s
  | 2 => v = .int .i64 (p : Int)
  | 3 => v = .int .u8 (b0 : Int)
  | 4 => v = .int .u32 ((b0 : Int) % 4294967296)
  | 5 => v = .int .u32 (((b0 : Int) % 4294967296) * 16777216 % 4294967296)
  | 6 => v = .string s
  | 7 => v = .int .i64 (p : Int)
  | 8 => v = .int .i64 ((p : Int) + 1)
  | 9 => v = .int .u8 (b1 : Int)
  | 10 => v = .int .u32 ((b1 : Int) % 4294967296)
  | 11 => v = .int .u32 (((b1 : Int) % 4294967296) * 65536 % 4294967296)
  | 12 => v = .int .u32 (bits .or .u32 (((b0 : Int) % 4294967296) * 16777216 % 4294967296) (((b1 : Int) % 4294967296) * 65536 % 4294967296))
  | 13 => v = .string s
  | 14 => v = .int .i64 (p : Int)
  | 15 => v = .int .i64 ((p : Int) + 2)
  | 16 => v = .int .u8 (b2 : Int)
  | 17 => v = .int .u32 ((b2 : Int) % 4294967296)
  | 18 => v = .int .u32 (((b2 : Int) % 4294967296) * 256 % 4294967296)
  | 19 => v = .int .u32 (bits .or .u32 (bits .or .u32 (((b0 : Int) % 4294967296) * 16777216 % 4294967296) (((b1 : Int) % 4294967296) * 65536 % 4294967296)) (((b2 : Int) % 4294967296) * 256 % 4294967296))
  | 20 => v = .string s
  | 21 => v = .int .i64 (p : Int)
  | 22 => v = .int .i64 ((p : Int) + 3)
  | 23 => v = .int .u8 (b3 : Int)
  | 24 => v = .int .u32 ((b3 : Int) % 4294967296)
  | 25 => v = .int .u32 (bits .or .u32 (bits .or .u32 (bits .or .u32 (((b0 : Int) % 4294967296) * 16777216 % 4294967296) (((b1 : Int) % 4294967296) * 65536 % 4294967296)) (((b2 : Int) % 4294967296) * 256 % 4294967296)) ((b3 : Int) % 4294967296))
  | 26 => v = .slice (some ⟨H, 0, none⟩) 1 1
  | _ => True
def WdsRel (s : ByteArray) (w : World) (c : Nat) (v i : Value) (wr : World) : Prop :=
  ∃ j : Nat, 4 * j ≤ s.size ∧ c = s.size / 4 - j ∧ i = .int .i64 ((4 * j : Nat) : Int) ∧ Wds wr w.heap.size v (wordsL s.data.toList j) ∧ Below w.heap.size w wr
theorem words_step {s : ByteArray} {w W w3 : World} {j p b0 b1 b2 b3 : Nat} {v v' : Value} {x : Value} {t : TypeId} (hp : 4 * j = p) (hwd : wordV b0 b1 b2 b3 = wordL (s.data.toList.drop (4 * j))) (hW : Wds W w.heap.size v (wordsL s.data.toList j)) (hL : Below w.heap.size w W)
    (ho : w3.ownsRow w.heap.size 122 1 v' ((wordsL s.data.toList j).length + 1) (uC (wordsL s.data.toList j) ++ [.int .u32 (wordV b0 b1 b2 b3)])) (hg : (W.alloc (.cells #[x] t)).grownBy w3 v.ownBlock) (hs : 4 * j + 4 ≤ s.size) : WdsRel s w (s.size / 4 - (j + 1)) v' (.int .i64 ((p : Int) + 4)) w3 := by
  refine ⟨j + 1, by omega, rfl, by congr 1; omega, ?_, (balloc hL _).grown hg (by have := hL.size; simp; omega) (fun k hk => (hW.lt k hk).1)⟩
  show Wds w3 w.heap.size v' (wordsL s.data.toList j ++ [wordL (s.data.toList.drop (4 * j))])
  rw [← hwd]
  unfold Wds uC
  rw [List.map_append, List.length_append]
  exact ho
set_option maxRecDepth 100000 in
set_option maxHeartbeats 2000000 in
theorem words_is (s : ByteArray) (w : World) (hs : s.size ≤ 64) :
    Calls Tryd.prog 117 #[.string s] w fun e w' => ∃ v, e = .returned v ∧ Wds w' w.heap.size v (wordsL s.data.toList (s.size / 4)) ∧ Below w.heap.size w w' := by
  obtain ⟨i0, hi, hz0, hz1, hz2⟩ := info_parts info_u32
  have HI := Lib.hid (And.intro hi (And.intro hz0 (And.intro hz1 hz2)))
  clear hi hz0 hz1 hz2
  go_enter Tryd.func117, Tryd.ntmps117
  go_wp2_with fail
  go_loopg [3, 4] (s.size / 4) (fun c v i wr => WdsRel s w c v i wr)
  case atStart => exact ⟨0, by omega, rfl, rfl, Wds.nil _ _, Below.refl _ _⟩
  case round =>
    obtain ⟨j, hj, hc, rfl, hw, hl⟩ := hrel
    have HC := Lib.hid hc
    have HW := Lib.hid hw
    have HL := Lib.hid hl
    clear hc hw hl
    by_cases h4 : 4 * j + 4 ≤ s.size
    · have HWd := Lib.hid (word_at s j h4)
      have q0 := fun W => idx_at s (4 * j) (by omega) W
      have q1 := fun W => idx_at s (4 * j + 1) (by omega) W
      have q2 := fun W => idx_at s (4 * j + 2) (by omega) W
      have q3 := fun W => idx_at s (4 * j + 3) (by omega) W
      generalize s[4 * j].toNat = b0 at HWd q0
      generalize s[4 * j + 1].toNat = b1 at HWd q1
      generalize s[4 * j + 2].toNat = b2 at HWd q2
      generalize s[4 * j + 3].toNat = b3 at HWd q3
      obtain ⟨p, hp⟩ : ∃ p, 4 * j = p := ⟨_, rfl⟩
      rw [hp] at q0 q1 q2 q3
      simp only [Int.natCast_add, Int.cast_ofNat_Int] at q1 q2 q3
      have hp4 : (p : Int) + 4 ≤ (s.size : Int) := by omega
      have hps : p ≤ 64 := by omega
      rw [hp]
      have HP := Lib.hid hp
      have HS4 := Lib.hid h4
      clear hp hj h4
      have hB := HL.out.size
      have hlen : (wordsL s.data.toList j).length ≤ 16 := by rw [wordsL_len]; have := HP.out; omega
      have HW2 : Hid (Wds wr.drew w.heap.size _ (wordsL s.data.toList j)) := HW
      have HL2 : Hid (Below w.heap.size w wr.drew) := Lib.hid HL.out.drew
      clear HW HL
      have s1 : IntKind.i64.wrap ((p : Int) + 1) = (p : Int) + 1 := by rw [IntKind.wrap_i64]; omega
      have s2 : IntKind.i64.wrap ((p : Int) + 2) = (p : Int) + 2 := by rw [IntKind.wrap_i64]; omega
      have s3 : IntKind.i64.wrap ((p : Int) + 3) = (p : Int) + 3 := by rw [IntKind.wrap_i64]; omega
      have HM : Hid ((wordsL s.data.toList j).length + 1 ≤ maxLen ∧ ((wordsL s.data.toList j).length + 1) * 4 ≤ 140737488355328) := Lib.hid ⟨by unfold maxLen; omega, by omega⟩
      obtain ⟨H, hH⟩ : ∃ H, wr.heap.size = H := ⟨_, rfl⟩
      have HH := Lib.hid hH
      clear hH
      go_upto_region 5 with fail
      refine wp_abs fun a0 hA => ?_
      have h0 : a0.eval (.tmp 0) = .string s := by rw [hA]; rfl
      have h3 : a0.eval (.tmp 3) = u3 := by rw [hA]; rfl
      have h4 : a0.eval (.tmp 4) = .int .i64 (p : Int) := by rw [hA]; rfl
      have hz : a0.tmps.size = 41 := by rw [hA]; rfl
      refine wp_region_J0 [some 12, some 13, some 14, some 15, some 16, some 17, some 18, some 19, some 20, some 21, some 22, some 23, some 24, some 25, some 26, some 27, some 28, some 29, some 30, some 31, some 32, some 33, some 34, some 35, some 36, some 37, some 38, some 39, some 3] 41 (AppJ wr.drew (.cells #[.int .u32 (bits .or .u32 (bits .or .u32 (bits .or .u32 (((b0 : Int) % 4294967296) * 16777216 % 4294967296) (((b1 : Int) % 4294967296) * 65536 % 4294967296)) (((b2 : Int) % 4294967296) * 256 % 4294967296)) ((b3 : Int) % 4294967296))] 122) (fun v W => WdsRel s w (s.size / 4 - (j + 1)) v (.int .i64 ((p : Int) + 4)) W) (wordsV s p b0 b1 b2 b3 H u3) u3 0 26 27 28) (by kernel_rfl) (by kernel_rfl) (by kernel_rfl) rfl (by kernel_rfl) hz ⟨fun i h => (by cases h), fun _ => rfl, fun h => (by cases h), fun h => (by cases h), fun h => (by cases h), fun _ => h3, fun h => (by cases h), fun h => (by cases h), fun h => (by cases h)⟩ ?_ ⟨?_, ?_, ?_, ?_, ?_, ?_, ?_, ?_, ?_, ?_, ?_, ?_, ?_, ?_, ?_, ?_, ?_, ?_, ?_, ?_, ?_, ?_, ?_, ?_, ?_, ?_, ?_, ?_, ?_, trivial⟩
      · intro d u W hd hJ
        obtain ⟨v4, hv4⟩ : ∃ v4, u 27 = v4 := ⟨_, rfl⟩
        have HR := Lib.hid (hJ.w2 (hd 27 (by decide)))
        have hS := hJ.w3 (hd 28 (by decide))
        rw [hv4] at HR hS
        rw [hA]
        simp only [putAll, Act.put, List.setIfInBounds_toArray, List.set_cons_zero, List.set_cons_succ]
        clear hJ hd h0 h3 h4 hz hA
        clear a0
        rw [hS]
        clear hS hv4
        clear s1 s2 s3 q0 q1 q2 q3
        go_wp2_with fail
        go_roundg (s.size / 4 - (j + 1))
        case measure => rw [HC.out]; have := HP.out; omega
        case rel => exact HR.out
      · exact JStep.plain rfl fun ρ d u W he hdi hd hJ => swp_val (run_move (he.i hz (hJ.old hdi) (j := 28) (d := 3) rfl (by decide))) (hJ.pure 0 (by decide) (by decide) (by decide) rfl)
      · exact JStep.plain rfl fun ρ d u W he hdi hd hJ => swp_val (run_move (he.o h0 rfl)) (hJ.pure 1 (by decide) (by decide) (by decide) rfl)
      · exact JStep.plain rfl fun ρ d u W he hdi hd hJ => swp_val (run_move (he.o h4 rfl)) (hJ.pure 2 (by decide) (by decide) (by decide) rfl)
      · exact JStep.plain rfl fun ρ d u W he hdi hd hJ => swp_val (run_index (he.i hz (hJ.vals 1 (hd 1 (by kernel_rfl)) (by decide) (by decide)) (j := 1) (d := 13) rfl (by decide)) (he.i hz (hJ.vals 2 (hd 2 (by kernel_rfl)) (by decide) (by decide)) (j := 2) (d := 14) rfl (by decide)) (q0 W)) (hJ.pure 3 (by decide) (by decide) (by decide) rfl)
      · exact JStep.plain rfl fun ρ d u W he hdi hd hJ => swp_val (run_convert (he.i hz (hJ.vals 3 (hd 3 (by kernel_rfl)) (by decide) (by decide)) (j := 3) (d := 15) rfl (by decide)) (by go_simp; rw [IntKind.wrap_u32])) (hJ.pure 4 (by decide) (by decide) (by decide) rfl)
      · exact JStep.plain rfl fun ρ d u W he hdi hd hJ => swp_val (run_bin (he.i hz (hJ.vals 4 (hd 4 (by kernel_rfl)) (by decide) (by decide)) (j := 4) (d := 16) rfl (by decide)) (he.const _) rfl (by go_simp; rw [IntKind.wrap_u32])) (hJ.pure 5 (by decide) (by decide) (by decide) rfl)
      · exact JStep.plain rfl fun ρ d u W he hdi hd hJ => swp_val (run_move (he.o h0 rfl)) (hJ.pure 6 (by decide) (by decide) (by decide) rfl)
      · exact JStep.plain rfl fun ρ d u W he hdi hd hJ => swp_val (run_move (he.o h4 rfl)) (hJ.pure 7 (by decide) (by decide) (by decide) rfl)
      · exact JStep.plain rfl fun ρ d u W he hdi hd hJ => swp_val (run_bin (he.i hz (hJ.vals 7 (hd 7 (by kernel_rfl)) (by decide) (by decide)) (j := 7) (d := 19) rfl (by decide)) (he.const _) rfl (by go_simp)) (hJ.pure 8 (by decide) (by decide) (by decide) rfl)
      · exact JStep.plain rfl fun ρ d u W he hdi hd hJ => swp_val (run_index (he.i hz (hJ.vals 6 (hd 6 (by kernel_rfl)) (by decide) (by decide)) (j := 6) (d := 18) rfl (by decide)) (he.i hz (hJ.vals 8 (hd 8 (by kernel_rfl)) (by decide) (by decide)) (j := 8) (d := 20) rfl (by decide)) (q1 W)) (hJ.pure 9 (by decide) (by decide) (by decide) rfl)
      · exact JStep.plain rfl fun ρ d u W he hdi hd hJ => swp_val (run_convert (he.i hz (hJ.vals 9 (hd 9 (by kernel_rfl)) (by decide) (by decide)) (j := 9) (d := 21) rfl (by decide)) (by go_simp; rw [IntKind.wrap_u32])) (hJ.pure 10 (by decide) (by decide) (by decide) rfl)
      · exact JStep.plain rfl fun ρ d u W he hdi hd hJ => swp_val (run_bin (he.i hz (hJ.vals 10 (hd 10 (by kernel_rfl)) (by decide) (by decide)) (j := 10) (d := 22) rfl (by decide)) (he.const _) rfl (by go_simp; rw [IntKind.wrap_u32])) (hJ.pure 11 (by decide) (by decide) (by decide) rfl)
      · exact JStep.plain rfl fun ρ d u W he hdi hd hJ => swp_val (run_bin (he.i hz (hJ.vals 5 (hd 5 (by kernel_rfl)) (by decide) (by decide)) (j := 5) (d := 17) rfl (by decide)) (he.i hz (hJ.vals 11 (hd 11 (by kernel_rfl)) (by decide) (by decide)) (j := 11) (d := 23) rfl (by decide)) rfl (by go_simp)) (hJ.pure 12 (by decide) (by decide) (by decide) rfl)
      · exact JStep.plain rfl fun ρ d u W he hdi hd hJ => swp_val (run_move (he.o h0 rfl)) (hJ.pure 13 (by decide) (by decide) (by decide) rfl)
      · exact JStep.plain rfl fun ρ d u W he hdi hd hJ => swp_val (run_move (he.o h4 rfl)) (hJ.pure 14 (by decide) (by decide) (by decide) rfl)
      · exact JStep.plain rfl fun ρ d u W he hdi hd hJ => swp_val (run_bin (he.i hz (hJ.vals 14 (hd 14 (by kernel_rfl)) (by decide) (by decide)) (j := 14) (d := 26) rfl (by decide)) (he.const _) rfl (by go_simp)) (hJ.pure 15 (by decide) (by decide) (by decide) rfl)
      · exact JStep.plain rfl fun ρ d u W he hdi hd hJ => swp_val (run_index (he.i hz (hJ.vals 13 (hd 13 (by kernel_rfl)) (by decide) (by decide)) (j := 13) (d := 25) rfl (by decide)) (he.i hz (hJ.vals 15 (hd 15 (by kernel_rfl)) (by decide) (by decide)) (j := 15) (d := 27) rfl (by decide)) (q2 W)) (hJ.pure 16 (by decide) (by decide) (by decide) rfl)
      · exact JStep.plain rfl fun ρ d u W he hdi hd hJ => swp_val (run_convert (he.i hz (hJ.vals 16 (hd 16 (by kernel_rfl)) (by decide) (by decide)) (j := 16) (d := 28) rfl (by decide)) (by go_simp; rw [IntKind.wrap_u32])) (hJ.pure 17 (by decide) (by decide) (by decide) rfl)
      · exact JStep.plain rfl fun ρ d u W he hdi hd hJ => swp_val (run_bin (he.i hz (hJ.vals 17 (hd 17 (by kernel_rfl)) (by decide) (by decide)) (j := 17) (d := 29) rfl (by decide)) (he.const _) rfl (by go_simp; rw [IntKind.wrap_u32])) (hJ.pure 18 (by decide) (by decide) (by decide) rfl)
      · exact JStep.plain rfl fun ρ d u W he hdi hd hJ => swp_val (run_bin (he.i hz (hJ.vals 12 (hd 12 (by kernel_rfl)) (by decide) (by decide)) (j := 12) (d := 24) rfl (by decide)) (he.i hz (hJ.vals 18 (hd 18 (by kernel_rfl)) (by decide) (by decide)) (j := 18) (d := 30) rfl (by decide)) rfl (by go_simp)) (hJ.pure 19 (by decide) (by decide) (by decide) rfl)
      · exact JStep.plain rfl fun ρ d u W he hdi hd hJ => swp_val (run_move (he.o h0 rfl)) (hJ.pure 20 (by decide) (by decide) (by decide) rfl)
      · exact JStep.plain rfl fun ρ d u W he hdi hd hJ => swp_val (run_move (he.o h4 rfl)) (hJ.pure 21 (by decide) (by decide) (by decide) rfl)
      · exact JStep.plain rfl fun ρ d u W he hdi hd hJ => swp_val (run_bin (he.i hz (hJ.vals 21 (hd 21 (by kernel_rfl)) (by decide) (by decide)) (j := 21) (d := 33) rfl (by decide)) (he.const _) rfl (by go_simp)) (hJ.pure 22 (by decide) (by decide) (by decide) rfl)
      · exact JStep.plain rfl fun ρ d u W he hdi hd hJ => swp_val (run_index (he.i hz (hJ.vals 20 (hd 20 (by kernel_rfl)) (by decide) (by decide)) (j := 20) (d := 32) rfl (by decide)) (he.i hz (hJ.vals 22 (hd 22 (by kernel_rfl)) (by decide) (by decide)) (j := 22) (d := 34) rfl (by decide)) (q3 W)) (hJ.pure 23 (by decide) (by decide) (by decide) rfl)
      · exact JStep.plain rfl fun ρ d u W he hdi hd hJ => swp_val (run_convert (he.i hz (hJ.vals 23 (hd 23 (by kernel_rfl)) (by decide) (by decide)) (j := 23) (d := 35) rfl (by decide)) (by go_simp; rw [IntKind.wrap_u32])) (hJ.pure 24 (by decide) (by decide) (by decide) rfl)
      · exact JStep.plain rfl fun ρ d u W he hdi hd hJ => swp_val (run_bin (he.i hz (hJ.vals 19 (hd 19 (by kernel_rfl)) (by decide) (by decide)) (j := 19) (d := 31) rfl (by decide)) (he.i hz (hJ.vals 24 (hd 24 (by kernel_rfl)) (by decide) (by decide)) (j := 24) (d := 36) rfl (by decide)) rfl (by go_simp)) (hJ.pure 25 (by decide) (by decide) (by decide) rfl)
      · refine JStep.plain rfl fun ρ d u W he hdi hd hJ => ?_
        have hW := hJ.w0 hdi
        subst hW
        exact swp_val (run_bslice (v := .slice (some ⟨wr.drew.heap.size, 0, none⟩) 1 1) #[(0, .int .u32 (bits .or .u32 (bits .or .u32 (bits .or .u32 (((b0 : Int) % 4294967296) * 16777216 % 4294967296) (((b1 : Int) % 4294967296) * 65536 % 4294967296)) (((b2 : Int) % 4294967296) * 256 % 4294967296)) ((b3 : Int) % 4294967296)))] (by simp [(he.i hz (hJ.vals 25 (hd 25 (by kernel_rfl)) (by decide) (by decide)) (j := 25) (d := 37) rfl (by decide))]) (by go_simp)) (hJ.make (by decide) (by decide) hdi (by rw [← HH.out]; rfl))
      · refine JStep.plain rfl fun ρ d u W he hdi hd hJ => ?_
        have hW := hJ.w1 (hd 26 (by kernel_rfl)) hdi
        subst hW
        obtain ⟨g3, cap3, w3, hr3, hown3, hgrow3, _, _⟩ := run_append_lies (P := Tryd.prog) (wr.drew.alloc (.cells #[.int .u32 (bits .or .u32 (bits .or .u32 (bits .or .u32 (((b0 : Int) % 4294967296) * 16777216 % 4294967296) (((b1 : Int) % 4294967296) * 65536 % 4294967296)) (((b2 : Int) % 4294967296) * 256 % 4294967296)) ((b3 : Int) % 4294967296))] 122)) 152 152 w.heap.size 122 i0 (.int .u32 0) 1 4 Tryd.underlying152 HI.out.1 HI.out.2.1 HI.out.2.2.1 HI.out.2.2.2 rfl (by decide) u3 (wordsL s.data.toList j).length (uC (wordsL s.data.toList j)) (World.ownsRow.alloc HW2.out _) ⟨H, 0, none⟩ 1 1 [.int .u32 (bits .or .u32 (bits .or .u32 (bits .or .u32 (((b0 : Int) % 4294967296) * 16777216 % 4294967296) (((b1 : Int) % 4294967296) * 65536 % 4294967296)) (((b2 : Int) % 4294967296) * 256 % 4294967296)) ((b3 : Int) % 4294967296))] rfl (HH.out ▸ oneCell wr.drew _ _) (by simp [Value.oneCell']) (by decide) HM.out.1 HM.out.2 (by simp; omega) _ rfl
        exact swp_val (run_app (he.i hz (hJ.vals 0 (hd 0 (by kernel_rfl)) (by decide) (by decide)) (j := 0) (d := 12) rfl (by decide)) (he.i hz (hJ.vals 26 (hd 26 (by kernel_rfl)) (by decide) (by decide)) (j := 26) (d := 38) rfl (by decide)) hr3) (hJ.app (by decide) (by decide) (hd 26 (by kernel_rfl)) (hd 0 (by kernel_rfl)) hdi (words_step HP.out HWd.out HW2.out HL2.out hown3 hgrow3 HS4.out))
      · exact JStep.plain rfl fun ρ d u W he hdi hd hJ => swp_val (run_assign (he.i hz rfl (j := 27) (d := 39) rfl (by decide))) (hJ.lay (by decide) (by decide) (hd 27 (by kernel_rfl)))
    · have HE : Hid (s.size / 4 = j) := Lib.hid (by omega)
      have hp4 : ¬ ((4 * j : Nat) : Int) + 4 ≤ (s.size : Int) := by omega
      clear h4
      go_wp2_with fail
      go_ret
      exact ⟨_, rfl, by rw [HE.out]; exact HW.out, HL.out⟩
theorem load_u32 (g i : Nat) (W : World) (x : Int) (h : W.cell? ⟨g, i, none⟩ = some (.int .u32 x)) : (Instr.loadAt 122 (.pointer (some ⟨g, i, none⟩))).run Tryd.prog W = .ok (.int .u32 x) W := by go_simp
theorem idx_sl (g n cap j : Nat) (h : j < n) (W : World) : (Instr.indexAt 152 (.slice (some ⟨g, 0, none⟩) n cap) (.int .i64 (j : Int))).run Tryd.prog W = .ok (.pointer (some ⟨g, j, none⟩)) W := by
  have h1 : (j : Int) < (n : Int) := by omega
  go_simp
def textV (l : List Int) (x : Int) (g cap j H : Nat) (u3 : Value) (i : Nat) (v : Value) : Prop := match i with
  | 0 => v = u3
  | 1 => v = .slice (some ⟨g, 0, none⟩) l.length cap
  | 2 => v = .int .i64 (j : Int)
  | 3 => v = .pointer (some ⟨g, j, none⟩)
  | 4 => v = .int .u32 x
  | 5 => v = .int .u32 (x / 16777216)
  | 6 => v = .int .u8 ((x / 16777216) % 256)
  | 7 => v = .slice (some ⟨g, 0, none⟩) l.length cap
  | 8 => v = .int .i64 (j : Int)
  | 9 => v = .pointer (some ⟨g, j, none⟩)
  | 10 => v = .int .u32 x
  | 11 => v = .int .u32 (x / 65536)
  | 12 => v = .int .u8 ((x / 65536) % 256)
  | 13 => v = .slice (some ⟨g, 0, none⟩) l.length cap
  | 14 => v = .int .i64 (j : Int)
  | 15 => v = .pointer (some ⟨g, j, none⟩)
  | 16 => v = .int .u32 x
  | 17 => v = .int .u32 (x / 256)
  | 18 => v = .int .u8 ((x / 256) % 256)
  | 19 => v = .slice (some ⟨g, 0, none⟩) l.length cap
  | 20 => v = .int .i64 (j : Int)
  | 21 => v = .pointer (some ⟨g, j, none⟩)
  | 22 => v = .int .u32 x
  | 23 => v = .int .u8 (x % 256)
  | 24 => v = .slice (some ⟨H, 0, none⟩) 4 4
  | _ => True
def TxtRel (l : List Int) (w : World) (c : Nat) (v i : Value) (wr : World) : Prop :=
  ∃ j : Nat, j ≤ l.length ∧ c = l.length - j ∧ i = .int .i64 (j : Int) ∧ Byt wr w.heap.size v (stB (l.take j)) ∧ Below w.heap.size w wr
theorem stB_next (l : List Int) (j : Nat) (h : j < l.length) : stB (l.take (j + 1)) = stB (l.take j) ++ w4 l[j] := by
  unfold stB
  rw [List.take_succ_eq_append_getElem h, List.flatMap_append]
  simp only [List.flatMap_cons, List.flatMap_nil, List.append_nil]
theorem text_step {l : List Int} {w W w3 : World} {j : Nat} {x : Int} {X : List UInt8} {v v' : Value} {y0 y1 y2 y3 : Value} {t : TypeId} (hj : j < l.length) (hs : stB (l.take (j + 1)) = X ++ w4 x) (hW : Byt W w.heap.size v X) (hL : Below w.heap.size w W)
    (ho : w3.ownsRow w.heap.size 5 1 v' (X.length + 4) (bC X ++ [.int .u8 (x / 16777216 % 256), .int .u8 (x / 65536 % 256), .int .u8 (x / 256 % 256), .int .u8 (x % 256)])) (hg : (W.alloc (.cells #[y0, y1, y2, y3] t)).grownBy w3 v.ownBlock) : TxtRel l w (l.length - (j + 1)) v' (.int .i64 ((j + 1 : Nat) : Int)) w3 := by
  refine ⟨j + 1, by omega, rfl, rfl, ?_, (balloc hL _).grown hg (by have := hL.size; simp; omega) (fun k hk => (hW.lt k hk).1)⟩
  rw [hs]
  unfold Byt
  rw [bC_app, w4_cells, List.length_append]
  exact ho
set_option maxRecDepth 100000 in
set_option maxHeartbeats 2000000 in
theorem rtext_is (l : List Int) (g cap : Nat) (w : World) (hg : g < w.heap.size) (hc : ∀ j (h : j < l.length), w.cell? ⟨g, j, none⟩ = some (.int .u32 l[j])) (hn : l.length ≤ 16) :
    Calls Tryd.prog 116 #[.slice (some ⟨g, 0, none⟩) l.length cap] w fun e w' => e = .returned (.string ⟨(stB l).toArray⟩) ∧ Below w.heap.size w w' := by
  obtain ⟨i0, hi, hz0, hz1, hz2⟩ := info_parts info_u8
  have HI := Lib.hid (And.intro hi (And.intro hz0 (And.intro hz1 hz2)))
  have HC := Lib.hid hc
  clear hi hz0 hz1 hz2 hc
  go_enter Tryd.func116, Tryd.ntmps116
  go_wp2_with fail
  go_loopg [3, 4] l.length (fun c v i wr => TxtRel l w c v i wr)
  case atStart => exact ⟨0, by omega, rfl, rfl, Byt.nil _ _, Below.refl _ _⟩
  case round =>
    obtain ⟨j, hj, hc, rfl, hw, hl⟩ := hrel
    have HK := Lib.hid hc
    have HW := Lib.hid hw
    have HL := Lib.hid hl
    clear hc hw hl
    by_cases hlt : j < l.length
    · have hcell : wr.cell? ⟨g, j, none⟩ = some (.int .u32 l[j]) := (HL.out.cell (p := ⟨g, j, none⟩) hg).trans (HC.out j hlt)
      have HSn := Lib.hid (stB_next l j hlt)
      have HCj := Lib.hid (HC.out j hlt)
      have hlen : (stB (l.take j)).length ≤ 64 := by rw [stB_len, List.length_take]; omega
      generalize l[j] = x at hcell HSn HCj
      generalize stB (l.take j) = X at HW HSn hlen
      have HW2 : Hid (Byt wr.drew w.heap.size _ X) := HW
      have HL2 : Hid (Below w.heap.size w wr.drew) := Lib.hid HL.out.drew
      have hB := HL.out.size
      have HM : Hid (X.length + 4 ≤ maxLen ∧ (X.length + 4) * 1 ≤ 140737488355328) := Lib.hid ⟨by unfold maxLen; omega, by omega⟩
      clear HW HL
      have hcell2 : ∀ o, (wr.drew.alloc o).cell? ⟨g, j, none⟩ = some (.int .u32 x) := fun o => by rw [World.cell?_alloc_lt _ _ _ (by show g < wr.heap.size; omega)]; exact hcell
      have hcell3 : ∀ v W, TxtRel l w (l.length - (j + 1)) v (.int .i64 ((j + 1 : Nat) : Int)) W → W.cell? ⟨g, j, none⟩ = some (.int .u32 x) := fun v W h => by
        obtain ⟨_, _, _, _, _, hb⟩ := h
        exact (hb.cell (p := ⟨g, j, none⟩) hg).trans HCj.out
      have idxW := idx_sl g l.length cap j hlt
      obtain ⟨H, hH⟩ : ∃ H, wr.heap.size = H := ⟨_, rfl⟩
      have HH := Lib.hid hH
      clear hH
      go_upto_region 5 with fail
      refine wp_abs fun a0 hA => ?_
      have h0 : a0.eval (.tmp 0) = .slice (some ⟨g, 0, none⟩) l.length cap := by rw [hA]; rfl
      have h3 : a0.eval (.tmp 3) = u3 := by rw [hA]; rfl
      have h4 : a0.eval (.tmp 4) = .int .i64 (j : Int) := by rw [hA]; rfl
      have hz : a0.tmps.size = 39 := by rw [hA]; rfl
      refine wp_region_J0 [some 11, some 12, some 13, some 14, some 15, some 16, some 17, some 18, some 19, some 20, some 21, some 22, some 23, some 24, some 25, some 26, some 27, some 28, some 29, some 30, some 31, some 32, some 33, some 34, some 35, some 36, some 3] 39 (AppJ wr.drew (.cells #[.int .u8 ((x / 16777216) % 256), .int .u8 ((x / 65536) % 256), .int .u8 ((x / 256) % 256), .int .u8 (x % 256)] 5) (fun v W => TxtRel l w (l.length - (j + 1)) v (.int .i64 ((j + 1 : Nat) : Int)) W) (textV l x g cap j H u3) u3 0 24 25 26) (by kernel_rfl) (by kernel_rfl) (by kernel_rfl) rfl (by kernel_rfl) hz ⟨fun i h => (by cases h), fun _ => rfl, fun h => (by cases h), fun h => (by cases h), fun h => (by cases h), fun _ => h3, fun h => (by cases h), fun h => (by cases h), fun h => (by cases h)⟩ ?_ ⟨?_, ?_, ?_, ?_, ?_, ?_, ?_, ?_, ?_, ?_, ?_, ?_, ?_, ?_, ?_, ?_, ?_, ?_, ?_, ?_, ?_, ?_, ?_, ?_, ?_, ?_, ?_, trivial⟩
      · intro d u W hd hJ
        obtain ⟨v4, hv4⟩ : ∃ v4, u 25 = v4 := ⟨_, rfl⟩
        have HR := Lib.hid (hJ.w2 (hd 25 (by decide)))
        have hS := hJ.w3 (hd 26 (by decide))
        rw [hv4] at HR hS
        rw [hA]
        simp only [putAll, Act.put, List.setIfInBounds_toArray, List.set_cons_zero, List.set_cons_succ]
        clear hJ hd h0 h3 h4 hz hA
        clear a0
        rw [hS]
        clear hS hv4
        clear hcell
        go_wp2_with fail
        go_roundg (l.length - (j + 1))
        case measure => rw [HK.out]; omega
        case rel => exact HR.out
      · exact JStep.plain rfl fun ρ d u W he hdi hd hJ => swp_val (run_move (he.i hz (hJ.old hdi) (j := 26) (d := 3) rfl (by decide))) (hJ.pure 0 (by decide) (by decide) (by decide) rfl)
      · exact JStep.plain rfl fun ρ d u W he hdi hd hJ => swp_val (run_move (he.o h0 rfl)) (hJ.pure 1 (by decide) (by decide) (by decide) rfl)
      · exact JStep.plain rfl fun ρ d u W he hdi hd hJ => swp_val (run_move (he.o h4 rfl)) (hJ.pure 2 (by decide) (by decide) (by decide) rfl)
      · exact JStep.plain rfl fun ρ d u W he hdi hd hJ => swp_val (run_indexAddr (he.i hz (hJ.vals 1 (hd 1 (by kernel_rfl)) (by decide) (by decide)) (j := 1) (d := 12) rfl (by decide)) (he.i hz (hJ.vals 2 (hd 2 (by kernel_rfl)) (by decide) (by decide)) (j := 2) (d := 13) rfl (by decide)) (idxW W)) (hJ.pure 3 (by decide) (by decide) (by decide) rfl)
      · exact JStep.plain rfl fun ρ d u W he hdi hd hJ => swp_val (run_load (he.i hz (hJ.vals 3 (hd 3 (by kernel_rfl)) (by decide) (by decide)) (j := 3) (d := 14) rfl (by decide)) (load_u32 g j W x (hJ.inv (I := fun W => W.cell? ⟨g, j, none⟩ = some (.int .u32 x)) hcell (hcell2 _) hcell3))) (hJ.pure 4 (by decide) (by decide) (by decide) rfl)
      · exact JStep.plain rfl fun ρ d u W he hdi hd hJ => swp_val (run_bin (he.i hz (hJ.vals 4 (hd 4 (by kernel_rfl)) (by decide) (by decide)) (j := 4) (d := 15) rfl (by decide)) (he.const _) rfl (by go_simp)) (hJ.pure 5 (by decide) (by decide) (by decide) rfl)
      · exact JStep.plain rfl fun ρ d u W he hdi hd hJ => swp_val (run_convert (he.i hz (hJ.vals 5 (hd 5 (by kernel_rfl)) (by decide) (by decide)) (j := 5) (d := 16) rfl (by decide)) (by go_simp; rw [IntKind.wrap_u8])) (hJ.pure 6 (by decide) (by decide) (by decide) rfl)
      · exact JStep.plain rfl fun ρ d u W he hdi hd hJ => swp_val (run_move (he.o h0 rfl)) (hJ.pure 7 (by decide) (by decide) (by decide) rfl)
      · exact JStep.plain rfl fun ρ d u W he hdi hd hJ => swp_val (run_move (he.o h4 rfl)) (hJ.pure 8 (by decide) (by decide) (by decide) rfl)
      · exact JStep.plain rfl fun ρ d u W he hdi hd hJ => swp_val (run_indexAddr (he.i hz (hJ.vals 7 (hd 7 (by kernel_rfl)) (by decide) (by decide)) (j := 7) (d := 18) rfl (by decide)) (he.i hz (hJ.vals 8 (hd 8 (by kernel_rfl)) (by decide) (by decide)) (j := 8) (d := 19) rfl (by decide)) (idxW W)) (hJ.pure 9 (by decide) (by decide) (by decide) rfl)
      · exact JStep.plain rfl fun ρ d u W he hdi hd hJ => swp_val (run_load (he.i hz (hJ.vals 9 (hd 9 (by kernel_rfl)) (by decide) (by decide)) (j := 9) (d := 20) rfl (by decide)) (load_u32 g j W x (hJ.inv (I := fun W => W.cell? ⟨g, j, none⟩ = some (.int .u32 x)) hcell (hcell2 _) hcell3))) (hJ.pure 10 (by decide) (by decide) (by decide) rfl)
      · exact JStep.plain rfl fun ρ d u W he hdi hd hJ => swp_val (run_bin (he.i hz (hJ.vals 10 (hd 10 (by kernel_rfl)) (by decide) (by decide)) (j := 10) (d := 21) rfl (by decide)) (he.const _) rfl (by go_simp)) (hJ.pure 11 (by decide) (by decide) (by decide) rfl)
      · exact JStep.plain rfl fun ρ d u W he hdi hd hJ => swp_val (run_convert (he.i hz (hJ.vals 11 (hd 11 (by kernel_rfl)) (by decide) (by decide)) (j := 11) (d := 22) rfl (by decide)) (by go_simp; rw [IntKind.wrap_u8])) (hJ.pure 12 (by decide) (by decide) (by decide) rfl)
      · exact JStep.plain rfl fun ρ d u W he hdi hd hJ => swp_val (run_move (he.o h0 rfl)) (hJ.pure 13 (by decide) (by decide) (by decide) rfl)
      · exact JStep.plain rfl fun ρ d u W he hdi hd hJ => swp_val (run_move (he.o h4 rfl)) (hJ.pure 14 (by decide) (by decide) (by decide) rfl)
      · exact JStep.plain rfl fun ρ d u W he hdi hd hJ => swp_val (run_indexAddr (he.i hz (hJ.vals 13 (hd 13 (by kernel_rfl)) (by decide) (by decide)) (j := 13) (d := 24) rfl (by decide)) (he.i hz (hJ.vals 14 (hd 14 (by kernel_rfl)) (by decide) (by decide)) (j := 14) (d := 25) rfl (by decide)) (idxW W)) (hJ.pure 15 (by decide) (by decide) (by decide) rfl)
      · exact JStep.plain rfl fun ρ d u W he hdi hd hJ => swp_val (run_load (he.i hz (hJ.vals 15 (hd 15 (by kernel_rfl)) (by decide) (by decide)) (j := 15) (d := 26) rfl (by decide)) (load_u32 g j W x (hJ.inv (I := fun W => W.cell? ⟨g, j, none⟩ = some (.int .u32 x)) hcell (hcell2 _) hcell3))) (hJ.pure 16 (by decide) (by decide) (by decide) rfl)
      · exact JStep.plain rfl fun ρ d u W he hdi hd hJ => swp_val (run_bin (he.i hz (hJ.vals 16 (hd 16 (by kernel_rfl)) (by decide) (by decide)) (j := 16) (d := 27) rfl (by decide)) (he.const _) rfl (by go_simp)) (hJ.pure 17 (by decide) (by decide) (by decide) rfl)
      · exact JStep.plain rfl fun ρ d u W he hdi hd hJ => swp_val (run_convert (he.i hz (hJ.vals 17 (hd 17 (by kernel_rfl)) (by decide) (by decide)) (j := 17) (d := 28) rfl (by decide)) (by go_simp; rw [IntKind.wrap_u8])) (hJ.pure 18 (by decide) (by decide) (by decide) rfl)
      · exact JStep.plain rfl fun ρ d u W he hdi hd hJ => swp_val (run_move (he.o h0 rfl)) (hJ.pure 19 (by decide) (by decide) (by decide) rfl)
      · exact JStep.plain rfl fun ρ d u W he hdi hd hJ => swp_val (run_move (he.o h4 rfl)) (hJ.pure 20 (by decide) (by decide) (by decide) rfl)
      · exact JStep.plain rfl fun ρ d u W he hdi hd hJ => swp_val (run_indexAddr (he.i hz (hJ.vals 19 (hd 19 (by kernel_rfl)) (by decide) (by decide)) (j := 19) (d := 30) rfl (by decide)) (he.i hz (hJ.vals 20 (hd 20 (by kernel_rfl)) (by decide) (by decide)) (j := 20) (d := 31) rfl (by decide)) (idxW W)) (hJ.pure 21 (by decide) (by decide) (by decide) rfl)
      · exact JStep.plain rfl fun ρ d u W he hdi hd hJ => swp_val (run_load (he.i hz (hJ.vals 21 (hd 21 (by kernel_rfl)) (by decide) (by decide)) (j := 21) (d := 32) rfl (by decide)) (load_u32 g j W x (hJ.inv (I := fun W => W.cell? ⟨g, j, none⟩ = some (.int .u32 x)) hcell (hcell2 _) hcell3))) (hJ.pure 22 (by decide) (by decide) (by decide) rfl)
      · exact JStep.plain rfl fun ρ d u W he hdi hd hJ => swp_val (run_convert (he.i hz (hJ.vals 22 (hd 22 (by kernel_rfl)) (by decide) (by decide)) (j := 22) (d := 33) rfl (by decide)) (by go_simp; rw [IntKind.wrap_u8])) (hJ.pure 23 (by decide) (by decide) (by decide) rfl)
      · refine JStep.plain rfl fun ρ d u W he hdi hd hJ => ?_
        have hW := hJ.w0 hdi
        subst hW
        exact swp_val (run_bslice (v := .slice (some ⟨wr.drew.heap.size, 0, none⟩) 4 4) #[(0, .int .u8 ((x / 16777216) % 256)), (1, .int .u8 ((x / 65536) % 256)), (2, .int .u8 ((x / 256) % 256)), (3, .int .u8 (x % 256))] (by simp [(he.i hz (hJ.vals 6 (hd 6 (by kernel_rfl)) (by decide) (by decide)) (j := 6) (d := 17) rfl (by decide)), (he.i hz (hJ.vals 12 (hd 12 (by kernel_rfl)) (by decide) (by decide)) (j := 12) (d := 23) rfl (by decide)), (he.i hz (hJ.vals 18 (hd 18 (by kernel_rfl)) (by decide) (by decide)) (j := 18) (d := 29) rfl (by decide)), (he.i hz (hJ.vals 23 (hd 23 (by kernel_rfl)) (by decide) (by decide)) (j := 23) (d := 34) rfl (by decide))]) (by go_simp)) (hJ.make (by decide) (by decide) hdi (by rw [← HH.out]; rfl))
      · refine JStep.plain rfl fun ρ d u W he hdi hd hJ => ?_
        have hW := hJ.w1 (hd 24 (by kernel_rfl)) hdi
        subst hW
        obtain ⟨g3, cap3, w3, hr3, hown3, hgrow3, _, _⟩ := run_append_lies (P := Tryd.prog) (wr.drew.alloc (.cells #[.int .u8 ((x / 16777216) % 256), .int .u8 ((x / 65536) % 256), .int .u8 ((x / 256) % 256), .int .u8 (x % 256)] 5)) 89 89 w.heap.size 5 i0 (.int .u8 0) 1 1 Tryd.underlying89 HI.out.1 HI.out.2.1 HI.out.2.2.1 HI.out.2.2.2 rfl (by decide) u3 X.length (bC X) (World.ownsRow.alloc HW2.out _) ⟨H, 0, none⟩ 4 4 [.int .u8 ((x / 16777216) % 256), .int .u8 ((x / 65536) % 256), .int .u8 ((x / 256) % 256), .int .u8 (x % 256)] rfl (HH.out ▸ fourCells wr.drew _ _ _ _ _) (by simp [Value.oneCell']) (by decide) HM.out.1 HM.out.2 (by simp; omega) _ rfl
        exact swp_val (run_app (he.i hz (hJ.vals 0 (hd 0 (by kernel_rfl)) (by decide) (by decide)) (j := 0) (d := 11) rfl (by decide)) (he.i hz (hJ.vals 24 (hd 24 (by kernel_rfl)) (by decide) (by decide)) (j := 24) (d := 35) rfl (by decide)) hr3) (hJ.app (by decide) (by decide) (hd 24 (by kernel_rfl)) (hd 0 (by kernel_rfl)) hdi (text_step hlt HSn.out HW2.out HL2.out hown3 hgrow3))
      · exact JStep.plain rfl fun ρ d u W he hdi hd hJ => swp_val (run_assign (he.i hz rfl (j := 25) (d := 36) rfl (by decide))) (hJ.lay (by decide) (by decide) (hd 25 (by kernel_rfl)))
    · have HE : Hid (l.take j = l) := Lib.hid (by rw [List.take_of_length_le (by omega)])
      have hcv := HW.out.conv
      rw [HE.out] at hcv
      have hn2 : ¬ (j : Int) < (l.length : Int) := by omega
      clear hlt
      go_wp2_with fail
      go_ret
      exact ⟨rfl, HL.out⟩
set_option maxHeartbeats 2000000 in
theorem first_is (w : World) (G : GlobR w) :
    Calls Tryd.prog 111 #[] w fun e w' => e = .returned (.string ⟨(stB firstS.l).toArray⟩) ∧ Below w.heap.size w w' := by
  obtain ⟨t0, fr0, hf0⟩ := G.first
  have hc : ∀ j (h : j < firstS.l.length), w.cell? ⟨2, j, none⟩ = some (.int .u32 firstS.l[j]) := fun j h => by
    rw [cell_of_row w _ j _ t0 fr0 hf0, stC_get _ _ h, getD_at _ _ _ h]
  have HT := Lib.hid (rtext_is firstS.l 2 8 w (lt_of_some hf0) hc (by decide))
  clear hc G
  go_enter Tryd.func111, Tryd.ntmps111
  go_wp2_with fail
  refine HT.out.mono ?_
  rintro e w1 ⟨rfl, hb1⟩
  go_wp2_with fail
  go_ret
  exact ⟨rfl, hb1⟩
end Go.Proofs.YtpekbnkmnellpaaDoor
namespace Go.Proofs.YtpekbnkmnellpaaDoor
open Go.RowKit
set_option linter.unusedVariables false

theorem pad_push {w3 : World} {B j : Nat} {v : Value} (h : w3.ownsRow B 5 1 v (j + 1 + 1) (bC (128 :: List.replicate j 0) ++ [.int .u8 0])) : Byt w3 B v (128 :: List.replicate (j + 1) 0) := by
  unfold Byt
  have e : (128 :: List.replicate (j + 1) (0 : UInt8)) = (128 :: List.replicate j 0) ++ [0] := by rw [List.replicate_succ']; rfl
  rw [e, bC_app, List.length_append, List.length_cons, List.length_replicate]
  exact h
def PadRel (z : Nat) (w : World) (c : Nat) (v : Value) (wr : World) : Prop :=
  ∃ j : Nat, j ≤ z ∧ c = z - j ∧ Byt wr w.heap.size v (128 :: List.replicate j 0) ∧ Below w.heap.size w wr
def BitRel (X : List UInt8) (B : Int) (w : World) (c : Nat) (v i : Value) (wr : World) : Prop :=
  ∃ j : Nat, j ≤ 8 ∧ c = 8 - j ∧ i = .int .i64 (7 - (j : Int)) ∧ Byt wr w.heap.size v (X ++ (nB B 8).take j) ∧ Below w.heap.size w wr
theorem nB_next (B : Int) (j : Nat) (h : j < 8) : (nB B 8).take (j + 1) = (nB B 8).take j ++ [nByte B (7 - j)] := by
  have : j = 0 ∨ j = 1 ∨ j = 2 ∨ j = 3 ∨ j = 4 ∨ j = 5 ∨ j = 6 ∨ j = 7 := by omega
  rcases this with rfl | rfl | rfl | rfl | rfl | rfl | rfl | rfl <;> rfl
theorem nByte_cell (B : Int) (k : Nat) (h0 : 0 ≤ B) : ((nByte B k).toNat : Int) = B / 2 ^ (8 * k) % 256 := by
  unfold nByte
  rw [byte_back _ (by omega) (by omega)]
theorem pad_bits (n : Nat) (hn : n ≤ 140737488355328) : padL n = (128 :: List.replicate ((119 - n % 64) % 64) 0) ++ nB (8 * (n : Int)) 8 := by
  unfold padL
  rw [List.append_assoc]
  congr 1
  have e : nB (8 * (n : Int)) 8 = [nByte (8 * (n : Int)) 7, nByte (8 * (n : Int)) 6, nByte (8 * (n : Int)) 5, nByte (8 * (n : Int)) 4, nByte (8 * (n : Int)) 3, nByte (8 * (n : Int)) 2, nByte (8 * (n : Int)) 1, nByte (8 * (n : Int)) 0] := rfl
  rw [e]
  simp only [w4, nByte, List.cons_append, List.nil_append]
  have p7 : (2 : Int) ^ (8 * 7) = 72057594037927936 := by decide
  have p6 : (2 : Int) ^ (8 * 6) = 281474976710656 := by decide
  have p5 : (2 : Int) ^ (8 * 5) = 1099511627776 := by decide
  have p4 : (2 : Int) ^ (8 * 4) = 4294967296 := by decide
  have p3 : (2 : Int) ^ (8 * 3) = 16777216 := by decide
  have p2 : (2 : Int) ^ (8 * 2) = 65536 := by decide
  have p1 : (2 : Int) ^ (8 * 1) = 256 := by decide
  have p0 : (2 : Int) ^ (8 * 0) = 1 := by decide
  rw [p7, p6, p5, p4, p3, p2, p1, p0]
  have q : ∀ a b c d e f g h a' b' c' d' e' f' g' h' : Int, a = a' → b = b' → c = c' → d = d' → e = e' → f = f' → g = g' → h = h' → [UInt8.ofNat a.toNat, UInt8.ofNat b.toNat, UInt8.ofNat c.toNat, UInt8.ofNat d.toNat, UInt8.ofNat e.toNat, UInt8.ofNat f.toNat, UInt8.ofNat g.toNat, UInt8.ofNat h.toNat] = [UInt8.ofNat a'.toNat, UInt8.ofNat b'.toNat, UInt8.ofNat c'.toNat, UInt8.ofNat d'.toNat, UInt8.ofNat e'.toNat, UInt8.ofNat f'.toNat, UInt8.ofNat g'.toNat, UInt8.ofNat h'.toNat] := by
    intros; subst_vars; rfl
  exact q _ _ _ _ _ _ _ _ _ _ _ _ _ _ _ _ (by omega) (by omega) (by omega) (by omega) (by omega) (by omega) (by omega) (by omega)
theorem bit_push {w3 : World} {b k q : Nat} {B : Int} {v : Value} {X Y : List UInt8} (hY : X ++ (nB B 8).take k = Y) (hn : (nB B 8).take (k + 1) = (nB B 8).take k ++ [nByte B q]) (hq : ((nByte B q).toNat : Int) = B / 2 ^ (8 * q) % 256) (h : w3.ownsRow b 5 1 v (Y.length + 1) (bC Y ++ [.int .u8 (B / 2 ^ (8 * q) % 256)])) : Byt w3 b v (X ++ (nB B 8).take (k + 1)) := by
  rw [hn, ← List.append_assoc, hY]
  unfold Byt
  rw [bC_app, List.length_append]
  show w3.ownsRow b 5 1 v (Y.length + 1) (bC Y ++ [.int .u8 ((nByte B q).toNat : Int)])
  rw [hq]
  exact h
set_option maxRecDepth 100000 in
set_option maxHeartbeats 2000000 in
theorem rpad_is (n : Nat) (hn : n ≤ 140737488355328) (w : World) :
    Calls Tryd.prog 112 #[.int .i64 (n : Int)] w fun e w' => e = .returned (.string ⟨(padL n).toArray⟩) ∧ Below w.heap.size w w' := by
  obtain ⟨i0, hi, hz0, hz1, hz2⟩ := info_parts info_u8
  have HI := Lib.hid (And.intro hi (And.intro hz0 (And.intro hz1 hz2)))
  clear hi hz0 hz1 hz2
  have HE := Lib.hid (pad_bits n hn)
  obtain ⟨z, hz⟩ : ∃ z, (119 - n % 64) % 64 = z := ⟨_, rfl⟩
  rw [hz] at HE
  have hz64 : z ≤ 63 := by omega
  have HZ := Lib.hid hz
  clear hz
  have h0 : ¬ (n : Int) < 0 := by omega
  go_enter Tryd.func112, Tryd.ntmps112
  go_wp2_with fail
  have HS : Hid (PadRel z w z (.slice (some ⟨w.heap.size, 0, none⟩) 1 1) (w.alloc (.cells #[.int .u8 128] 5))) := Lib.hid ⟨0, by omega, rfl, ⟨rfl, .inr ⟨w.heap.size, 1, _, rfl, Nat.le_refl _, Blk.new w _ _, by decide, by unfold maxLen; omega, rfl, rfl⟩⟩, balloc (Below.refl _ w) _⟩
  go_loopg [3] z (fun c v wr => PadRel z w c v wr)
  case atStart => exact HS.out
  case round =>
    clear HS
    obtain ⟨j, hj, hc, hw, hl⟩ := hrel
    have HC := Lib.hid hc
    have HL := Lib.hid hl
    clear hc hl
    obtain ⟨g, cap, rfl, hcs⟩ := hw.four (by simp)
    have HW := Lib.hid hw
    clear hw hcs
    have hlen : (128 :: List.replicate j (0 : UInt8)).length = j + 1 := by simp
    by_cases hlt : j < z
    · have ht : ((((n : Int) % 64 + ((j + 1 : Nat) : Int) + 8) % 64) != 0) = true := by rw [bne_iff_ne]; have := HZ.out; omega
      have HW2 := Lib.hid (HW.out.alloc (.cells #[.int .u8 0] 5))
      have hB := HL.out.size
      go_wp2_with (at_builtin; refine wpList_append_lies _ rfl _ _ 89 rfl w.heap.size 5 i0 (.int .u8 0) 1 1 Tryd.underlying89 HI.out.1 HI.out.2.1 HI.out.2.2.1 HI.out.2.2.2 rfl (by decide) _ _ _ rfl HW2.out ⟨wr.heap.size, 0, none⟩ 1 1 [.int .u8 0] rfl rfl (oneCell wr _ _) (by simp [Value.oneCell']) (by decide) ?c3 ?c4 ?c5 _ rfl ?_)
      case c3 => rw [hlen]; unfold maxLen; omega
      case c4 => rw [hlen]; omega
      case c5 => simp; omega
      intro g3 cap3 w3 hown hgrow _ _
      have HR : Hid (PadRel z w (z - (j + 1)) (.slice (some ⟨g3, 0, none⟩) (j + 1 + 1) cap3) w3) := Lib.hid ⟨j + 1, by omega, rfl, pad_push hown, (balloc HL.out _).grown hgrow (by have := HL.out.size; simp; omega) (fun k hk => (HW2.out.lt k hk).1)⟩
      clear hown hgrow
      go_wp2_with fail
      go_roundg (z - (j + 1))
      case measure => rw [HC.out]; omega
      case rel => exact HR.out
    · have hjz : j = z := by omega
      subst hjz
      have ht : ((((n : Int) % 64 + ((j + 1 : Nat) : Int) + 8) % 64) != 0) = false := by rw [bne_eq_false_iff_eq]; have := HZ.out; omega
      have e8 : IntKind.u64.wrap (8 * (n : Int)) = 8 * (n : Int) := by rw [IntKind.wrap_u64]; omega
      rw [hlen] at HW
      have HE2 : Hid (padL n = (128 :: List.replicate j 0) ++ nB (8 * (n : Int)) 8) := HE
      clear HE hlen
      go_wp2_with fail
      generalize Value.bool (((n : Int) % 64 + ((j : Int) + 1) + 8) % 64 != 0) = vb
      simp only [List.length_cons, List.length_replicate]
      obtain ⟨X, hX⟩ : ∃ X, (128 :: List.replicate j (0 : UInt8)) = X := ⟨_, rfl⟩
      have hXl : X.length ≤ 64 := by rw [← hX]; simp; omega
      rw [hX] at HW HE2
      obtain ⟨B, hB⟩ : ∃ B, 8 * (n : Int) = B := ⟨_, rfl⟩
      have hB0 : 0 ≤ B := by omega
      rw [hB] at HE2 ⊢
      clear hX ht e8 HZ HC hz64 h0
      go_loopg [3, 5] 8 (fun c v i wr => BitRel X B w c v i wr)
      case atStart => exact ⟨0, by omega, rfl, rfl, by rw [List.take_zero, List.append_nil]; exact HW.out, HL.out⟩
      case round =>
        clear HW HL
        obtain ⟨k, hk, hc, rfl, hw, hl⟩ := hrel
        have HC := Lib.hid hc
        have HL := Lib.hid hl
        have HW := Lib.hid hw
        clear hc hl hw
        by_cases hlt : k < 8
        · obtain ⟨q, hq⟩ : ∃ q : Nat, q = 7 - k := ⟨_, rfl⟩
          have hq7 : q ≤ 7 := by omega
          have eq1 : (7 - (k : Int)) = (q : Int) := by omega
          have eq2 : (q : Int) - 1 = 7 - ((k + 1 : Nat) : Int) := by omega
          have HN := Lib.hid (nB_next B k hlt)
          have HQ := Lib.hid (nByte_cell B q hB0)
          have hl8 : ((nB B 8).take k).length ≤ 8 := by rw [List.length_take]; omega
          rw [← hq] at HN
          rw [eq1]
          generalize hY : X ++ (nB B 8).take k = Y at HW
          have hYl : Y.length ≤ 72 := by rw [← hY, List.length_append]; omega
          have HY := Lib.hid hY
          have HE2q := Lib.hid eq2
          clear hY eq1 eq2 hq hl8
          have HW2 := Lib.hid (HW.out.alloc (.cells #[.int .u8 (B / 2 ^ (8 * q) % 256)] 5))
          have hBz := HL.out.size
          have e8 : IntKind.i64.wrap (8 * (q : Int)) = 8 * (q : Int) := by rw [IntKind.wrap_i64]; omega
          have et : (8 * (q : Int)).toNat = 8 * q := by omega
          have h0q : ¬ 8 * (q : Int) < 0 := by omega
          have h0z : ¬ 64 ≤ 8 * (q : Int) := by omega
          go_wp2_with (at_builtin; refine wpList_append_lies _ rfl _ _ 89 rfl w.heap.size 5 i0 (.int .u8 0) 1 1 Tryd.underlying89 HI.out.1 HI.out.2.1 HI.out.2.2.1 HI.out.2.2.2 rfl (by decide) _ _ _ rfl HW2.out ⟨_, 0, none⟩ 1 1 [.int .u8 (B / 2 ^ (8 * q) % 256)] rfl rfl (oneCell _ _ _) (by simp [Value.oneCell']) (by decide) ?c3 ?c4 ?c5 _ rfl ?_)
          case c3 => unfold maxLen; omega
          case c4 => omega
          case c5 => show _ ≤ wr.heap.size + 1; omega
          intro g3 cap3 w3 hown hgrow _ _
          have HR : Hid (BitRel X B w (8 - (k + 1)) (.slice (some ⟨g3, 0, none⟩) (Y.length + 1) cap3) (.int .i64 ((q : Int) - 1)) w3) := Lib.hid ⟨k + 1, by omega, rfl, by rw [HE2q.out], bit_push HY.out HN.out HQ.out hown, (balloc HL.out _).grown hgrow (by have := HL.out.size; simp; omega) (fun k hk => (HW2.out.lt k hk).1)⟩
          clear hown hgrow
          go_wp2_with fail
          go_roundg (8 - (k + 1))
          case measure => rw [HC.out]; omega
          case rel => exact HR.out
        · have HTk : Hid ((nB B 8).take k = nB B 8) := Lib.hid (List.take_of_length_le (by rw [nB_len]; omega))
          have hneg : ¬ (0 : Int) ≤ 7 - (k : Int) := by omega
          have hcv := HW.out.conv
          rw [HTk.out, ← HE2.out] at hcv
          go_wp2_with fail
          go_ret
          exact ⟨rfl, HL.out⟩
end Go.Proofs.YtpekbnkmnellpaaDoor
namespace Go.Proofs.YtpekbnkmnellpaaDoor
open Go.RowKit
set_option linter.unusedVariables false

/-- a region that reads alone -/
structure QJ (I : World → Prop) (V : Nat → Value → Prop) (d : Nat → Bool) (u : Nat → Value) (W : World) : Prop where
  vals : ∀ i, d i = true → V i (u i)
  inv : I W
theorem QJ.next {I : World → Prop} {V : Nat → Value → Prop} {d : Nat → Bool} {u : Nat → Value} {W W' : World} (h : QJ I V d u W) (i : Nat) {v : Value} (hv : V i v) (hI : I W') : QJ I V (did d i) (put1 u i v) W' := by
  refine ⟨fun j hj => ?_, hI⟩
  by_cases e : j = i
  · subst e; rw [put1_at]; exact hv
  · rw [put1_ne u v e]; exact h.vals j (by rwa [did_ne d e] at hj)
theorem QJ.pure {I : World → Prop} {V : Nat → Value → Prop} {d : Nat → Bool} {u : Nat → Value} {W : World} (h : QJ I V d u W) (i : Nat) {v : Value} (hv : V i v) : QJ I V (did d i) (put1 u i v) W := h.next i hv h.inv
theorem rrot_b (x : Int) (n : Nat) (w : World) (h1 : 1 ≤ n) (h2 : n ≤ 31) :
    Calls Tryd.prog 118 #[.int .u32 x, .int .i64 (n : Int)] w fun e w' => e = .returned (.int .u32 (rorV x n)) ∧ Below w.heap.size w w' :=
  (rrot_is x n w h1 h2).mono fun e w' h => ⟨h.1, by obtain ⟨m, rfl⟩ := h.2; exact below_drewN' (Below.refl _ _) m⟩
theorem Wds.cell {W : World} {b g n cap : Nat} {l : List Int} (h : Wds W b (.slice (some ⟨g, 0, none⟩) n cap) l) (i : Nat) (hi : i < l.length) : W.cell? ⟨g, i, none⟩ = some (.int .u32 (l.getD i 0)) := by
  have hn : l.length = n := by
    rcases h.2 with ⟨hv, _⟩ | ⟨g', cap', cur, hv, _⟩
    · cases hv
    · simp at hv
      exact hv.2.1.symm
  subst hn
  rw [World.ownsRow.cellAt h i (by omega), uC, List.getElem?_map, getD_at _ i 0 hi, List.getElem?_eq_getElem hi]
  rfl
theorem Wds.form {W : World} {b : Nat} {v : Value} {l : List Int} (h : Wds W b v l) (hl : 0 < l.length) : ∃ g cap, v = .slice (some ⟨g, 0, none⟩) l.length cap ∧ b ≤ g ∧ g < W.heap.size := by
  obtain ⟨g, cap, rfl, h1, h2⟩ := World.ownsRow.form h hl
  exact ⟨g, cap, rfl, h1, h2⟩
theorem Wds.len {W : World} {b g n cap : Nat} {l : List Int} (h : Wds W b (.slice (some ⟨g, 0, none⟩) n cap) l) : l.length = n := by
  rcases h.2 with ⟨hv, _⟩ | ⟨g', cap', cur, hv, _⟩
  · cases hv
  · simp at hv
    exact hv.2.1.symm
theorem idx_n (g k n cap : Nat) (i : Int) (hi : i = (k : Int)) (hk : k < n) (W : World) : (Instr.indexAt 152 (.slice (some ⟨g, 0, none⟩) n cap) (.int .i64 i)).run Tryd.prog W = .ok (.pointer (some ⟨g, k, none⟩)) W := by
  subst hi
  exact idx_sl g n cap k hk W
theorem pairs8 {ρ : Operand → Value} {a b c d e f g h : Operand} {x0 x1 x2 x3 x4 x5 x6 x7 : Value} (h0 : ρ a = x0) (h1 : ρ b = x1) (h2 : ρ c = x2) (h3 : ρ d = x3) (h4 : ρ e = x4) (h5 : ρ f = x5) (h6 : ρ g = x6) (h7 : ρ h = x7) :
    (#[(0, a), (1, b), (2, c), (3, d), (4, e), (5, f), (6, g), (7, h)].map fun p => (p.1, ρ p.2)) = #[(0, x0), (1, x1), (2, x2), (3, x3), (4, x4), (5, x5), (6, x6), (7, x7)] := by simp [h0, h1, h2, h3, h4, h5, h6, h7]
theorem idx_k (k : Nat) (hk : k < 64) (W : World) : (Instr.indexAt 146 (.pointer (some ⟨3, 0, none⟩)) (.int .i64 (k : Int))).run Tryd.prog W = .ok (.pointer (some ⟨3, k, none⟩)) W := by
  have h : (k : Int) < 64 := by omega
  go_simp
theorem run_add_u32 (a b : Int) (W : World) : (binOp .add 122 (.int .u32 a) (.int .u32 b)).run Tryd.prog W = .ok (.int .u32 ((a + b) % 4294967296)) W := by
  have : (binOp .add 122 (.int .u32 a) (.int .u32 b)).run Tryd.prog W = .ok (.int .u32 (IntKind.u32.wrap (a + b))) W := by go_simp
  rw [this, IntKind.wrap_u32]
theorem sched16 (B : List UInt8) : ∀ n, n ≤ 16 → schedL B n = wordsL B n
  | 0, _ => rfl
  | n + 1, h => by
    rw [schedL, wordsL, sched16 B n (by omega)]
    unfold nextW
    rw [wordsL_len, if_pos (by omega)]
theorem sched_eq (a x b y : Int) : ((((bits .xor .u32 (bits .xor .u32 (rorV y 17) (rorV y 19)) (y / 1024)) + b) % 4294967296 + (bits .xor .u32 (bits .xor .u32 (rorV x 7) (rorV x 18)) (x / 8))) % 4294967296 + a) % 4294967296 = schedV a x b y := by
  unfold schedV
  simp only [IntKind.wrap_u32]
  omega
/-- what stands while the rounds go -/
structure BI (w : World) (b9 b10 : Nat) (V5 V9 v10 : Value) (Wl s xs : List Int) (W : World) : Prop where
  bel : Below w.heap.size w W
  w5 : Wds W w.heap.size V5 Wl
  w9 : Wds W b9 V9 s
  w10 : Wds W b10 v10 xs
  big : b10 ≤ W.heap.size
section
variable {w : World} {b9 b10 : Nat} {V5 V9 v10 : Value} {Wl s xs : List Int} {W W' : World}
theorem BI.next (h : BI w b9 b10 V5 V9 v10 Wl s xs W) (hb : Below W.heap.size W W') : BI w b9 b10 V5 V9 v10 Wl s xs W' :=
  ⟨bstep h.bel hb, h.w5.kept hb, h.w9.kept hb, h.w10.kept hb, Nat.le_trans h.big hb.size⟩
theorem BI.fresh (h : BI w b9 b10 V5 V9 v10 Wl s xs W) (y0 y1 y2 y3 y4 y5 y6 y7 : Int) :
    BI w b9 b10 V5 V9 (.slice (some ⟨W.heap.size, 0, none⟩) 8 8) Wl s [y0, y1, y2, y3, y4, y5, y6, y7] (W.alloc (.cells #[.int .u32 y0, .int .u32 y1, .int .u32 y2, .int .u32 y3, .int .u32 y4, .int .u32 y5, .int .u32 y6, .int .u32 y7] 122)) := by
  have hb := balloc (Below.refl _ W) (.cells #[.int .u32 y0, .int .u32 y1, .int .u32 y2, .int .u32 y3, .int .u32 y4, .int .u32 y5, .int .u32 y6, .int .u32 y7] 122)
  have h' := h.next hb
  exact ⟨h'.bel, h'.w5, h'.w9, World.ownsRow_lit W _ 8 h.big (by unfold maxLen; omega) rfl, h'.big⟩
end
def tR (x4 x5 x6 x7 k wi : Int) : Int := ((((x7 + bits .xor .u32 (bits .xor .u32 (rorV x4 6) (rorV x4 11)) (rorV x4 25)) % 4294967296 + bits .xor .u32 (bits .and .u32 x4 x5) (bits .and .u32 (bits .xor .u32 x4 4294967295) x6)) % 4294967296 + k) % 4294967296 + wi) % 4294967296
theorem tR_eq (x4 x5 x6 x7 k wi : Int) : tR x4 x5 x6 x7 k wi = tV x4 x5 x6 x7 ((k + wi) % 4294967296) := by
  unfold tR tV
  rw [show IntKind.u32.max = 4294967295 from rfl, bits_xor_comm 4294967295 x4]
  simp only [IntKind.wrap_u32]
  omega
theorem step_l (s : St) (k wi : Int) : (stepS s ((k + wi) % 4294967296)).l = [(tR s.e s.f s.g s.h k wi + uV s.a s.b s.c) % 4294967296, s.a, s.b, s.c, (s.d + tR s.e s.f s.g s.h k wi) % 4294967296, s.e, s.f, s.g] := by
  rw [tR_eq]
  rfl
end Go.Proofs.YtpekbnkmnellpaaDoor
namespace Go.Proofs.YtpekbnkmnellpaaDoor
open Go.RowKit
set_option linter.unusedVariables false

set_option maxRecDepth 100000 in
/-- a frame of 222 slots, written out -/
theorem frame222 (a : Act) (h : a.tmps.size = 222) (hd : a.defers = []) : ∃ u : Nat → Value, (∀ i, a.tmps.getD i undef = u i) ∧ a = ⟨#[u 0, u 1, u 2, u 3, u 4, u 5, u 6, u 7, u 8, u 9, u 10, u 11, u 12, u 13, u 14, u 15, u 16, u 17, u 18, u 19, u 20, u 21, u 22, u 23, u 24, u 25, u 26, u 27, u 28, u 29, u 30, u 31, u 32, u 33, u 34, u 35, u 36, u 37, u 38, u 39, u 40, u 41, u 42, u 43, u 44, u 45, u 46, u 47, u 48, u 49, u 50, u 51, u 52, u 53, u 54, u 55, u 56, u 57, u 58, u 59, u 60, u 61, u 62, u 63, u 64, u 65, u 66, u 67, u 68, u 69, u 70, u 71, u 72, u 73, u 74, u 75, u 76, u 77, u 78, u 79, u 80, u 81, u 82, u 83, u 84, u 85, u 86, u 87, u 88, u 89, u 90, u 91, u 92, u 93, u 94, u 95, u 96, u 97, u 98, u 99, u 100, u 101, u 102, u 103, u 104, u 105, u 106, u 107, u 108, u 109, u 110, u 111, u 112, u 113, u 114, u 115, u 116, u 117, u 118, u 119, u 120, u 121, u 122, u 123, u 124, u 125, u 126, u 127, u 128, u 129, u 130, u 131, u 132, u 133, u 134, u 135, u 136, u 137, u 138, u 139, u 140, u 141, u 142, u 143, u 144, u 145, u 146, u 147, u 148, u 149, u 150, u 151, u 152, u 153, u 154, u 155, u 156, u 157, u 158, u 159, u 160, u 161, u 162, u 163, u 164, u 165, u 166, u 167, u 168, u 169, u 170, u 171, u 172, u 173, u 174, u 175, u 176, u 177, u 178, u 179, u 180, u 181, u 182, u 183, u 184, u 185, u 186, u 187, u 188, u 189, u 190, u 191, u 192, u 193, u 194, u 195, u 196, u 197, u 198, u 199, u 200, u 201, u 202, u 203, u 204, u 205, u 206, u 207, u 208, u 209, u 210, u 211, u 212, u 213, u 214, u 215, u 216, u 217, u 218, u 219, u 220, u 221], []⟩ := by
  refine ⟨fun i => a.tmps.getD i undef, fun _ => rfl, ?_⟩
  obtain ⟨ts, ds⟩ := a
  simp only at h hd
  subst hd
  have e : ts = ((List.range 222).map (fun i => ts.getD i undef)).toArray := by
    apply Array.ext
    · simp [h]
    · intro i h1 h2
      simp [h1]
  exact congrArg (fun x => Act.mk x []) e
def blkV7 (G j cap : Nat) (x : Int) (i : Nat) (v : Value) : Prop := match i with
  | 0 => v = .slice (some ⟨G, 0, none⟩) j cap
  | 1 => v = .int .i64 (j : Int)
  | 2 => v = .int .i64 ((j : Int) - 15)
  | 3 => v = .pointer (some ⟨G, (j - 15), none⟩)
  | 4 => v = .int .u32 x
  | 5 => v = .int .u32 (rorV x 7)
  | 6 => v = .slice (some ⟨G, 0, none⟩) j cap
  | 7 => v = .int .i64 (j : Int)
  | 8 => v = .int .i64 ((j : Int) - 15)
  | 9 => v = .pointer (some ⟨G, (j - 15), none⟩)
  | 10 => v = .int .u32 x
  | 11 => v = .int .u32 (rorV x 18)
  | 12 => v = .int .u32 (bits .xor .u32 (rorV x 7) (rorV x 18))
  | 13 => v = .slice (some ⟨G, 0, none⟩) j cap
  | 14 => v = .int .i64 (j : Int)
  | 15 => v = .int .i64 ((j : Int) - 15)
  | 16 => v = .pointer (some ⟨G, (j - 15), none⟩)
  | 17 => v = .int .u32 x
  | 18 => v = .int .u32 (x / 8)
  | 19 => v = .int .u32 (bits .xor .u32 (bits .xor .u32 (rorV x 7) (rorV x 18)) (x / 8))
  | 20 => v = .int .u32 (bits .xor .u32 (bits .xor .u32 (rorV x 7) (rorV x 18)) (x / 8))
  | _ => True
def blkV8 (G j cap : Nat) (y : Int) (i : Nat) (v : Value) : Prop := match i with
  | 0 => v = .slice (some ⟨G, 0, none⟩) j cap
  | 1 => v = .int .i64 (j : Int)
  | 2 => v = .int .i64 ((j : Int) - 2)
  | 3 => v = .pointer (some ⟨G, (j - 2), none⟩)
  | 4 => v = .int .u32 y
  | 5 => v = .int .u32 (rorV y 17)
  | 6 => v = .slice (some ⟨G, 0, none⟩) j cap
  | 7 => v = .int .i64 (j : Int)
  | 8 => v = .int .i64 ((j : Int) - 2)
  | 9 => v = .pointer (some ⟨G, (j - 2), none⟩)
  | 10 => v = .int .u32 y
  | 11 => v = .int .u32 (rorV y 19)
  | 12 => v = .int .u32 (bits .xor .u32 (rorV y 17) (rorV y 19))
  | 13 => v = .slice (some ⟨G, 0, none⟩) j cap
  | 14 => v = .int .i64 (j : Int)
  | 15 => v = .int .i64 ((j : Int) - 2)
  | 16 => v = .pointer (some ⟨G, (j - 2), none⟩)
  | 17 => v = .int .u32 y
  | 18 => v = .int .u32 (y / 1024)
  | 19 => v = .int .u32 (bits .xor .u32 (bits .xor .u32 (rorV y 17) (rorV y 19)) (y / 1024))
  | 20 => v = .int .u32 (bits .xor .u32 (bits .xor .u32 (rorV y 17) (rorV y 19)) (y / 1024))
  | _ => True
def blkV9 (G j cap H : Nat) (s0 s1 a b : Int) (i : Nat) (v : Value) : Prop := match i with
  | 0 => v = .slice (some ⟨G, 0, none⟩) j cap
  | 1 => v = .int .u32 s1
  | 2 => v = .slice (some ⟨G, 0, none⟩) j cap
  | 3 => v = .int .i64 (j : Int)
  | 4 => v = .int .i64 ((j : Int) - 7)
  | 5 => v = .pointer (some ⟨G, (j - 7), none⟩)
  | 6 => v = .int .u32 b
  | 7 => v = .int .u32 ((s1 + b) % 4294967296)
  | 8 => v = .int .u32 s0
  | 9 => v = .int .u32 ((((s1 + b) % 4294967296) + s0) % 4294967296)
  | 10 => v = .slice (some ⟨G, 0, none⟩) j cap
  | 11 => v = .int .i64 (j : Int)
  | 12 => v = .int .i64 ((j : Int) - 16)
  | 13 => v = .pointer (some ⟨G, (j - 16), none⟩)
  | 14 => v = .int .u32 a
  | 15 => v = .int .u32 ((((((s1 + b) % 4294967296) + s0) % 4294967296) + a) % 4294967296)
  | 16 => v = .slice (some ⟨H, 0, none⟩) 1 1
  | _ => True
def blkO9 (G j cap : Nat) (i : Nat) (v : Value) : Prop := match i with
  | 18 => v = .slice (some ⟨G, 0, none⟩) j cap
  | _ => True
def blkS9 (w W0 : World) (l : List Int) (z : Int) (n : Nat) (vs : List Value) (W : World) : Prop := match n with
  | 0 => W = W0
  | 1 => W = W0.alloc (.cells #[.int .u32 z] 122)
  | 2 => Wds W w.heap.size (vs.getD 1 undef) (l ++ [z]) ∧ Below w.heap.size w W
  | 3 => (Wds W w.heap.size (vs.getD 1 undef) (l ++ [z]) ∧ Below w.heap.size w W) ∧ vs.getD 2 undef = vs.getD 1 undef
  | _ => False
theorem blkS9_le {w W0 : World} {l : List Int} {z : Int} (n : Nat) (vs : List Value) (W : World) (h : blkS9 w W0 l z n vs W) : n ≤ 3 := by
  rcases n with _ | _ | _ | _ | n
  · omega
  · omega
  · omega
  · omega
  · exact absurd h id
def blkV15 (G10 c10 G5 c5 j : Nat) (x0 x1 x2 x3 x4 x5 x6 x7 kj wj : Int) (i : Nat) (v : Value) : Prop := match i with
  | 0 => v = .slice (some ⟨G10, 0, none⟩) 8 c10
  | 1 => v = .pointer (some ⟨G10, 7, none⟩)
  | 2 => v = .int .u32 x7
  | 3 => v = .slice (some ⟨G10, 0, none⟩) 8 c10
  | 4 => v = .pointer (some ⟨G10, 4, none⟩)
  | 5 => v = .int .u32 x4
  | 6 => v = .int .u32 (rorV x4 6)
  | 7 => v = .slice (some ⟨G10, 0, none⟩) 8 c10
  | 8 => v = .pointer (some ⟨G10, 4, none⟩)
  | 9 => v = .int .u32 x4
  | 10 => v = .int .u32 (rorV x4 11)
  | 11 => v = .int .u32 (bits .xor .u32 (rorV x4 6) (rorV x4 11))
  | 12 => v = .slice (some ⟨G10, 0, none⟩) 8 c10
  | 13 => v = .pointer (some ⟨G10, 4, none⟩)
  | 14 => v = .int .u32 x4
  | 15 => v = .int .u32 (rorV x4 25)
  | 16 => v = .int .u32 (bits .xor .u32 (bits .xor .u32 (rorV x4 6) (rorV x4 11)) (rorV x4 25))
  | 17 => v = .int .u32 ((x7 + (bits .xor .u32 (bits .xor .u32 (rorV x4 6) (rorV x4 11)) (rorV x4 25))) % 4294967296)
  | 18 => v = .slice (some ⟨G10, 0, none⟩) 8 c10
  | 19 => v = .pointer (some ⟨G10, 4, none⟩)
  | 20 => v = .int .u32 x4
  | 21 => v = .slice (some ⟨G10, 0, none⟩) 8 c10
  | 22 => v = .pointer (some ⟨G10, 5, none⟩)
  | 23 => v = .int .u32 x5
  | 24 => v = .int .u32 (bits .and .u32 x4 x5)
  | 25 => v = .slice (some ⟨G10, 0, none⟩) 8 c10
  | 26 => v = .pointer (some ⟨G10, 4, none⟩)
  | 27 => v = .int .u32 x4
  | 28 => v = .int .u32 (bits .xor .u32 x4 4294967295)
  | 29 => v = .slice (some ⟨G10, 0, none⟩) 8 c10
  | 30 => v = .pointer (some ⟨G10, 6, none⟩)
  | 31 => v = .int .u32 x6
  | 32 => v = .int .u32 (bits .and .u32 (bits .xor .u32 x4 4294967295) x6)
  | 33 => v = .int .u32 (bits .xor .u32 (bits .and .u32 x4 x5) (bits .and .u32 (bits .xor .u32 x4 4294967295) x6))
  | 34 => v = .int .u32 ((((x7 + (bits .xor .u32 (bits .xor .u32 (rorV x4 6) (rorV x4 11)) (rorV x4 25))) % 4294967296) + (bits .xor .u32 (bits .and .u32 x4 x5) (bits .and .u32 (bits .xor .u32 x4 4294967295) x6))) % 4294967296)
  | 35 => v = .int .i64 (j : Int)
  | 36 => v = .pointer (some ⟨3, j, none⟩)
  | 37 => v = .int .u32 kj
  | 38 => v = .int .u32 ((((((x7 + (bits .xor .u32 (bits .xor .u32 (rorV x4 6) (rorV x4 11)) (rorV x4 25))) % 4294967296) + (bits .xor .u32 (bits .and .u32 x4 x5) (bits .and .u32 (bits .xor .u32 x4 4294967295) x6))) % 4294967296) + kj) % 4294967296)
  | 39 => v = .slice (some ⟨G5, 0, none⟩) 64 c5
  | 40 => v = .int .i64 (j : Int)
  | 41 => v = .pointer (some ⟨G5, j, none⟩)
  | 42 => v = .int .u32 wj
  | 43 => v = .int .u32 ((((((((x7 + (bits .xor .u32 (bits .xor .u32 (rorV x4 6) (rorV x4 11)) (rorV x4 25))) % 4294967296) + (bits .xor .u32 (bits .and .u32 x4 x5) (bits .and .u32 (bits .xor .u32 x4 4294967295) x6))) % 4294967296) + kj) % 4294967296) + wj) % 4294967296)
  | 44 => v = .int .u32 ((((((((x7 + (bits .xor .u32 (bits .xor .u32 (rorV x4 6) (rorV x4 11)) (rorV x4 25))) % 4294967296) + (bits .xor .u32 (bits .and .u32 x4 x5) (bits .and .u32 (bits .xor .u32 x4 4294967295) x6))) % 4294967296) + kj) % 4294967296) + wj) % 4294967296)
  | _ => True
def blkV16 (G10 c10 G5 c5 j : Nat) (x0 x1 x2 x3 x4 x5 x6 x7 : Int) (i : Nat) (v : Value) : Prop := match i with
  | 0 => v = .slice (some ⟨G10, 0, none⟩) 8 c10
  | 1 => v = .pointer (some ⟨G10, 0, none⟩)
  | 2 => v = .int .u32 x0
  | 3 => v = .int .u32 (rorV x0 2)
  | 4 => v = .slice (some ⟨G10, 0, none⟩) 8 c10
  | 5 => v = .pointer (some ⟨G10, 0, none⟩)
  | 6 => v = .int .u32 x0
  | 7 => v = .int .u32 (rorV x0 13)
  | 8 => v = .int .u32 (bits .xor .u32 (rorV x0 2) (rorV x0 13))
  | 9 => v = .slice (some ⟨G10, 0, none⟩) 8 c10
  | 10 => v = .pointer (some ⟨G10, 0, none⟩)
  | 11 => v = .int .u32 x0
  | 12 => v = .int .u32 (rorV x0 22)
  | 13 => v = .int .u32 (bits .xor .u32 (bits .xor .u32 (rorV x0 2) (rorV x0 13)) (rorV x0 22))
  | 14 => v = .slice (some ⟨G10, 0, none⟩) 8 c10
  | 15 => v = .pointer (some ⟨G10, 0, none⟩)
  | 16 => v = .int .u32 x0
  | 17 => v = .slice (some ⟨G10, 0, none⟩) 8 c10
  | 18 => v = .pointer (some ⟨G10, 1, none⟩)
  | 19 => v = .int .u32 x1
  | 20 => v = .int .u32 (bits .and .u32 x0 x1)
  | 21 => v = .slice (some ⟨G10, 0, none⟩) 8 c10
  | 22 => v = .pointer (some ⟨G10, 0, none⟩)
  | 23 => v = .int .u32 x0
  | 24 => v = .slice (some ⟨G10, 0, none⟩) 8 c10
  | 25 => v = .pointer (some ⟨G10, 2, none⟩)
  | 26 => v = .int .u32 x2
  | 27 => v = .int .u32 (bits .and .u32 x0 x2)
  | 28 => v = .int .u32 (bits .xor .u32 (bits .and .u32 x0 x1) (bits .and .u32 x0 x2))
  | 29 => v = .slice (some ⟨G10, 0, none⟩) 8 c10
  | 30 => v = .pointer (some ⟨G10, 1, none⟩)
  | 31 => v = .int .u32 x1
  | 32 => v = .slice (some ⟨G10, 0, none⟩) 8 c10
  | 33 => v = .pointer (some ⟨G10, 2, none⟩)
  | 34 => v = .int .u32 x2
  | 35 => v = .int .u32 (bits .and .u32 x1 x2)
  | 36 => v = .int .u32 (bits .xor .u32 (bits .xor .u32 (bits .and .u32 x0 x1) (bits .and .u32 x0 x2)) (bits .and .u32 x1 x2))
  | 37 => v = .int .u32 (((bits .xor .u32 (bits .xor .u32 (rorV x0 2) (rorV x0 13)) (rorV x0 22)) + (bits .xor .u32 (bits .xor .u32 (bits .and .u32 x0 x1) (bits .and .u32 x0 x2)) (bits .and .u32 x1 x2))) % 4294967296)
  | 38 => v = .int .u32 (((bits .xor .u32 (bits .xor .u32 (rorV x0 2) (rorV x0 13)) (rorV x0 22)) + (bits .xor .u32 (bits .xor .u32 (bits .and .u32 x0 x1) (bits .and .u32 x0 x2)) (bits .and .u32 x1 x2))) % 4294967296)
  | _ => True
def blkV17 (G10 c10 H : Nat) (x0 x1 x2 x3 x4 x5 x6 x7 tt uu : Int) (i : Nat) (v : Value) : Prop := match i with
  | 0 => v = .int .u32 tt
  | 1 => v = .int .u32 uu
  | 2 => v = .int .u32 ((tt + uu) % 4294967296)
  | 3 => v = .slice (some ⟨G10, 0, none⟩) 8 c10
  | 4 => v = .pointer (some ⟨G10, 0, none⟩)
  | 5 => v = .int .u32 x0
  | 6 => v = .slice (some ⟨G10, 0, none⟩) 8 c10
  | 7 => v = .pointer (some ⟨G10, 1, none⟩)
  | 8 => v = .int .u32 x1
  | 9 => v = .slice (some ⟨G10, 0, none⟩) 8 c10
  | 10 => v = .pointer (some ⟨G10, 2, none⟩)
  | 11 => v = .int .u32 x2
  | 12 => v = .slice (some ⟨G10, 0, none⟩) 8 c10
  | 13 => v = .pointer (some ⟨G10, 3, none⟩)
  | 14 => v = .int .u32 x3
  | 15 => v = .int .u32 tt
  | 16 => v = .int .u32 ((x3 + tt) % 4294967296)
  | 17 => v = .slice (some ⟨G10, 0, none⟩) 8 c10
  | 18 => v = .pointer (some ⟨G10, 4, none⟩)
  | 19 => v = .int .u32 x4
  | 20 => v = .slice (some ⟨G10, 0, none⟩) 8 c10
  | 21 => v = .pointer (some ⟨G10, 5, none⟩)
  | 22 => v = .int .u32 x5
  | 23 => v = .slice (some ⟨G10, 0, none⟩) 8 c10
  | 24 => v = .pointer (some ⟨G10, 6, none⟩)
  | 25 => v = .int .u32 x6
  | 26 => v = .slice (some ⟨H, 0, none⟩) 8 8
  | 27 => v = .slice (some ⟨H, 0, none⟩) 8 8
  | _ => True
def blkO17 (G10 c10 : Nat) (i : Nat) (v : Value) : Prop := match i with
  | 27 => v = .slice (some ⟨G10, 0, none⟩) 8 c10
  | _ => True
def blkS17 (W0 : World) (ob : Obj) (n : Nat) (vs : List Value) (W : World) : Prop := match n with
  | 0 => W = W0
  | 1 => W = W0.alloc ob
  | _ => False
theorem blkS17_le {W0 : World} {ob : Obj} (n : Nat) (vs : List Value) (W : World) (h : blkS17 W0 ob n vs W) : n ≤ 1 := by
  rcases n with _ | _ | n
  · omega
  · omega
  · exact absurd h id
def blkV21 (G9 c9 G10 c10 j : Nat) (va vb : Int) (i : Nat) (v : Value) : Prop := match i with
  | 0 => v = .slice (some ⟨G9, 0, none⟩) 8 c9
  | 1 => v = .int .i64 (j : Int)
  | 2 => v = .slice (some ⟨G9, 0, none⟩) 8 c9
  | 3 => v = .int .i64 (j : Int)
  | 4 => v = .pointer (some ⟨G9, j, none⟩)
  | 5 => v = .int .u32 va
  | 6 => v = .slice (some ⟨G10, 0, none⟩) 8 c10
  | 7 => v = .int .i64 (j : Int)
  | 8 => v = .pointer (some ⟨G10, j, none⟩)
  | 9 => v = .int .u32 vb
  | 10 => v = .int .u32 ((va + vb) % 4294967296)
  | 11 => v = .pointer (some ⟨G9, j, none⟩)
  | _ => True
def blkO21  (i : Nat) (v : Value) : Prop := match i with
  | _ => True
def blkS21 (W0 W1 : World) (n : Nat) (vs : List Value) (W : World) : Prop := match n with
  | 0 => W = W0
  | 1 => W = W1
  | _ => False
theorem blkS21_le {W0 W1 : World} (n : Nat) (vs : List Value) (W : World) (h : blkS21 W0 W1 n vs W) : n ≤ 1 := by
  rcases n with _ | _ | n
  · omega
  · omega
  · exact absurd h id

theorem blk_push {w W w3 : World} {l : List Int} {n : Nat} {z : Int} {v v' : Value} {t : TypeId} (hl : l.length = n) (hL : Below w.heap.size w W) (hW : Wds W w.heap.size v l)
    (ho : w3.ownsRow w.heap.size 122 1 v' (n + 1) (uC l ++ [.int .u32 z])) (hg : (W.drew.alloc (.cells #[.int .u32 z] t)).grownBy w3 v.ownBlock) : Wds w3 w.heap.size v' (l ++ [z]) ∧ Below w.heap.size w w3 := by
  refine ⟨?_, (balloc hL.drew _).grown hg (by have := hL.size; simp; omega) (fun k hk => (hW.lt k hk).1)⟩
  unfold Wds uC
  rw [List.map_append, List.length_append, hl]
  exact ho
theorem blk_next {B : List UInt8} {l : List Int} {j : Nat} {a x b y z : Int} {W : World} {bs : Nat} {v : Value} (hls : l = schedL B j) (hl : l.length = j) (hj : 16 ≤ j) (hx : l.getD (j - 16) 0 = a ∧ l.getD (j - 15) 0 = x ∧ l.getD (j - 7) 0 = b ∧ l.getD (j - 2) 0 = y)
    (hz : z = schedV a x b y) (h : Wds W bs v (l ++ [z])) : Wds W bs v (schedL B (j + 1)) := by
  rw [schedL, sched_next B j hj, ← hls, hx.1, hx.2.1, hx.2.2.1, hx.2.2.2, ← hz]
  exact h
def BFr1 (st blk : ByteArray) (w : World) (k : Nat) (a : Act) (W : World) : Prop :=
  a.tmps.size = 222 ∧ a.defers = [] ∧ a.tmps.getD 0 undef = .string st ∧ a.tmps.getD 1 undef = .string blk ∧ ∃ j : Nat, 16 ≤ j ∧ j ≤ 64 ∧ k = 64 - j ∧ a.tmps.getD 6 undef = .int .i64 (j : Int) ∧ Wds W w.heap.size (a.tmps.getD 5 undef) (schedL blk.data.toList j) ∧ Below w.heap.size w W
def BFr2 (w : World) (b9 b10 G5 c5 G9 c9 : Nat) (l : List Int) (s : St) (k : Nat) (a : Act) (W : World) : Prop :=
  a.tmps.size = 222 ∧ a.defers = [] ∧ a.tmps.getD 5 undef = .slice (some ⟨G5, 0, none⟩) 64 c5 ∧ a.tmps.getD 9 undef = .slice (some ⟨G9, 0, none⟩) 8 c9 ∧ ∃ j : Nat, j ≤ 64 ∧ k = 64 - j ∧ a.tmps.getD 11 undef = .int .i64 (j : Int) ∧ BI w b9 b10 (.slice (some ⟨G5, 0, none⟩) 64 c5) (.slice (some ⟨G9, 0, none⟩) 8 c9) (a.tmps.getD 10 undef) l s.l (rnds s l j).l W
def BFr3 (w : World) (b9 b10 G9 c9 G10 c10 : Nat) (s xs : St) (k : Nat) (a : Act) (W : World) : Prop :=
  a.tmps.size = 222 ∧ a.defers = [] ∧ a.tmps.getD 9 undef = .slice (some ⟨G9, 0, none⟩) 8 c9 ∧ a.tmps.getD 10 undef = .slice (some ⟨G10, 0, none⟩) 8 c10 ∧ ∃ j : Nat, j ≤ 8 ∧ k = 8 - j ∧ a.tmps.getD 14 undef = .int .i64 (j : Int) ∧ Below w.heap.size w W ∧ Wds W b9 (.slice (some ⟨G9, 0, none⟩) 8 c9) (addK s.l xs.l j) ∧ Wds W b10 (.slice (some ⟨G10, 0, none⟩) 8 c10) xs.l
theorem addK_len (l m : List Int) : ∀ j, (addK l m j).length = l.length
  | 0 => rfl
  | j + 1 => by rw [addK, List.length_set, addK_len l m j]
theorem addK_at (l m : List Int) (j : Nat) (h : j < 8) : (addK l m j).getD j 0 = l.getD j 0 := by
  rw [List.getD_eq_getElem?_getD, List.getD_eq_getElem?_getD, addK_get l m j j (Nat.le_refl _)]
theorem blk_add {w wr : World} {b9 b10 G9 c9 G10 c10 j : Nat} {s xs : St} {va vb : Int} (hbel : Below w.heap.size w wr) (h9 : Wds wr b9 (.slice (some ⟨G9, 0, none⟩) 8 c9) (addK s.l xs.l j)) (h10 : Wds wr b10 (.slice (some ⟨G10, 0, none⟩) 8 c10) xs.l)
    (hva : s.l.getD j 0 = va) (hvb : xs.l.getD j 0 = vb) (h8 : j < 8) (hne : G9 ≠ G10) (hw : w.heap.size ≤ G9) :
    Below w.heap.size w (wr.drew.setCell ⟨G9, j, none⟩ (.int .u32 ((va + vb) % 4294967296))) ∧ Wds (wr.drew.setCell ⟨G9, j, none⟩ (.int .u32 ((va + vb) % 4294967296))) b9 (.slice (some ⟨G9, 0, none⟩) 8 c9) (addK s.l xs.l (j + 1)) ∧ Wds (wr.drew.setCell ⟨G9, j, none⟩ (.int .u32 ((va + vb) % 4294967296))) b10 (.slice (some ⟨G10, 0, none⟩) 8 c10) xs.l := by
  refine ⟨(hbel.drew).setCell (p := ⟨G9, j, none⟩) hw _, ?_, ?_⟩
  · have hl : (addK s.l xs.l j).length = 8 := by rw [addK_len]; rfl
    have h9' : wr.drew.ownsRow b9 122 1 (.slice (some ⟨G9, 0, none⟩) 8 c9) (addK s.l xs.l j).length (uC (addK s.l xs.l j)) := h9
    have := own_set h9' (g := G9) rfl j (by omega) (.int .u32 ((va + vb) % 4294967296))
    unfold Wds
    rw [addK, hva, hvb, List.length_set]
    have e : uC ((addK s.l xs.l j).set j ((va + vb) % 4294967296)) = (uC (addK s.l xs.l j)).set j (.int .u32 ((va + vb) % 4294967296)) := by unfold uC; rw [List.map_set]
    rw [e]
    exact this
  · have h10' : Wds wr.drew b10 (.slice (some ⟨G10, 0, none⟩) 8 c10) xs.l := h10
    exact own_only (S := [G9]) h10' ((Only.refl [G9] _).set_ (by simp) _) (fun g hg hm => by simp [Value.ownBlock] at hg; simp at hm; omega)
theorem blk_round {w W : World} {b9 b10 j : Nat} {V5 V9 v10 : Value} {Wl sl : List Int} {s : St} {kj wj tt uu x0 x1 x2 x3 x4 x5 x6 x7 : Int} (hk : kL.getD j 0 = kj) (hw : Wl.getD j 0 = wj) (ht : tR x4 x5 x6 x7 kj wj = tt) (hu : uV x0 x1 x2 = uu) (hx : rnds s Wl j = ⟨x0, x1, x2, x3, x4, x5, x6, x7⟩)
    (h : BI w b9 b10 V5 V9 v10 Wl sl [(tt + uu) % 4294967296, x0, x1, x2, (x3 + tt) % 4294967296, x4, x5, x6] W) : BI w b9 b10 V5 V9 v10 Wl sl (rnds s Wl (j + 1)).l W := by
  rw [rnds, hx, hk, hw, step_l]
  simp only
  rw [ht, hu]
  exact h
set_option maxRecDepth 100000 in
set_option maxHeartbeats 32000000 in
theorem rblock_is (st blk : ByteArray) (s : St) (w : World) (G : GlobR w) (h32 : st.size = 32) (h64 : blk.size = 64) (hst : wordsL st.data.toList 8 = s.l) :
    Calls Tryd.prog 113 #[.string st, .string blk] w fun e w' => e = .returned (.string ⟨(stB (mixS s blk.data.toList).l).toArray⟩) ∧ Below w.heap.size w w' := by
  obtain ⟨i0, hi, hz0, hz1, hz2⟩ := info_parts info_u32
  have HI := Lib.hid (And.intro hi (And.intro hz0 (And.intro hz1 hz2)))
  clear hi hz0 hz1 hz2
  have HG := Lib.hid G
  have HSt := Lib.hid hst
  have HWb := Lib.hid (words_is blk w (by omega))
  have HWs := Lib.hid (fun W => words_is st W (by omega))
  rw [h64] at HWb
  rw [h32] at HWs
  have hc1 : (st.size : Int) = 32 := by omega
  have hc2 : (blk.size : Int) = 64 := by omega
  clear G hst h32 h64
  go_enter Tryd.func113, Tryd.ntmps113
  go_wp2_with fail
  refine HWb.out.mono ?_
  rintro e w1 ⟨v5, rfl, hw1, hb1⟩
  have HS1 : Hid (Wds w1 w.heap.size v5 (schedL blk.data.toList 16)) := Lib.hid (by rw [sched16 _ 16 (by omega)]; exact hw1)
  have HB1 := Lib.hid hb1
  clear hw1 hb1 HWb
  go_wp2_with fail
  refine wp_loop_ghost_k (BFr1 st blk w) 48 ?_ ?_
  · exact ⟨rfl, rfl, rfl, rfl, 16, by omega, by omega, rfl, rfl, HS1.out, HB1.out⟩
  · intro gk a0 wr hrel J K hJ' hK
    clear HS1 HB1
    obtain ⟨hs, hd, e0, e1, j, hj1, hj2, hk, e6, hw5, hbw⟩ := hrel
    obtain ⟨u, hu, ha⟩ := frame222 a0 hs hd
    rw [hu] at e0 e1 e6 hw5
    rw [ha, e0, e1, e6]
    clear hs hd hu ha e0 e1 e6
    clear a0
    obtain ⟨l, hls⟩ : ∃ l, l = schedL blk.data.toList j := ⟨_, rfl⟩
    have HLn : Hid (l.length = j) := Lib.hid (by rw [hls]; exact schedL_len _ _)
    rw [← hls] at hw5
    have HLs := Lib.hid hls
    obtain ⟨G, cap, e5, hG1, hG2⟩ := hw5.form (by rw [HLn.out]; omega)
    rw [HLn.out] at e5
    rw [e5] at hw5 ⊢
    have HWl := Lib.hid hw5
    have HBw := Lib.hid hbw
    have HK := Lib.hid hk
    clear hls hw5 e5 hbw hk
    by_cases hlt : j < 64
    · obtain ⟨a, ha⟩ : ∃ z, l.getD (j - 16) 0 = z := ⟨_, rfl⟩
      obtain ⟨x, hx⟩ : ∃ z, l.getD (j - 15) 0 = z := ⟨_, rfl⟩
      obtain ⟨b, hb⟩ : ∃ z, l.getD (j - 7) 0 = z := ⟨_, rfl⟩
      obtain ⟨y, hy⟩ : ∃ z, l.getD (j - 2) 0 = z := ⟨_, rfl⟩
      have HX16 := Lib.hid ha
      have HX15 := Lib.hid hx
      have HX7 := Lib.hid hb
      have HX2 := Lib.hid hy
      have HXa := Lib.hid (And.intro ha (And.intro hx (And.intro hb hy)))
      clear ha hx hb hy
      have q15 : IntKind.i64.wrap ((j : Int) - 15) = (j : Int) - 15 := IntWalk.i64_in _ (by omega)
      have q16 : IntKind.i64.wrap ((j : Int) - 16) = (j : Int) - 16 := IntWalk.i64_in _ (by omega)
      have q7 : IntKind.i64.wrap ((j : Int) - 7) = (j : Int) - 7 := IntWalk.i64_in _ (by omega)
      have q2 : IntKind.i64.wrap ((j : Int) - 2) = (j : Int) - 2 := IntWalk.i64_in _ (by omega)
      go_upto_region 7 with fail
      refine wp_abs fun a0 hA => ?_
      have h5 : a0.eval (.tmp 5) = .slice (some ⟨G, 0, none⟩) j cap := by rw [hA]; rfl
      have h6 : a0.eval (.tmp 6) = .int .i64 (j : Int) := by rw [hA]; rfl
      have hz : a0.tmps.size = 222 := by rw [hA]; rfl
      refine wp_region_K [some 29, some 30, some 31, some 32, some 33, some 34, some 35, some 36, some 37, some 38, some 39, some 40, some 41, some 42, some 43, some 44, some 45, some 46, some 47, some 48, some 7] 222 (QJ (fun W => Below w.heap.size w W ∧ Wds W w.heap.size (.slice (some ⟨G, 0, none⟩) j cap) l) (blkV7 G j cap x)) (by kernel_rfl) (by kernel_rfl) (by kernel_rfl) rfl (by kernel_rfl) hz ⟨fun i h => (by cases h), ⟨HBw.out.drew, HWl.out⟩⟩ ?_ ⟨?_, ?_, ?_, ?_, ?_, ?_, ?_, ?_, ?_, ?_, ?_, ?_, ?_, ?_, ?_, ?_, ?_, ?_, ?_, ?_, ?_, trivial⟩
      · intro d u W hd hJ
        have hv := hJ.vals 20 (hd 20 (by decide))
        have hI := Lib.hid hJ.inv
        change u 20 = .int .u32 (bits .xor .u32 (bits .xor .u32 (rorV x 7) (rorV x 18)) (x / 8)) at hv
        rw [hA]
        simp only [putAll, Act.put, List.setIfInBounds_toArray, List.set_cons_zero, List.set_cons_succ]
        clear hJ hd h5 h6 hz hA
        clear a0
        rw [hv]
        clear hv
        obtain ⟨s0, hs0⟩ : ∃ z, bits .xor .u32 (bits .xor .u32 (rorV x 7) (rorV x 18)) (x / 8) = z := ⟨_, rfl⟩
        rw [hs0]
        have HS0 := Lib.hid hs0
        clear hs0 HBw HWl
        generalize W = Wp at hI ⊢
        have HIp := hI
        clear hI
        go_upto_region 8 with fail
        refine wp_abs fun a0 hA => ?_
        have h5 : a0.eval (.tmp 5) = .slice (some ⟨G, 0, none⟩) j cap := by rw [hA]; rfl
        have h6 : a0.eval (.tmp 6) = .int .i64 (j : Int) := by rw [hA]; rfl
        have hz : a0.tmps.size = 222 := by rw [hA]; rfl
        refine wp_region_K [some 49, some 50, some 51, some 52, some 53, some 54, some 55, some 56, some 57, some 58, some 59, some 60, some 61, some 62, some 63, some 64, some 65, some 66, some 67, some 68, some 8] 222 (QJ (fun W => Below w.heap.size w W ∧ Wds W w.heap.size (.slice (some ⟨G, 0, none⟩) j cap) l) (blkV8 G j cap y)) (by kernel_rfl) (by kernel_rfl) (by kernel_rfl) rfl (by kernel_rfl) hz ⟨fun i h => (by cases h), ⟨HIp.out.1.drew, HIp.out.2⟩⟩ ?_ ⟨?_, ?_, ?_, ?_, ?_, ?_, ?_, ?_, ?_, ?_, ?_, ?_, ?_, ?_, ?_, ?_, ?_, ?_, ?_, ?_, ?_, trivial⟩
        · intro d u W hd hJ
          have hv := hJ.vals 20 (hd 20 (by decide))
          have hI := Lib.hid hJ.inv
          change u 20 = .int .u32 (bits .xor .u32 (bits .xor .u32 (rorV y 17) (rorV y 19)) (y / 1024)) at hv
          rw [hA]
          simp only [putAll, Act.put, List.setIfInBounds_toArray, List.set_cons_zero, List.set_cons_succ]
          clear hJ hd h5 h6 hz hA
          clear a0
          rw [hv]
          clear hv
          obtain ⟨s1, hs1⟩ : ∃ z, bits .xor .u32 (bits .xor .u32 (rorV y 17) (rorV y 19)) (y / 1024) = z := ⟨_, rfl⟩
          rw [hs1]
          have HS1 := Lib.hid hs1
          clear hs1 HIp
          generalize W = Wq at hI ⊢
          have HW9 := Lib.hid hI.out.2
          have hB := hI.out.1.size
          obtain ⟨H, hH⟩ : ∃ H, Wq.heap.size = H := ⟨_, rfl⟩
          have HH := Lib.hid hH
          clear hH
          go_upto_region 9 with fail
          refine wp_abs fun a0 hA => ?_
          have h5 : a0.eval (.tmp 5) = .slice (some ⟨G, 0, none⟩) j cap := by rw [hA]; rfl
          have h6 : a0.eval (.tmp 6) = .int .i64 (j : Int) := by rw [hA]; rfl
          have h7 : a0.eval (.tmp 7) = .int .u32 s0 := by rw [hA]; rfl
          have h8 : a0.eval (.tmp 8) = .int .u32 s1 := by rw [hA]; rfl
          have hz : a0.tmps.size = 222 := by rw [hA]; rfl
          refine wp_region_K [some 69, some 70, some 71, some 72, some 73, some 74, some 75, some 76, some 77, some 78, some 79, some 80, some 81, some 82, some 83, some 84, some 85, some 86, some 5] 222 (CJ (blkV9 G j cap H s0 s1 a b) (blkO9 G j cap) [16, 17, 18] (blkS9 w Wq.drew l ((((s1 + b) % 4294967296 + s0) % 4294967296 + a) % 4294967296))) (by kernel_rfl) (by kernel_rfl) (by kernel_rfl) rfl (by kernel_rfl) hz (CJ.start (fun i => by unfold blkO9; split; exact h5; trivial) rfl) ?_ ⟨?_, ?_, ?_, ?_, ?_, ?_, ?_, ?_, ?_, ?_, ?_, ?_, ?_, ?_, ?_, ?_, ?_, ?_, ?_, trivial⟩
          · intro d u W hd hJ
            have hS : blkS9 _ _ _ _ 3 _ W := hJ.fin 3 rfl (fun k hk => by simp at hk; rcases hk with rfl | rfl | rfl <;> exact hd _ (by decide)) blkS9_le
            obtain ⟨hR, hSe⟩ := hS
            change u 18 = u 17 at hSe
            change Wds W w.heap.size (u 17) (l ++ [_]) ∧ Below w.heap.size w W at hR
            generalize u 17 = v17 at hSe hR
            have HR := Lib.hid hR
            rw [hA]
            simp only [putAll, Act.put, List.setIfInBounds_toArray, List.set_cons_zero, List.set_cons_succ]
            clear hJ hd h5 h6 h7 h8 hz hA
            clear a0
            rw [hSe]
            clear hSe hR
            go_wp2_with fail
            exact Handed.intro (64 - (j + 1)) (by rw [HK.out]; omega) (hJ' _ _ _ ⟨rfl, rfl, rfl, rfl, j + 1, by omega, by omega, rfl, congrArg (Value.int .i64) (show (j : Int) + 1 = ((j + 1 : Nat) : Int) by omega), blk_next HLs.out HLn.out (by omega) HXa.out (HS1.out ▸ HS0.out ▸ sched_eq a x b y) HR.out.1, HR.out.2⟩)
          · exact KStep.plain rfl fun ρ d u W he hc hdi hd hJ => swp_val (run_move (he.i hz (hJ.olds 18 (hc.notyet [17, 0] (by kernel_rfl) rfl hdi)) (j := 18) (d := 5) rfl (by decide))) (hJ.pure 0 rfl rfl)
          · exact KStep.plain rfl fun ρ d u W he hc hdi hd hJ => swp_val (run_move (he.o h8 rfl)) (hJ.pure 1 rfl rfl)
          · exact KStep.plain rfl fun ρ d u W he hc hdi hd hJ => swp_val (run_move (he.i hz (hJ.olds 18 (hc.notyet [17, 16, 15, 9, 7, 6, 5, 2] (by kernel_rfl) rfl hdi)) (j := 18) (d := 5) rfl (by decide))) (hJ.pure 2 rfl rfl)
          · exact KStep.plain rfl fun ρ d u W he hc hdi hd hJ => swp_val (run_move (he.o h6 rfl)) (hJ.pure 3 rfl rfl)
          · exact KStep.plain rfl fun ρ d u W he hc hdi hd hJ => swp_val (run_bin (he.i hz (hJ.vals 3 (hd 3 (by kernel_rfl))) (j := 3) (d := 72) rfl (by decide)) (he.const _) rfl (by go_simp)) (hJ.pure 4 rfl rfl)
          · exact KStep.plain rfl fun ρ d u W he hc hdi hd hJ => swp_val (run_indexAddr (he.i hz (hJ.vals 2 (hd 2 (by kernel_rfl))) (j := 2) (d := 71) rfl (by decide)) (he.i hz (hJ.vals 4 (hd 4 (by kernel_rfl))) (j := 4) (d := 73) rfl (by decide)) (idx_n G (j - 7) j cap ((j : Int) - 7) (by omega) (by omega) W)) (hJ.pure 5 rfl rfl)
          · exact KStep.plain rfl fun ρ d u W he hc hdi hd hJ => swp_val (run_load (he.i hz (hJ.vals 5 (hd 5 (by kernel_rfl))) (j := 5) (d := 74) rfl (by decide)) (by have hW : W = _ := hJ.at_ 0 rfl (hc.notyet [15, 9, 7, 6] (by kernel_rfl) rfl hdi) (fun j h => by omega); subst hW; exact load_u32 G (j - 7) _ b ((Wds.cell hI.out.2 (j - 7) (by rw [HLn.out]; omega)).trans (by rw [HX7.out])))) (hJ.pure 6 rfl rfl)
          · exact KStep.plain rfl fun ρ d u W he hc hdi hd hJ => swp_val (run_bin (he.i hz (hJ.vals 1 (hd 1 (by kernel_rfl))) (j := 1) (d := 70) rfl (by decide)) (he.i hz (hJ.vals 6 (hd 6 (by kernel_rfl))) (j := 6) (d := 75) rfl (by decide)) rfl (run_add_u32 _ _ W)) (hJ.pure 7 rfl rfl)
          · exact KStep.plain rfl fun ρ d u W he hc hdi hd hJ => swp_val (run_move (he.o h7 rfl)) (hJ.pure 8 rfl rfl)
          · exact KStep.plain rfl fun ρ d u W he hc hdi hd hJ => swp_val (run_bin (he.i hz (hJ.vals 7 (hd 7 (by kernel_rfl))) (j := 7) (d := 76) rfl (by decide)) (he.i hz (hJ.vals 8 (hd 8 (by kernel_rfl))) (j := 8) (d := 77) rfl (by decide)) rfl (run_add_u32 _ _ W)) (hJ.pure 9 rfl rfl)
          · exact KStep.plain rfl fun ρ d u W he hc hdi hd hJ => swp_val (run_move (he.i hz (hJ.olds 18 (hc.notyet [17, 16, 15, 14, 13, 10] (by kernel_rfl) rfl hdi)) (j := 18) (d := 5) rfl (by decide))) (hJ.pure 10 rfl rfl)
          · exact KStep.plain rfl fun ρ d u W he hc hdi hd hJ => swp_val (run_move (he.o h6 rfl)) (hJ.pure 11 rfl rfl)
          · exact KStep.plain rfl fun ρ d u W he hc hdi hd hJ => swp_val (run_bin (he.i hz (hJ.vals 11 (hd 11 (by kernel_rfl))) (j := 11) (d := 80) rfl (by decide)) (he.const _) rfl (by go_simp)) (hJ.pure 12 rfl rfl)
          · exact KStep.plain rfl fun ρ d u W he hc hdi hd hJ => swp_val (run_indexAddr (he.i hz (hJ.vals 10 (hd 10 (by kernel_rfl))) (j := 10) (d := 79) rfl (by decide)) (he.i hz (hJ.vals 12 (hd 12 (by kernel_rfl))) (j := 12) (d := 81) rfl (by decide)) (idx_n G (j - 16) j cap ((j : Int) - 16) (by omega) (by omega) W)) (hJ.pure 13 rfl rfl)
          · exact KStep.plain rfl fun ρ d u W he hc hdi hd hJ => swp_val (run_load (he.i hz (hJ.vals 13 (hd 13 (by kernel_rfl))) (j := 13) (d := 82) rfl (by decide)) (by have hW : W = _ := hJ.at_ 0 rfl (hc.notyet [15, 14] (by kernel_rfl) rfl hdi) (fun j h => by omega); subst hW; exact load_u32 G (j - 16) _ a ((Wds.cell hI.out.2 (j - 16) (by rw [HLn.out]; omega)).trans (by rw [HX16.out])))) (hJ.pure 14 rfl rfl)
          · exact KStep.plain rfl fun ρ d u W he hc hdi hd hJ => swp_val (run_bin (he.i hz (hJ.vals 9 (hd 9 (by kernel_rfl))) (j := 9) (d := 78) rfl (by decide)) (he.i hz (hJ.vals 14 (hd 14 (by kernel_rfl))) (j := 14) (d := 83) rfl (by decide)) rfl (run_add_u32 _ _ W)) (hJ.pure 15 rfl rfl)
          · refine KStep.plain rfl fun ρ d u W he hc hdi hd hJ => ?_
            have hW : W = _ := hJ.at_ 0 rfl hdi (fun j h => by omega)
            subst hW
            exact swp_val (run_bslice (v := .slice (some ⟨H, 0, none⟩) 1 1) #[(0, .int .u32 ((((s1 + b) % 4294967296 + s0) % 4294967296 + a) % 4294967296))] (pairs1 (he.i hz (hJ.vals 15 (hd 15 (by kernel_rfl))) (j := 15) (d := 84) rfl (by decide))) (by rw [← HH.out]; go_simp)) (hJ.go 0 rfl hdi (by decide) (fun j h => by omega) rfl rfl)
          · refine KStep.plain rfl fun ρ d u W he hc hdi hd hJ => ?_
            have hW : W = _ := hJ.at_ 1 rfl hdi (fun j h => by cases h; exact ⟨16, rfl, hd 16 (by kernel_rfl)⟩)
            subst hW
            obtain ⟨g3, cap3, w3, hr3, hown3, hgrow3, _, _⟩ := run_append_lies (P := Tryd.prog) (Wq.drew.alloc (.cells #[.int .u32 ((((s1 + b) % 4294967296 + s0) % 4294967296 + a) % 4294967296)] 122)) 152 152 w.heap.size 122 i0 (.int .u32 0) 1 4 Tryd.underlying152 HI.out.1 HI.out.2.1 HI.out.2.2.1 HI.out.2.2.2 rfl (by decide) (.slice (some ⟨G, 0, none⟩) j cap) j (uC l) (World.ownsRow.alloc (HLn.out ▸ HW9.out) _) ⟨H, 0, none⟩ 1 1 [.int .u32 ((((s1 + b) % 4294967296 + s0) % 4294967296 + a) % 4294967296)] rfl (HH.out ▸ oneCell Wq.drew _ _) (by simp [Value.oneCell']) (by decide) (by unfold maxLen; omega) (by omega) (by simp; omega) _ rfl
            exact swp_val (run_app (he.i hz (hJ.vals 0 (hd 0 (by kernel_rfl))) (j := 0) (d := 69) rfl (by decide)) (he.i hz (hJ.vals 16 (hd 16 (by kernel_rfl))) (j := 16) (d := 85) rfl (by decide)) hr3) (hJ.go 1 rfl hdi (by decide) (fun j h => by cases h; exact ⟨16, rfl, hd 16 (by kernel_rfl)⟩) trivial (blk_push HLn.out hI.out.1 HW9.out hown3 hgrow3))
          · refine KStep.plain rfl fun ρ d u W he hc hdi hd hJ => ?_
            have hS := hJ.at_ 2 rfl hdi (fun j h => by cases h; exact ⟨17, rfl, hd 17 (by kernel_rfl)⟩)
            exact swp_val (run_assign (he.i hz rfl (j := 17) (d := 86) rfl (by decide))) (hJ.go 2 rfl hdi (by decide) (fun j h => by cases h; exact ⟨17, rfl, hd 17 (by kernel_rfl)⟩) trivial ⟨hS, rfl⟩)
        · exact KStep.plain rfl fun ρ d u W he hc hdi hd hJ => swp_val (run_move (he.o h5 rfl)) (hJ.pure 0 rfl)
        · exact KStep.plain rfl fun ρ d u W he hc hdi hd hJ => swp_val (run_move (he.o h6 rfl)) (hJ.pure 1 rfl)
        · exact KStep.plain rfl fun ρ d u W he hc hdi hd hJ => swp_val (run_bin (he.i hz (hJ.vals 1 (hd 1 (by kernel_rfl))) (j := 1) (d := 50) rfl (by decide)) (he.const _) rfl (by go_simp)) (hJ.pure 2 rfl)
        · exact KStep.plain rfl fun ρ d u W he hc hdi hd hJ => swp_val (run_indexAddr (he.i hz (hJ.vals 0 (hd 0 (by kernel_rfl))) (j := 0) (d := 49) rfl (by decide)) (he.i hz (hJ.vals 2 (hd 2 (by kernel_rfl))) (j := 2) (d := 51) rfl (by decide)) (idx_n G (j - 2) j cap ((j : Int) - 2) (by omega) (by omega) W)) (hJ.pure 3 rfl)
        · exact KStep.plain rfl fun ρ d u W he hc hdi hd hJ => swp_val (run_load (he.i hz (hJ.vals 3 (hd 3 (by kernel_rfl))) (j := 3) (d := 52) rfl (by decide)) (load_u32 G (j - 2) W y ((Wds.cell hJ.inv.2 (j - 2) (by rw [HLn.out]; omega)).trans (by rw [HX2.out])))) (hJ.pure 4 rfl)
        · exact KStep.plain rfl fun ρ d u W he hc hdi hd hJ => swp_call (run_call #[.int .u32 y, .int .i64 17] (he.func _) (by kernel_rfl) (map2 (he.i hz (hJ.vals 4 (hd 4 (by kernel_rfl))) (j := 4) (d := 53) rfl (by decide)) (he.const _))) (rrot_b y 17 W (by omega) (by omega)) (fun e W' h => ⟨_, h.1, hJ.next 5 rfl ((fun hb => ⟨bstep hJ.inv.1 hb, hJ.inv.2.kept hb⟩) h.2)⟩)
        · exact KStep.plain rfl fun ρ d u W he hc hdi hd hJ => swp_val (run_move (he.o h5 rfl)) (hJ.pure 6 rfl)
        · exact KStep.plain rfl fun ρ d u W he hc hdi hd hJ => swp_val (run_move (he.o h6 rfl)) (hJ.pure 7 rfl)
        · exact KStep.plain rfl fun ρ d u W he hc hdi hd hJ => swp_val (run_bin (he.i hz (hJ.vals 7 (hd 7 (by kernel_rfl))) (j := 7) (d := 56) rfl (by decide)) (he.const _) rfl (by go_simp)) (hJ.pure 8 rfl)
        · exact KStep.plain rfl fun ρ d u W he hc hdi hd hJ => swp_val (run_indexAddr (he.i hz (hJ.vals 6 (hd 6 (by kernel_rfl))) (j := 6) (d := 55) rfl (by decide)) (he.i hz (hJ.vals 8 (hd 8 (by kernel_rfl))) (j := 8) (d := 57) rfl (by decide)) (idx_n G (j - 2) j cap ((j : Int) - 2) (by omega) (by omega) W)) (hJ.pure 9 rfl)
        · exact KStep.plain rfl fun ρ d u W he hc hdi hd hJ => swp_val (run_load (he.i hz (hJ.vals 9 (hd 9 (by kernel_rfl))) (j := 9) (d := 58) rfl (by decide)) (load_u32 G (j - 2) W y ((Wds.cell hJ.inv.2 (j - 2) (by rw [HLn.out]; omega)).trans (by rw [HX2.out])))) (hJ.pure 10 rfl)
        · exact KStep.plain rfl fun ρ d u W he hc hdi hd hJ => swp_call (run_call #[.int .u32 y, .int .i64 19] (he.func _) (by kernel_rfl) (map2 (he.i hz (hJ.vals 10 (hd 10 (by kernel_rfl))) (j := 10) (d := 59) rfl (by decide)) (he.const _))) (rrot_b y 19 W (by omega) (by omega)) (fun e W' h => ⟨_, h.1, hJ.next 11 rfl ((fun hb => ⟨bstep hJ.inv.1 hb, hJ.inv.2.kept hb⟩) h.2)⟩)
        · exact KStep.plain rfl fun ρ d u W he hc hdi hd hJ => swp_val (run_bin (he.i hz (hJ.vals 5 (hd 5 (by kernel_rfl))) (j := 5) (d := 54) rfl (by decide)) (he.i hz (hJ.vals 11 (hd 11 (by kernel_rfl))) (j := 11) (d := 60) rfl (by decide)) rfl (by go_simp)) (hJ.pure 12 rfl)
        · exact KStep.plain rfl fun ρ d u W he hc hdi hd hJ => swp_val (run_move (he.o h5 rfl)) (hJ.pure 13 rfl)
        · exact KStep.plain rfl fun ρ d u W he hc hdi hd hJ => swp_val (run_move (he.o h6 rfl)) (hJ.pure 14 rfl)
        · exact KStep.plain rfl fun ρ d u W he hc hdi hd hJ => swp_val (run_bin (he.i hz (hJ.vals 14 (hd 14 (by kernel_rfl))) (j := 14) (d := 63) rfl (by decide)) (he.const _) rfl (by go_simp)) (hJ.pure 15 rfl)
        · exact KStep.plain rfl fun ρ d u W he hc hdi hd hJ => swp_val (run_indexAddr (he.i hz (hJ.vals 13 (hd 13 (by kernel_rfl))) (j := 13) (d := 62) rfl (by decide)) (he.i hz (hJ.vals 15 (hd 15 (by kernel_rfl))) (j := 15) (d := 64) rfl (by decide)) (idx_n G (j - 2) j cap ((j : Int) - 2) (by omega) (by omega) W)) (hJ.pure 16 rfl)
        · exact KStep.plain rfl fun ρ d u W he hc hdi hd hJ => swp_val (run_load (he.i hz (hJ.vals 16 (hd 16 (by kernel_rfl))) (j := 16) (d := 65) rfl (by decide)) (load_u32 G (j - 2) W y ((Wds.cell hJ.inv.2 (j - 2) (by rw [HLn.out]; omega)).trans (by rw [HX2.out])))) (hJ.pure 17 rfl)
        · exact KStep.plain rfl fun ρ d u W he hc hdi hd hJ => swp_val (run_bin (he.i hz (hJ.vals 17 (hd 17 (by kernel_rfl))) (j := 17) (d := 66) rfl (by decide)) (he.const _) rfl (by go_simp)) (hJ.pure 18 rfl)
        · exact KStep.plain rfl fun ρ d u W he hc hdi hd hJ => swp_val (run_bin (he.i hz (hJ.vals 12 (hd 12 (by kernel_rfl))) (j := 12) (d := 61) rfl (by decide)) (he.i hz (hJ.vals 18 (hd 18 (by kernel_rfl))) (j := 18) (d := 67) rfl (by decide)) rfl (by go_simp)) (hJ.pure 19 rfl)
        · exact KStep.plain rfl fun ρ d u W he hc hdi hd hJ => swp_val (run_assign (he.i hz (hJ.vals 19 (hd 19 (by kernel_rfl))) (j := 19) (d := 68) rfl (by decide))) (hJ.pure 20 rfl)
      · exact KStep.plain rfl fun ρ d u W he hc hdi hd hJ => swp_val (run_move (he.o h5 rfl)) (hJ.pure 0 rfl)
      · exact KStep.plain rfl fun ρ d u W he hc hdi hd hJ => swp_val (run_move (he.o h6 rfl)) (hJ.pure 1 rfl)
      · exact KStep.plain rfl fun ρ d u W he hc hdi hd hJ => swp_val (run_bin (he.i hz (hJ.vals 1 (hd 1 (by kernel_rfl))) (j := 1) (d := 30) rfl (by decide)) (he.const _) rfl (by go_simp)) (hJ.pure 2 rfl)
      · exact KStep.plain rfl fun ρ d u W he hc hdi hd hJ => swp_val (run_indexAddr (he.i hz (hJ.vals 0 (hd 0 (by kernel_rfl))) (j := 0) (d := 29) rfl (by decide)) (he.i hz (hJ.vals 2 (hd 2 (by kernel_rfl))) (j := 2) (d := 31) rfl (by decide)) (idx_n G (j - 15) j cap ((j : Int) - 15) (by omega) (by omega) W)) (hJ.pure 3 rfl)
      · exact KStep.plain rfl fun ρ d u W he hc hdi hd hJ => swp_val (run_load (he.i hz (hJ.vals 3 (hd 3 (by kernel_rfl))) (j := 3) (d := 32) rfl (by decide)) (load_u32 G (j - 15) W x ((Wds.cell hJ.inv.2 (j - 15) (by rw [HLn.out]; omega)).trans (by rw [HX15.out])))) (hJ.pure 4 rfl)
      · exact KStep.plain rfl fun ρ d u W he hc hdi hd hJ => swp_call (run_call #[.int .u32 x, .int .i64 7] (he.func _) (by kernel_rfl) (map2 (he.i hz (hJ.vals 4 (hd 4 (by kernel_rfl))) (j := 4) (d := 33) rfl (by decide)) (he.const _))) (rrot_b x 7 W (by omega) (by omega)) (fun e W' h => ⟨_, h.1, hJ.next 5 rfl ((fun hb => ⟨bstep hJ.inv.1 hb, hJ.inv.2.kept hb⟩) h.2)⟩)
      · exact KStep.plain rfl fun ρ d u W he hc hdi hd hJ => swp_val (run_move (he.o h5 rfl)) (hJ.pure 6 rfl)
      · exact KStep.plain rfl fun ρ d u W he hc hdi hd hJ => swp_val (run_move (he.o h6 rfl)) (hJ.pure 7 rfl)
      · exact KStep.plain rfl fun ρ d u W he hc hdi hd hJ => swp_val (run_bin (he.i hz (hJ.vals 7 (hd 7 (by kernel_rfl))) (j := 7) (d := 36) rfl (by decide)) (he.const _) rfl (by go_simp)) (hJ.pure 8 rfl)
      · exact KStep.plain rfl fun ρ d u W he hc hdi hd hJ => swp_val (run_indexAddr (he.i hz (hJ.vals 6 (hd 6 (by kernel_rfl))) (j := 6) (d := 35) rfl (by decide)) (he.i hz (hJ.vals 8 (hd 8 (by kernel_rfl))) (j := 8) (d := 37) rfl (by decide)) (idx_n G (j - 15) j cap ((j : Int) - 15) (by omega) (by omega) W)) (hJ.pure 9 rfl)
      · exact KStep.plain rfl fun ρ d u W he hc hdi hd hJ => swp_val (run_load (he.i hz (hJ.vals 9 (hd 9 (by kernel_rfl))) (j := 9) (d := 38) rfl (by decide)) (load_u32 G (j - 15) W x ((Wds.cell hJ.inv.2 (j - 15) (by rw [HLn.out]; omega)).trans (by rw [HX15.out])))) (hJ.pure 10 rfl)
      · exact KStep.plain rfl fun ρ d u W he hc hdi hd hJ => swp_call (run_call #[.int .u32 x, .int .i64 18] (he.func _) (by kernel_rfl) (map2 (he.i hz (hJ.vals 10 (hd 10 (by kernel_rfl))) (j := 10) (d := 39) rfl (by decide)) (he.const _))) (rrot_b x 18 W (by omega) (by omega)) (fun e W' h => ⟨_, h.1, hJ.next 11 rfl ((fun hb => ⟨bstep hJ.inv.1 hb, hJ.inv.2.kept hb⟩) h.2)⟩)
      · exact KStep.plain rfl fun ρ d u W he hc hdi hd hJ => swp_val (run_bin (he.i hz (hJ.vals 5 (hd 5 (by kernel_rfl))) (j := 5) (d := 34) rfl (by decide)) (he.i hz (hJ.vals 11 (hd 11 (by kernel_rfl))) (j := 11) (d := 40) rfl (by decide)) rfl (by go_simp)) (hJ.pure 12 rfl)
      · exact KStep.plain rfl fun ρ d u W he hc hdi hd hJ => swp_val (run_move (he.o h5 rfl)) (hJ.pure 13 rfl)
      · exact KStep.plain rfl fun ρ d u W he hc hdi hd hJ => swp_val (run_move (he.o h6 rfl)) (hJ.pure 14 rfl)
      · exact KStep.plain rfl fun ρ d u W he hc hdi hd hJ => swp_val (run_bin (he.i hz (hJ.vals 14 (hd 14 (by kernel_rfl))) (j := 14) (d := 43) rfl (by decide)) (he.const _) rfl (by go_simp)) (hJ.pure 15 rfl)
      · exact KStep.plain rfl fun ρ d u W he hc hdi hd hJ => swp_val (run_indexAddr (he.i hz (hJ.vals 13 (hd 13 (by kernel_rfl))) (j := 13) (d := 42) rfl (by decide)) (he.i hz (hJ.vals 15 (hd 15 (by kernel_rfl))) (j := 15) (d := 44) rfl (by decide)) (idx_n G (j - 15) j cap ((j : Int) - 15) (by omega) (by omega) W)) (hJ.pure 16 rfl)
      · exact KStep.plain rfl fun ρ d u W he hc hdi hd hJ => swp_val (run_load (he.i hz (hJ.vals 16 (hd 16 (by kernel_rfl))) (j := 16) (d := 45) rfl (by decide)) (load_u32 G (j - 15) W x ((Wds.cell hJ.inv.2 (j - 15) (by rw [HLn.out]; omega)).trans (by rw [HX15.out])))) (hJ.pure 17 rfl)
      · exact KStep.plain rfl fun ρ d u W he hc hdi hd hJ => swp_val (run_bin (he.i hz (hJ.vals 17 (hd 17 (by kernel_rfl))) (j := 17) (d := 46) rfl (by decide)) (he.const _) rfl (by go_simp)) (hJ.pure 18 rfl)
      · exact KStep.plain rfl fun ρ d u W he hc hdi hd hJ => swp_val (run_bin (he.i hz (hJ.vals 12 (hd 12 (by kernel_rfl))) (j := 12) (d := 41) rfl (by decide)) (he.i hz (hJ.vals 18 (hd 18 (by kernel_rfl))) (j := 18) (d := 47) rfl (by decide)) rfl (by go_simp)) (hJ.pure 19 rfl)
      · exact KStep.plain rfl fun ρ d u W he hc hdi hd hJ => swp_val (run_assign (he.i hz (hJ.vals 19 (hd 19 (by kernel_rfl))) (j := 19) (d := 48) rfl (by decide))) (hJ.pure 20 rfl)
    · obtain rfl : j = 64 := by omega
      clear hlt hj1 hj2 HK HI
      have HWn := HLn
      clear HLn hJ' hK
      go_wp2_with fail
      refine (HWs.out wr).mono ?_
      rintro e w9 ⟨v9, rfl, hw9, hb9⟩
      obtain ⟨G9, c9, rfl, g91, g92⟩ := hw9.form (by rw [wordsL_len]; omega)
      go_wp2_with fail
      refine (HWs.out w9).mono ?_
      rintro e w10 ⟨v10, rfl, hw10, hb10⟩
      rw [wordsL_len] at hw9 ⊢
      have HBI0 : Hid (BI w wr.heap.size w9.heap.size (.slice (some ⟨G, 0, none⟩) 64 cap) (.slice (some ⟨G9, 0, none⟩) 8 c9) v10 l s.l (rnds s l 0).l w10) := Lib.hid ⟨bstep (bstep HBw.out hb9) hb10, (HWl.out.kept hb9).kept hb10, HSt.out ▸ (hw9.kept hb10), HSt.out ▸ hw10, hb10.size⟩
      have HB9 : Hid (w.heap.size ≤ G9) := Lib.hid (by have := HBw.out.size; omega)
      clear hw9 hb9 hw10 hb10 HWs HBw HWl HSt
      obtain ⟨b9, hb9⟩ : ∃ z, wr.heap.size = z := ⟨_, rfl⟩
      obtain ⟨b10, hb10⟩ : ∃ z, w9.heap.size = z := ⟨_, rfl⟩
      rw [hb9, hb10] at HBI0
      rw [hb10] at g92
      clear hb9 hb10 g91
      go_wp2_with fail
      refine wp_loop_ghost_k (BFr2 w b9 b10 G cap G9 c9 l s) 64 ?_ ?_
      · exact ⟨rfl, rfl, rfl, rfl, 0, by omega, rfl, rfl, HBI0.out⟩
      · intro gk a0 wr hrel J K hJ' hK
        clear HBI0
        obtain ⟨hs, hd, e5, e9, j, hj, hk, e11, hBI⟩ := hrel
        obtain ⟨u, hu, ha⟩ := frame222 a0 hs hd
        rw [hu] at e5 e9 e11 hBI
        rw [ha, e5, e9, e11]
        clear hs hd hu ha e5 e9 e11
        clear a0
        have HK := Lib.hid hk
        clear hk
        obtain ⟨G10, c10, e10, g101, g102⟩ := hBI.w10.form (by simp [St.l])
        rw [show (rnds s l j).l.length = 8 from rfl] at e10
        rw [e10] at hBI ⊢
        clear e10
        obtain ⟨G5, hG5⟩ : ∃ z, G = z := ⟨_, rfl⟩
        obtain ⟨c5, hc5⟩ : ∃ z, cap = z := ⟨_, rfl⟩
        rw [hG5, hc5] at hBI hJ' ⊢
        clear hG5 hc5
        by_cases hlt : j < 64
        · obtain ⟨⟨x0, x1, x2, x3, x4, x5, x6, x7⟩, hxs⟩ : ∃ z, rnds s l j = z := ⟨_, rfl⟩
          obtain ⟨kj, hkj⟩ : ∃ z, kL.getD j 0 = z := ⟨_, rfl⟩
          obtain ⟨wj, hwj⟩ : ∃ z, l.getD j 0 = z := ⟨_, rfl⟩
          have HKj := Lib.hid hkj
          have HWj := Lib.hid hwj
          have HXS := Lib.hid hxs
          rw [hxs] at hBI
          change BI w b9 b10 _ _ _ l s.l [x0, x1, x2, x3, x4, x5, x6, x7] wr at hBI
          have HBI := Lib.hid hBI
          clear hBI hkj hwj hxs
          have HSl : Hid (s.l = s.l) := Lib.hid rfl
          go_upto_region 15 with fail
          refine wp_abs fun a0 hA => ?_
          have h5 : a0.eval (.tmp 5) = .slice (some ⟨G5, 0, none⟩) 64 c5 := by rw [hA]; rfl
          have h10 : a0.eval (.tmp 10) = .slice (some ⟨G10, 0, none⟩) 8 c10 := by rw [hA]; rfl
          have h11 : a0.eval (.tmp 11) = .int .i64 (j : Int) := by rw [hA]; rfl
          have hz : a0.tmps.size = 222 := by rw [hA]; rfl
          refine wp_region_K [some 95, some 96, some 97, some 98, some 99, some 100, some 101, some 102, some 103, some 104, some 105, some 106, some 107, some 108, some 109, some 110, some 111, some 112, some 113, some 114, some 115, some 116, some 117, some 118, some 119, some 120, some 121, some 122, some 123, some 124, some 125, some 126, some 127, some 128, some 129, some 130, some 131, some 132, some 133, some 134, some 135, some 136, some 137, some 138, some 12] 222 (QJ (BI w b9 b10 (.slice (some ⟨G5, 0, none⟩) 64 c5) (.slice (some ⟨G9, 0, none⟩) 8 c9) (.slice (some ⟨G10, 0, none⟩) 8 c10) l s.l [x0, x1, x2, x3, x4, x5, x6, x7]) (blkV15 G10 c10 G5 c5 j x0 x1 x2 x3 x4 x5 x6 x7 kj wj)) (by kernel_rfl) (by kernel_rfl) (by kernel_rfl) rfl (by kernel_rfl) hz ⟨fun i h => (by cases h), HBI.out.next (Below.refl _ _).drew⟩ ?_ ⟨?_, ?_, ?_, ?_, ?_, ?_, ?_, ?_, ?_, ?_, ?_, ?_, ?_, ?_, ?_, ?_, ?_, ?_, ?_, ?_, ?_, ?_, ?_, ?_, ?_, ?_, ?_, ?_, ?_, ?_, ?_, ?_, ?_, ?_, ?_, ?_, ?_, ?_, ?_, ?_, ?_, ?_, ?_, ?_, ?_, trivial⟩
          · intro d u W hd hJ
            have hv := hJ.vals 44 (hd 44 (by decide))
            have hI := Lib.hid hJ.inv
            change u 44 = .int .u32 (tR x4 x5 x6 x7 kj wj) at hv
            rw [hA]
            simp only [putAll, Act.put, List.setIfInBounds_toArray, List.set_cons_zero, List.set_cons_succ]
            clear hJ hd h5 h10 h11 hz hA
            clear a0
            rw [hv]
            clear hv
            obtain ⟨tt, htt⟩ : ∃ z, tR x4 x5 x6 x7 kj wj = z := ⟨_, rfl⟩
            rw [htt]
            have HT := Lib.hid htt
            clear htt HBI
            generalize W = Wp at hI ⊢
            have HIp := hI
            clear hI
            go_upto_region 16 with fail
            refine wp_abs fun a0 hA => ?_
            have h10 : a0.eval (.tmp 10) = .slice (some ⟨G10, 0, none⟩) 8 c10 := by rw [hA]; rfl
            have hz : a0.tmps.size = 222 := by rw [hA]; rfl
            refine wp_region_K [some 139, some 140, some 141, some 142, some 143, some 144, some 145, some 146, some 147, some 148, some 149, some 150, some 151, some 152, some 153, some 154, some 155, some 156, some 157, some 158, some 159, some 160, some 161, some 162, some 163, some 164, some 165, some 166, some 167, some 168, some 169, some 170, some 171, some 172, some 173, some 174, some 175, some 176, some 13] 222 (QJ (BI w b9 b10 (.slice (some ⟨G5, 0, none⟩) 64 c5) (.slice (some ⟨G9, 0, none⟩) 8 c9) (.slice (some ⟨G10, 0, none⟩) 8 c10) l s.l [x0, x1, x2, x3, x4, x5, x6, x7]) (blkV16 G10 c10 G5 c5 j x0 x1 x2 x3 x4 x5 x6 x7)) (by kernel_rfl) (by kernel_rfl) (by kernel_rfl) rfl (by kernel_rfl) hz ⟨fun i h => (by cases h), HIp.out.next (Below.refl _ _).drew⟩ ?_ ⟨?_, ?_, ?_, ?_, ?_, ?_, ?_, ?_, ?_, ?_, ?_, ?_, ?_, ?_, ?_, ?_, ?_, ?_, ?_, ?_, ?_, ?_, ?_, ?_, ?_, ?_, ?_, ?_, ?_, ?_, ?_, ?_, ?_, ?_, ?_, ?_, ?_, ?_, ?_, trivial⟩
            · intro d u W hd hJ
              have hv := hJ.vals 38 (hd 38 (by decide))
              have hI := Lib.hid hJ.inv
              change u 38 = .int .u32 (uV x0 x1 x2) at hv
              rw [hA]
              simp only [putAll, Act.put, List.setIfInBounds_toArray, List.set_cons_zero, List.set_cons_succ]
              clear hJ hd h10 hz hA
              clear a0
              rw [hv]
              clear hv
              obtain ⟨uu, huu⟩ : ∃ z, uV x0 x1 x2 = z := ⟨_, rfl⟩
              rw [huu]
              have HU := Lib.hid huu
              clear huu HIp
              generalize W = Wq at hI ⊢
              obtain ⟨H, hH⟩ : ∃ H, Wq.heap.size = H := ⟨_, rfl⟩
              have HH := Lib.hid hH
              clear hH
              go_upto_region 17 with fail
              refine wp_abs fun a0 hA => ?_
              have h10 : a0.eval (.tmp 10) = .slice (some ⟨G10, 0, none⟩) 8 c10 := by rw [hA]; rfl
              have h12 : a0.eval (.tmp 12) = .int .u32 tt := by rw [hA]; rfl
              have h13 : a0.eval (.tmp 13) = .int .u32 uu := by rw [hA]; rfl
              have hz : a0.tmps.size = 222 := by rw [hA]; rfl
              refine wp_region_K [some 177, some 178, some 179, some 180, some 181, some 182, some 183, some 184, some 185, some 186, some 187, some 188, some 189, some 190, some 191, some 192, some 193, some 194, some 195, some 196, some 197, some 198, some 199, some 200, some 201, some 202, some 203, some 10] 222 (CJ (blkV17 G10 c10 H x0 x1 x2 x3 x4 x5 x6 x7 tt uu) (blkO17 G10 c10) [26] (blkS17 Wq.drew (.cells #[.int .u32 ((tt + uu) % 4294967296), .int .u32 x0, .int .u32 x1, .int .u32 x2, .int .u32 ((x3 + tt) % 4294967296), .int .u32 x4, .int .u32 x5, .int .u32 x6] 122))) (by kernel_rfl) (by kernel_rfl) (by kernel_rfl) rfl (by kernel_rfl) hz (CJ.start (fun i => by unfold blkO17; split; exact h10; trivial) rfl) ?_ ⟨?_, ?_, ?_, ?_, ?_, ?_, ?_, ?_, ?_, ?_, ?_, ?_, ?_, ?_, ?_, ?_, ?_, ?_, ?_, ?_, ?_, ?_, ?_, ?_, ?_, ?_, ?_, ?_, trivial⟩
              · intro d u W hd hJ
                have hS : W = _ := hJ.fin 1 rfl (fun k hk => by simp at hk; subst hk; exact hd _ (by decide)) blkS17_le
                have hv := hJ.vals 27 (hd 27 (by decide))
                change u 27 = _ at hv
                have HF := Lib.hid ((hI.out.next (Below.refl _ _).drew).fresh ((tt + uu) % 4294967296) x0 x1 x2 ((x3 + tt) % 4294967296) x4 x5 x6)
                rw [hA]
                simp only [putAll, Act.put, List.setIfInBounds_toArray, List.set_cons_zero, List.set_cons_succ]
                clear hJ hd h10 h12 h13 hz hA
                clear a0
                rw [hv]
                clear hv
                subst hS
                go_wp2_with fail
                exact Handed.intro (64 - (j + 1)) (by rw [HK.out]; omega) (hJ' _ _ _ ⟨rfl, rfl, rfl, rfl, j + 1, by omega, rfl, congrArg (Value.int .i64) (show (j : Int) + 1 = ((j + 1 : Nat) : Int) by omega), blk_round HKj.out HWj.out HT.out HU.out HXS.out (HH.out ▸ HF.out)⟩)
              · exact KStep.plain rfl fun ρ d u W he hc hdi hd hJ => swp_val (run_move (he.o h12 rfl)) (hJ.pure 0 rfl rfl)
              · exact KStep.plain rfl fun ρ d u W he hc hdi hd hJ => swp_val (run_move (he.o h13 rfl)) (hJ.pure 1 rfl rfl)
              · exact KStep.plain rfl fun ρ d u W he hc hdi hd hJ => swp_val (run_bin (he.i hz (hJ.vals 0 (hd 0 (by kernel_rfl))) (j := 0) (d := 177) rfl (by decide)) (he.i hz (hJ.vals 1 (hd 1 (by kernel_rfl))) (j := 1) (d := 178) rfl (by decide)) rfl (run_add_u32 _ _ W)) (hJ.pure 2 rfl rfl)
              · exact KStep.plain rfl fun ρ d u W he hc hdi hd hJ => swp_val (run_move (he.i hz (hJ.olds 27 (hc.notyet [26, 5, 4, 3] (by kernel_rfl) rfl hdi)) (j := 27) (d := 10) rfl (by decide))) (hJ.pure 3 rfl rfl)
              · exact KStep.plain rfl fun ρ d u W he hc hdi hd hJ => swp_val (run_indexAddr (he.i hz (hJ.vals 3 (hd 3 (by kernel_rfl))) (j := 3) (d := 180) rfl (by decide)) (he.const _) (idx_n G10 0 8 c10 0 rfl (by decide) W)) (hJ.pure 4 rfl rfl)
              · exact KStep.plain rfl fun ρ d u W he hc hdi hd hJ => swp_val (run_load (he.i hz (hJ.vals 4 (hd 4 (by kernel_rfl))) (j := 4) (d := 181) rfl (by decide)) (by have hW : W = _ := hJ.at_ 0 rfl (hc.notyet [5] (by kernel_rfl) rfl hdi) (fun j h => by omega); subst hW; exact load_u32 G10 0 _ x0 (Wds.cell hI.out.w10 0 (show 0 < 8 by decide)))) (hJ.pure 5 rfl rfl)
              · exact KStep.plain rfl fun ρ d u W he hc hdi hd hJ => swp_val (run_move (he.i hz (hJ.olds 27 (hc.notyet [26, 8, 7, 6] (by kernel_rfl) rfl hdi)) (j := 27) (d := 10) rfl (by decide))) (hJ.pure 6 rfl rfl)
              · exact KStep.plain rfl fun ρ d u W he hc hdi hd hJ => swp_val (run_indexAddr (he.i hz (hJ.vals 6 (hd 6 (by kernel_rfl))) (j := 6) (d := 183) rfl (by decide)) (he.const _) (idx_n G10 1 8 c10 1 rfl (by decide) W)) (hJ.pure 7 rfl rfl)
              · exact KStep.plain rfl fun ρ d u W he hc hdi hd hJ => swp_val (run_load (he.i hz (hJ.vals 7 (hd 7 (by kernel_rfl))) (j := 7) (d := 184) rfl (by decide)) (by have hW : W = _ := hJ.at_ 0 rfl (hc.notyet [8] (by kernel_rfl) rfl hdi) (fun j h => by omega); subst hW; exact load_u32 G10 1 _ x1 (Wds.cell hI.out.w10 1 (show 1 < 8 by decide)))) (hJ.pure 8 rfl rfl)
              · exact KStep.plain rfl fun ρ d u W he hc hdi hd hJ => swp_val (run_move (he.i hz (hJ.olds 27 (hc.notyet [26, 11, 10, 9] (by kernel_rfl) rfl hdi)) (j := 27) (d := 10) rfl (by decide))) (hJ.pure 9 rfl rfl)
              · exact KStep.plain rfl fun ρ d u W he hc hdi hd hJ => swp_val (run_indexAddr (he.i hz (hJ.vals 9 (hd 9 (by kernel_rfl))) (j := 9) (d := 186) rfl (by decide)) (he.const _) (idx_n G10 2 8 c10 2 rfl (by decide) W)) (hJ.pure 10 rfl rfl)
              · exact KStep.plain rfl fun ρ d u W he hc hdi hd hJ => swp_val (run_load (he.i hz (hJ.vals 10 (hd 10 (by kernel_rfl))) (j := 10) (d := 187) rfl (by decide)) (by have hW : W = _ := hJ.at_ 0 rfl (hc.notyet [11] (by kernel_rfl) rfl hdi) (fun j h => by omega); subst hW; exact load_u32 G10 2 _ x2 (Wds.cell hI.out.w10 2 (show 2 < 8 by decide)))) (hJ.pure 11 rfl rfl)
              · exact KStep.plain rfl fun ρ d u W he hc hdi hd hJ => swp_val (run_move (he.i hz (hJ.olds 27 (hc.notyet [26, 16, 14, 13, 12] (by kernel_rfl) rfl hdi)) (j := 27) (d := 10) rfl (by decide))) (hJ.pure 12 rfl rfl)
              · exact KStep.plain rfl fun ρ d u W he hc hdi hd hJ => swp_val (run_indexAddr (he.i hz (hJ.vals 12 (hd 12 (by kernel_rfl))) (j := 12) (d := 189) rfl (by decide)) (he.const _) (idx_n G10 3 8 c10 3 rfl (by decide) W)) (hJ.pure 13 rfl rfl)
              · exact KStep.plain rfl fun ρ d u W he hc hdi hd hJ => swp_val (run_load (he.i hz (hJ.vals 13 (hd 13 (by kernel_rfl))) (j := 13) (d := 190) rfl (by decide)) (by have hW : W = _ := hJ.at_ 0 rfl (hc.notyet [16, 14] (by kernel_rfl) rfl hdi) (fun j h => by omega); subst hW; exact load_u32 G10 3 _ x3 (Wds.cell hI.out.w10 3 (show 3 < 8 by decide)))) (hJ.pure 14 rfl rfl)
              · exact KStep.plain rfl fun ρ d u W he hc hdi hd hJ => swp_val (run_move (he.o h12 rfl)) (hJ.pure 15 rfl rfl)
              · exact KStep.plain rfl fun ρ d u W he hc hdi hd hJ => swp_val (run_bin (he.i hz (hJ.vals 14 (hd 14 (by kernel_rfl))) (j := 14) (d := 191) rfl (by decide)) (he.i hz (hJ.vals 15 (hd 15 (by kernel_rfl))) (j := 15) (d := 192) rfl (by decide)) rfl (run_add_u32 _ _ W)) (hJ.pure 16 rfl rfl)
              · exact KStep.plain rfl fun ρ d u W he hc hdi hd hJ => swp_val (run_move (he.i hz (hJ.olds 27 (hc.notyet [26, 19, 18, 17] (by kernel_rfl) rfl hdi)) (j := 27) (d := 10) rfl (by decide))) (hJ.pure 17 rfl rfl)
              · exact KStep.plain rfl fun ρ d u W he hc hdi hd hJ => swp_val (run_indexAddr (he.i hz (hJ.vals 17 (hd 17 (by kernel_rfl))) (j := 17) (d := 194) rfl (by decide)) (he.const _) (idx_n G10 4 8 c10 4 rfl (by decide) W)) (hJ.pure 18 rfl rfl)
              · exact KStep.plain rfl fun ρ d u W he hc hdi hd hJ => swp_val (run_load (he.i hz (hJ.vals 18 (hd 18 (by kernel_rfl))) (j := 18) (d := 195) rfl (by decide)) (by have hW : W = _ := hJ.at_ 0 rfl (hc.notyet [19] (by kernel_rfl) rfl hdi) (fun j h => by omega); subst hW; exact load_u32 G10 4 _ x4 (Wds.cell hI.out.w10 4 (show 4 < 8 by decide)))) (hJ.pure 19 rfl rfl)
              · exact KStep.plain rfl fun ρ d u W he hc hdi hd hJ => swp_val (run_move (he.i hz (hJ.olds 27 (hc.notyet [26, 22, 21, 20] (by kernel_rfl) rfl hdi)) (j := 27) (d := 10) rfl (by decide))) (hJ.pure 20 rfl rfl)
              · exact KStep.plain rfl fun ρ d u W he hc hdi hd hJ => swp_val (run_indexAddr (he.i hz (hJ.vals 20 (hd 20 (by kernel_rfl))) (j := 20) (d := 197) rfl (by decide)) (he.const _) (idx_n G10 5 8 c10 5 rfl (by decide) W)) (hJ.pure 21 rfl rfl)
              · exact KStep.plain rfl fun ρ d u W he hc hdi hd hJ => swp_val (run_load (he.i hz (hJ.vals 21 (hd 21 (by kernel_rfl))) (j := 21) (d := 198) rfl (by decide)) (by have hW : W = _ := hJ.at_ 0 rfl (hc.notyet [22] (by kernel_rfl) rfl hdi) (fun j h => by omega); subst hW; exact load_u32 G10 5 _ x5 (Wds.cell hI.out.w10 5 (show 5 < 8 by decide)))) (hJ.pure 22 rfl rfl)
              · exact KStep.plain rfl fun ρ d u W he hc hdi hd hJ => swp_val (run_move (he.i hz (hJ.olds 27 (hc.notyet [26, 25, 24, 23] (by kernel_rfl) rfl hdi)) (j := 27) (d := 10) rfl (by decide))) (hJ.pure 23 rfl rfl)
              · exact KStep.plain rfl fun ρ d u W he hc hdi hd hJ => swp_val (run_indexAddr (he.i hz (hJ.vals 23 (hd 23 (by kernel_rfl))) (j := 23) (d := 200) rfl (by decide)) (he.const _) (idx_n G10 6 8 c10 6 rfl (by decide) W)) (hJ.pure 24 rfl rfl)
              · exact KStep.plain rfl fun ρ d u W he hc hdi hd hJ => swp_val (run_load (he.i hz (hJ.vals 24 (hd 24 (by kernel_rfl))) (j := 24) (d := 201) rfl (by decide)) (by have hW : W = _ := hJ.at_ 0 rfl (hc.notyet [25] (by kernel_rfl) rfl hdi) (fun j h => by omega); subst hW; exact load_u32 G10 6 _ x6 (Wds.cell hI.out.w10 6 (show 6 < 8 by decide)))) (hJ.pure 25 rfl rfl)
              · refine KStep.plain rfl fun ρ d u W he hc hdi hd hJ => ?_
                have hW : W = _ := hJ.at_ 0 rfl hdi (fun j h => by omega)
                subst hW
                exact swp_val (run_bslice (v := .slice (some ⟨H, 0, none⟩) 8 8) #[(0, .int .u32 ((tt + uu) % 4294967296)), (1, .int .u32 x0), (2, .int .u32 x1), (3, .int .u32 x2), (4, .int .u32 ((x3 + tt) % 4294967296)), (5, .int .u32 x4), (6, .int .u32 x5), (7, .int .u32 x6)] (pairs8 (he.i hz (hJ.vals 2 (hd 2 (by kernel_rfl))) (j := 2) (d := 179) rfl (by decide)) (he.i hz (hJ.vals 5 (hd 5 (by kernel_rfl))) (j := 5) (d := 182) rfl (by decide)) (he.i hz (hJ.vals 8 (hd 8 (by kernel_rfl))) (j := 8) (d := 185) rfl (by decide)) (he.i hz (hJ.vals 11 (hd 11 (by kernel_rfl))) (j := 11) (d := 188) rfl (by decide)) (he.i hz (hJ.vals 16 (hd 16 (by kernel_rfl))) (j := 16) (d := 193) rfl (by decide)) (he.i hz (hJ.vals 19 (hd 19 (by kernel_rfl))) (j := 19) (d := 196) rfl (by decide)) (he.i hz (hJ.vals 22 (hd 22 (by kernel_rfl))) (j := 22) (d := 199) rfl (by decide)) (he.i hz (hJ.vals 25 (hd 25 (by kernel_rfl))) (j := 25) (d := 202) rfl (by decide))) (by rw [← HH.out]; go_simp)) (hJ.go 0 rfl hdi (by decide) (fun j h => by omega) rfl rfl)
              · exact KStep.plain rfl fun ρ d u W he hc hdi hd hJ => swp_val (run_assign (he.i hz (hJ.vals 26 (hd 26 (by kernel_rfl))) (j := 26) (d := 203) rfl (by decide))) (hJ.pure 27 rfl rfl)
            · exact KStep.plain rfl fun ρ d u W he hc hdi hd hJ => swp_val (run_move (he.o h10 rfl)) (hJ.pure 0 rfl)
            · exact KStep.plain rfl fun ρ d u W he hc hdi hd hJ => swp_val (run_indexAddr (he.i hz (hJ.vals 0 (hd 0 (by kernel_rfl))) (j := 0) (d := 139) rfl (by decide)) (he.const _) (idx_n G10 0 8 c10 0 rfl (by decide) W)) (hJ.pure 1 rfl)
            · exact KStep.plain rfl fun ρ d u W he hc hdi hd hJ => swp_val (run_load (he.i hz (hJ.vals 1 (hd 1 (by kernel_rfl))) (j := 1) (d := 140) rfl (by decide)) (load_u32 G10 0 W x0 (Wds.cell hJ.inv.w10 0 (show 0 < 8 by decide)))) (hJ.pure 2 rfl)
            · exact KStep.plain rfl fun ρ d u W he hc hdi hd hJ => swp_call (run_call #[.int .u32 x0, .int .i64 2] (he.func _) (by kernel_rfl) (map2 (he.i hz (hJ.vals 2 (hd 2 (by kernel_rfl))) (j := 2) (d := 141) rfl (by decide)) (he.const _))) (rrot_b x0 2 W (by omega) (by omega)) (fun e W' h => ⟨_, h.1, hJ.next 3 rfl ((hJ.inv.next) h.2)⟩)
            · exact KStep.plain rfl fun ρ d u W he hc hdi hd hJ => swp_val (run_move (he.o h10 rfl)) (hJ.pure 4 rfl)
            · exact KStep.plain rfl fun ρ d u W he hc hdi hd hJ => swp_val (run_indexAddr (he.i hz (hJ.vals 4 (hd 4 (by kernel_rfl))) (j := 4) (d := 143) rfl (by decide)) (he.const _) (idx_n G10 0 8 c10 0 rfl (by decide) W)) (hJ.pure 5 rfl)
            · exact KStep.plain rfl fun ρ d u W he hc hdi hd hJ => swp_val (run_load (he.i hz (hJ.vals 5 (hd 5 (by kernel_rfl))) (j := 5) (d := 144) rfl (by decide)) (load_u32 G10 0 W x0 (Wds.cell hJ.inv.w10 0 (show 0 < 8 by decide)))) (hJ.pure 6 rfl)
            · exact KStep.plain rfl fun ρ d u W he hc hdi hd hJ => swp_call (run_call #[.int .u32 x0, .int .i64 13] (he.func _) (by kernel_rfl) (map2 (he.i hz (hJ.vals 6 (hd 6 (by kernel_rfl))) (j := 6) (d := 145) rfl (by decide)) (he.const _))) (rrot_b x0 13 W (by omega) (by omega)) (fun e W' h => ⟨_, h.1, hJ.next 7 rfl ((hJ.inv.next) h.2)⟩)
            · exact KStep.plain rfl fun ρ d u W he hc hdi hd hJ => swp_val (run_bin (he.i hz (hJ.vals 3 (hd 3 (by kernel_rfl))) (j := 3) (d := 142) rfl (by decide)) (he.i hz (hJ.vals 7 (hd 7 (by kernel_rfl))) (j := 7) (d := 146) rfl (by decide)) rfl (by go_simp)) (hJ.pure 8 rfl)
            · exact KStep.plain rfl fun ρ d u W he hc hdi hd hJ => swp_val (run_move (he.o h10 rfl)) (hJ.pure 9 rfl)
            · exact KStep.plain rfl fun ρ d u W he hc hdi hd hJ => swp_val (run_indexAddr (he.i hz (hJ.vals 9 (hd 9 (by kernel_rfl))) (j := 9) (d := 148) rfl (by decide)) (he.const _) (idx_n G10 0 8 c10 0 rfl (by decide) W)) (hJ.pure 10 rfl)
            · exact KStep.plain rfl fun ρ d u W he hc hdi hd hJ => swp_val (run_load (he.i hz (hJ.vals 10 (hd 10 (by kernel_rfl))) (j := 10) (d := 149) rfl (by decide)) (load_u32 G10 0 W x0 (Wds.cell hJ.inv.w10 0 (show 0 < 8 by decide)))) (hJ.pure 11 rfl)
            · exact KStep.plain rfl fun ρ d u W he hc hdi hd hJ => swp_call (run_call #[.int .u32 x0, .int .i64 22] (he.func _) (by kernel_rfl) (map2 (he.i hz (hJ.vals 11 (hd 11 (by kernel_rfl))) (j := 11) (d := 150) rfl (by decide)) (he.const _))) (rrot_b x0 22 W (by omega) (by omega)) (fun e W' h => ⟨_, h.1, hJ.next 12 rfl ((hJ.inv.next) h.2)⟩)
            · exact KStep.plain rfl fun ρ d u W he hc hdi hd hJ => swp_val (run_bin (he.i hz (hJ.vals 8 (hd 8 (by kernel_rfl))) (j := 8) (d := 147) rfl (by decide)) (he.i hz (hJ.vals 12 (hd 12 (by kernel_rfl))) (j := 12) (d := 151) rfl (by decide)) rfl (by go_simp)) (hJ.pure 13 rfl)
            · exact KStep.plain rfl fun ρ d u W he hc hdi hd hJ => swp_val (run_move (he.o h10 rfl)) (hJ.pure 14 rfl)
            · exact KStep.plain rfl fun ρ d u W he hc hdi hd hJ => swp_val (run_indexAddr (he.i hz (hJ.vals 14 (hd 14 (by kernel_rfl))) (j := 14) (d := 153) rfl (by decide)) (he.const _) (idx_n G10 0 8 c10 0 rfl (by decide) W)) (hJ.pure 15 rfl)
            · exact KStep.plain rfl fun ρ d u W he hc hdi hd hJ => swp_val (run_load (he.i hz (hJ.vals 15 (hd 15 (by kernel_rfl))) (j := 15) (d := 154) rfl (by decide)) (load_u32 G10 0 W x0 (Wds.cell hJ.inv.w10 0 (show 0 < 8 by decide)))) (hJ.pure 16 rfl)
            · exact KStep.plain rfl fun ρ d u W he hc hdi hd hJ => swp_val (run_move (he.o h10 rfl)) (hJ.pure 17 rfl)
            · exact KStep.plain rfl fun ρ d u W he hc hdi hd hJ => swp_val (run_indexAddr (he.i hz (hJ.vals 17 (hd 17 (by kernel_rfl))) (j := 17) (d := 156) rfl (by decide)) (he.const _) (idx_n G10 1 8 c10 1 rfl (by decide) W)) (hJ.pure 18 rfl)
            · exact KStep.plain rfl fun ρ d u W he hc hdi hd hJ => swp_val (run_load (he.i hz (hJ.vals 18 (hd 18 (by kernel_rfl))) (j := 18) (d := 157) rfl (by decide)) (load_u32 G10 1 W x1 (Wds.cell hJ.inv.w10 1 (show 1 < 8 by decide)))) (hJ.pure 19 rfl)
            · exact KStep.plain rfl fun ρ d u W he hc hdi hd hJ => swp_val (run_bin (he.i hz (hJ.vals 16 (hd 16 (by kernel_rfl))) (j := 16) (d := 155) rfl (by decide)) (he.i hz (hJ.vals 19 (hd 19 (by kernel_rfl))) (j := 19) (d := 158) rfl (by decide)) rfl (by go_simp)) (hJ.pure 20 rfl)
            · exact KStep.plain rfl fun ρ d u W he hc hdi hd hJ => swp_val (run_move (he.o h10 rfl)) (hJ.pure 21 rfl)
            · exact KStep.plain rfl fun ρ d u W he hc hdi hd hJ => swp_val (run_indexAddr (he.i hz (hJ.vals 21 (hd 21 (by kernel_rfl))) (j := 21) (d := 160) rfl (by decide)) (he.const _) (idx_n G10 0 8 c10 0 rfl (by decide) W)) (hJ.pure 22 rfl)
            · exact KStep.plain rfl fun ρ d u W he hc hdi hd hJ => swp_val (run_load (he.i hz (hJ.vals 22 (hd 22 (by kernel_rfl))) (j := 22) (d := 161) rfl (by decide)) (load_u32 G10 0 W x0 (Wds.cell hJ.inv.w10 0 (show 0 < 8 by decide)))) (hJ.pure 23 rfl)
            · exact KStep.plain rfl fun ρ d u W he hc hdi hd hJ => swp_val (run_move (he.o h10 rfl)) (hJ.pure 24 rfl)
            · exact KStep.plain rfl fun ρ d u W he hc hdi hd hJ => swp_val (run_indexAddr (he.i hz (hJ.vals 24 (hd 24 (by kernel_rfl))) (j := 24) (d := 163) rfl (by decide)) (he.const _) (idx_n G10 2 8 c10 2 rfl (by decide) W)) (hJ.pure 25 rfl)
            · exact KStep.plain rfl fun ρ d u W he hc hdi hd hJ => swp_val (run_load (he.i hz (hJ.vals 25 (hd 25 (by kernel_rfl))) (j := 25) (d := 164) rfl (by decide)) (load_u32 G10 2 W x2 (Wds.cell hJ.inv.w10 2 (show 2 < 8 by decide)))) (hJ.pure 26 rfl)
            · exact KStep.plain rfl fun ρ d u W he hc hdi hd hJ => swp_val (run_bin (he.i hz (hJ.vals 23 (hd 23 (by kernel_rfl))) (j := 23) (d := 162) rfl (by decide)) (he.i hz (hJ.vals 26 (hd 26 (by kernel_rfl))) (j := 26) (d := 165) rfl (by decide)) rfl (by go_simp)) (hJ.pure 27 rfl)
            · exact KStep.plain rfl fun ρ d u W he hc hdi hd hJ => swp_val (run_bin (he.i hz (hJ.vals 20 (hd 20 (by kernel_rfl))) (j := 20) (d := 159) rfl (by decide)) (he.i hz (hJ.vals 27 (hd 27 (by kernel_rfl))) (j := 27) (d := 166) rfl (by decide)) rfl (by go_simp)) (hJ.pure 28 rfl)
            · exact KStep.plain rfl fun ρ d u W he hc hdi hd hJ => swp_val (run_move (he.o h10 rfl)) (hJ.pure 29 rfl)
            · exact KStep.plain rfl fun ρ d u W he hc hdi hd hJ => swp_val (run_indexAddr (he.i hz (hJ.vals 29 (hd 29 (by kernel_rfl))) (j := 29) (d := 168) rfl (by decide)) (he.const _) (idx_n G10 1 8 c10 1 rfl (by decide) W)) (hJ.pure 30 rfl)
            · exact KStep.plain rfl fun ρ d u W he hc hdi hd hJ => swp_val (run_load (he.i hz (hJ.vals 30 (hd 30 (by kernel_rfl))) (j := 30) (d := 169) rfl (by decide)) (load_u32 G10 1 W x1 (Wds.cell hJ.inv.w10 1 (show 1 < 8 by decide)))) (hJ.pure 31 rfl)
            · exact KStep.plain rfl fun ρ d u W he hc hdi hd hJ => swp_val (run_move (he.o h10 rfl)) (hJ.pure 32 rfl)
            · exact KStep.plain rfl fun ρ d u W he hc hdi hd hJ => swp_val (run_indexAddr (he.i hz (hJ.vals 32 (hd 32 (by kernel_rfl))) (j := 32) (d := 171) rfl (by decide)) (he.const _) (idx_n G10 2 8 c10 2 rfl (by decide) W)) (hJ.pure 33 rfl)
            · exact KStep.plain rfl fun ρ d u W he hc hdi hd hJ => swp_val (run_load (he.i hz (hJ.vals 33 (hd 33 (by kernel_rfl))) (j := 33) (d := 172) rfl (by decide)) (load_u32 G10 2 W x2 (Wds.cell hJ.inv.w10 2 (show 2 < 8 by decide)))) (hJ.pure 34 rfl)
            · exact KStep.plain rfl fun ρ d u W he hc hdi hd hJ => swp_val (run_bin (he.i hz (hJ.vals 31 (hd 31 (by kernel_rfl))) (j := 31) (d := 170) rfl (by decide)) (he.i hz (hJ.vals 34 (hd 34 (by kernel_rfl))) (j := 34) (d := 173) rfl (by decide)) rfl (by go_simp)) (hJ.pure 35 rfl)
            · exact KStep.plain rfl fun ρ d u W he hc hdi hd hJ => swp_val (run_bin (he.i hz (hJ.vals 28 (hd 28 (by kernel_rfl))) (j := 28) (d := 167) rfl (by decide)) (he.i hz (hJ.vals 35 (hd 35 (by kernel_rfl))) (j := 35) (d := 174) rfl (by decide)) rfl (by go_simp)) (hJ.pure 36 rfl)
            · exact KStep.plain rfl fun ρ d u W he hc hdi hd hJ => swp_val (run_bin (he.i hz (hJ.vals 13 (hd 13 (by kernel_rfl))) (j := 13) (d := 152) rfl (by decide)) (he.i hz (hJ.vals 36 (hd 36 (by kernel_rfl))) (j := 36) (d := 175) rfl (by decide)) rfl (run_add_u32 _ _ W)) (hJ.pure 37 rfl)
            · exact KStep.plain rfl fun ρ d u W he hc hdi hd hJ => swp_val (run_assign (he.i hz (hJ.vals 37 (hd 37 (by kernel_rfl))) (j := 37) (d := 176) rfl (by decide))) (hJ.pure 38 rfl)
          · exact KStep.plain rfl fun ρ d u W he hc hdi hd hJ => swp_val (run_move (he.o h10 rfl)) (hJ.pure 0 rfl)
          · exact KStep.plain rfl fun ρ d u W he hc hdi hd hJ => swp_val (run_indexAddr (he.i hz (hJ.vals 0 (hd 0 (by kernel_rfl))) (j := 0) (d := 95) rfl (by decide)) (he.const _) (idx_n G10 7 8 c10 7 rfl (by decide) W)) (hJ.pure 1 rfl)
          · exact KStep.plain rfl fun ρ d u W he hc hdi hd hJ => swp_val (run_load (he.i hz (hJ.vals 1 (hd 1 (by kernel_rfl))) (j := 1) (d := 96) rfl (by decide)) (load_u32 G10 7 W x7 (Wds.cell hJ.inv.w10 7 (show 7 < 8 by decide)))) (hJ.pure 2 rfl)
          · exact KStep.plain rfl fun ρ d u W he hc hdi hd hJ => swp_val (run_move (he.o h10 rfl)) (hJ.pure 3 rfl)
          · exact KStep.plain rfl fun ρ d u W he hc hdi hd hJ => swp_val (run_indexAddr (he.i hz (hJ.vals 3 (hd 3 (by kernel_rfl))) (j := 3) (d := 98) rfl (by decide)) (he.const _) (idx_n G10 4 8 c10 4 rfl (by decide) W)) (hJ.pure 4 rfl)
          · exact KStep.plain rfl fun ρ d u W he hc hdi hd hJ => swp_val (run_load (he.i hz (hJ.vals 4 (hd 4 (by kernel_rfl))) (j := 4) (d := 99) rfl (by decide)) (load_u32 G10 4 W x4 (Wds.cell hJ.inv.w10 4 (show 4 < 8 by decide)))) (hJ.pure 5 rfl)
          · exact KStep.plain rfl fun ρ d u W he hc hdi hd hJ => swp_call (run_call #[.int .u32 x4, .int .i64 6] (he.func _) (by kernel_rfl) (map2 (he.i hz (hJ.vals 5 (hd 5 (by kernel_rfl))) (j := 5) (d := 100) rfl (by decide)) (he.const _))) (rrot_b x4 6 W (by omega) (by omega)) (fun e W' h => ⟨_, h.1, hJ.next 6 rfl ((hJ.inv.next) h.2)⟩)
          · exact KStep.plain rfl fun ρ d u W he hc hdi hd hJ => swp_val (run_move (he.o h10 rfl)) (hJ.pure 7 rfl)
          · exact KStep.plain rfl fun ρ d u W he hc hdi hd hJ => swp_val (run_indexAddr (he.i hz (hJ.vals 7 (hd 7 (by kernel_rfl))) (j := 7) (d := 102) rfl (by decide)) (he.const _) (idx_n G10 4 8 c10 4 rfl (by decide) W)) (hJ.pure 8 rfl)
          · exact KStep.plain rfl fun ρ d u W he hc hdi hd hJ => swp_val (run_load (he.i hz (hJ.vals 8 (hd 8 (by kernel_rfl))) (j := 8) (d := 103) rfl (by decide)) (load_u32 G10 4 W x4 (Wds.cell hJ.inv.w10 4 (show 4 < 8 by decide)))) (hJ.pure 9 rfl)
          · exact KStep.plain rfl fun ρ d u W he hc hdi hd hJ => swp_call (run_call #[.int .u32 x4, .int .i64 11] (he.func _) (by kernel_rfl) (map2 (he.i hz (hJ.vals 9 (hd 9 (by kernel_rfl))) (j := 9) (d := 104) rfl (by decide)) (he.const _))) (rrot_b x4 11 W (by omega) (by omega)) (fun e W' h => ⟨_, h.1, hJ.next 10 rfl ((hJ.inv.next) h.2)⟩)
          · exact KStep.plain rfl fun ρ d u W he hc hdi hd hJ => swp_val (run_bin (he.i hz (hJ.vals 6 (hd 6 (by kernel_rfl))) (j := 6) (d := 101) rfl (by decide)) (he.i hz (hJ.vals 10 (hd 10 (by kernel_rfl))) (j := 10) (d := 105) rfl (by decide)) rfl (by go_simp)) (hJ.pure 11 rfl)
          · exact KStep.plain rfl fun ρ d u W he hc hdi hd hJ => swp_val (run_move (he.o h10 rfl)) (hJ.pure 12 rfl)
          · exact KStep.plain rfl fun ρ d u W he hc hdi hd hJ => swp_val (run_indexAddr (he.i hz (hJ.vals 12 (hd 12 (by kernel_rfl))) (j := 12) (d := 107) rfl (by decide)) (he.const _) (idx_n G10 4 8 c10 4 rfl (by decide) W)) (hJ.pure 13 rfl)
          · exact KStep.plain rfl fun ρ d u W he hc hdi hd hJ => swp_val (run_load (he.i hz (hJ.vals 13 (hd 13 (by kernel_rfl))) (j := 13) (d := 108) rfl (by decide)) (load_u32 G10 4 W x4 (Wds.cell hJ.inv.w10 4 (show 4 < 8 by decide)))) (hJ.pure 14 rfl)
          · exact KStep.plain rfl fun ρ d u W he hc hdi hd hJ => swp_call (run_call #[.int .u32 x4, .int .i64 25] (he.func _) (by kernel_rfl) (map2 (he.i hz (hJ.vals 14 (hd 14 (by kernel_rfl))) (j := 14) (d := 109) rfl (by decide)) (he.const _))) (rrot_b x4 25 W (by omega) (by omega)) (fun e W' h => ⟨_, h.1, hJ.next 15 rfl ((hJ.inv.next) h.2)⟩)
          · exact KStep.plain rfl fun ρ d u W he hc hdi hd hJ => swp_val (run_bin (he.i hz (hJ.vals 11 (hd 11 (by kernel_rfl))) (j := 11) (d := 106) rfl (by decide)) (he.i hz (hJ.vals 15 (hd 15 (by kernel_rfl))) (j := 15) (d := 110) rfl (by decide)) rfl (by go_simp)) (hJ.pure 16 rfl)
          · exact KStep.plain rfl fun ρ d u W he hc hdi hd hJ => swp_val (run_bin (he.i hz (hJ.vals 2 (hd 2 (by kernel_rfl))) (j := 2) (d := 97) rfl (by decide)) (he.i hz (hJ.vals 16 (hd 16 (by kernel_rfl))) (j := 16) (d := 111) rfl (by decide)) rfl (run_add_u32 _ _ W)) (hJ.pure 17 rfl)
          · exact KStep.plain rfl fun ρ d u W he hc hdi hd hJ => swp_val (run_move (he.o h10 rfl)) (hJ.pure 18 rfl)
          · exact KStep.plain rfl fun ρ d u W he hc hdi hd hJ => swp_val (run_indexAddr (he.i hz (hJ.vals 18 (hd 18 (by kernel_rfl))) (j := 18) (d := 113) rfl (by decide)) (he.const _) (idx_n G10 4 8 c10 4 rfl (by decide) W)) (hJ.pure 19 rfl)
          · exact KStep.plain rfl fun ρ d u W he hc hdi hd hJ => swp_val (run_load (he.i hz (hJ.vals 19 (hd 19 (by kernel_rfl))) (j := 19) (d := 114) rfl (by decide)) (load_u32 G10 4 W x4 (Wds.cell hJ.inv.w10 4 (show 4 < 8 by decide)))) (hJ.pure 20 rfl)
          · exact KStep.plain rfl fun ρ d u W he hc hdi hd hJ => swp_val (run_move (he.o h10 rfl)) (hJ.pure 21 rfl)
          · exact KStep.plain rfl fun ρ d u W he hc hdi hd hJ => swp_val (run_indexAddr (he.i hz (hJ.vals 21 (hd 21 (by kernel_rfl))) (j := 21) (d := 116) rfl (by decide)) (he.const _) (idx_n G10 5 8 c10 5 rfl (by decide) W)) (hJ.pure 22 rfl)
          · exact KStep.plain rfl fun ρ d u W he hc hdi hd hJ => swp_val (run_load (he.i hz (hJ.vals 22 (hd 22 (by kernel_rfl))) (j := 22) (d := 117) rfl (by decide)) (load_u32 G10 5 W x5 (Wds.cell hJ.inv.w10 5 (show 5 < 8 by decide)))) (hJ.pure 23 rfl)
          · exact KStep.plain rfl fun ρ d u W he hc hdi hd hJ => swp_val (run_bin (he.i hz (hJ.vals 20 (hd 20 (by kernel_rfl))) (j := 20) (d := 115) rfl (by decide)) (he.i hz (hJ.vals 23 (hd 23 (by kernel_rfl))) (j := 23) (d := 118) rfl (by decide)) rfl (by go_simp)) (hJ.pure 24 rfl)
          · exact KStep.plain rfl fun ρ d u W he hc hdi hd hJ => swp_val (run_move (he.o h10 rfl)) (hJ.pure 25 rfl)
          · exact KStep.plain rfl fun ρ d u W he hc hdi hd hJ => swp_val (run_indexAddr (he.i hz (hJ.vals 25 (hd 25 (by kernel_rfl))) (j := 25) (d := 120) rfl (by decide)) (he.const _) (idx_n G10 4 8 c10 4 rfl (by decide) W)) (hJ.pure 26 rfl)
          · exact KStep.plain rfl fun ρ d u W he hc hdi hd hJ => swp_val (run_load (he.i hz (hJ.vals 26 (hd 26 (by kernel_rfl))) (j := 26) (d := 121) rfl (by decide)) (load_u32 G10 4 W x4 (Wds.cell hJ.inv.w10 4 (show 4 < 8 by decide)))) (hJ.pure 27 rfl)
          · exact KStep.plain rfl fun ρ d u W he hc hdi hd hJ => swp_val (run_bin (he.i hz (hJ.vals 27 (hd 27 (by kernel_rfl))) (j := 27) (d := 122) rfl (by decide)) (he.const _) rfl (by go_simp)) (hJ.pure 28 rfl)
          · exact KStep.plain rfl fun ρ d u W he hc hdi hd hJ => swp_val (run_move (he.o h10 rfl)) (hJ.pure 29 rfl)
          · exact KStep.plain rfl fun ρ d u W he hc hdi hd hJ => swp_val (run_indexAddr (he.i hz (hJ.vals 29 (hd 29 (by kernel_rfl))) (j := 29) (d := 124) rfl (by decide)) (he.const _) (idx_n G10 6 8 c10 6 rfl (by decide) W)) (hJ.pure 30 rfl)
          · exact KStep.plain rfl fun ρ d u W he hc hdi hd hJ => swp_val (run_load (he.i hz (hJ.vals 30 (hd 30 (by kernel_rfl))) (j := 30) (d := 125) rfl (by decide)) (load_u32 G10 6 W x6 (Wds.cell hJ.inv.w10 6 (show 6 < 8 by decide)))) (hJ.pure 31 rfl)
          · exact KStep.plain rfl fun ρ d u W he hc hdi hd hJ => swp_val (run_bin (he.i hz (hJ.vals 28 (hd 28 (by kernel_rfl))) (j := 28) (d := 123) rfl (by decide)) (he.i hz (hJ.vals 31 (hd 31 (by kernel_rfl))) (j := 31) (d := 126) rfl (by decide)) rfl (by go_simp)) (hJ.pure 32 rfl)
          · exact KStep.plain rfl fun ρ d u W he hc hdi hd hJ => swp_val (run_bin (he.i hz (hJ.vals 24 (hd 24 (by kernel_rfl))) (j := 24) (d := 119) rfl (by decide)) (he.i hz (hJ.vals 32 (hd 32 (by kernel_rfl))) (j := 32) (d := 127) rfl (by decide)) rfl (by go_simp)) (hJ.pure 33 rfl)
          · exact KStep.plain rfl fun ρ d u W he hc hdi hd hJ => swp_val (run_bin (he.i hz (hJ.vals 17 (hd 17 (by kernel_rfl))) (j := 17) (d := 112) rfl (by decide)) (he.i hz (hJ.vals 33 (hd 33 (by kernel_rfl))) (j := 33) (d := 128) rfl (by decide)) rfl (run_add_u32 _ _ W)) (hJ.pure 34 rfl)
          · exact KStep.plain rfl fun ρ d u W he hc hdi hd hJ => swp_val (run_move (he.o h11 rfl)) (hJ.pure 35 rfl)
          · exact KStep.plain rfl fun ρ d u W he hc hdi hd hJ => swp_val (run_indexAddr (he.glob _) (he.i hz (hJ.vals 35 (hd 35 (by kernel_rfl))) (j := 35) (d := 130) rfl (by decide)) (idx_k j hlt W)) (hJ.pure 36 rfl)
          · exact KStep.plain rfl fun ρ d u W he hc hdi hd hJ => swp_val (run_load (he.i hz (hJ.vals 36 (hd 36 (by kernel_rfl))) (j := 36) (d := 131) rfl (by decide)) (load_u32 3 j W kj ((GlobR.kcell (HG.out.below hJ.inv.bel HG.out.four) j hlt).trans (by rw [HKj.out])))) (hJ.pure 37 rfl)
          · exact KStep.plain rfl fun ρ d u W he hc hdi hd hJ => swp_val (run_bin (he.i hz (hJ.vals 34 (hd 34 (by kernel_rfl))) (j := 34) (d := 129) rfl (by decide)) (he.i hz (hJ.vals 37 (hd 37 (by kernel_rfl))) (j := 37) (d := 132) rfl (by decide)) rfl (run_add_u32 _ _ W)) (hJ.pure 38 rfl)
          · exact KStep.plain rfl fun ρ d u W he hc hdi hd hJ => swp_val (run_move (he.o h5 rfl)) (hJ.pure 39 rfl)
          · exact KStep.plain rfl fun ρ d u W he hc hdi hd hJ => swp_val (run_move (he.o h11 rfl)) (hJ.pure 40 rfl)
          · exact KStep.plain rfl fun ρ d u W he hc hdi hd hJ => swp_val (run_indexAddr (he.i hz (hJ.vals 39 (hd 39 (by kernel_rfl))) (j := 39) (d := 134) rfl (by decide)) (he.i hz (hJ.vals 40 (hd 40 (by kernel_rfl))) (j := 40) (d := 135) rfl (by decide)) (idx_n G5 j 64 c5 j rfl hlt W)) (hJ.pure 41 rfl)
          · exact KStep.plain rfl fun ρ d u W he hc hdi hd hJ => swp_val (run_load (he.i hz (hJ.vals 41 (hd 41 (by kernel_rfl))) (j := 41) (d := 136) rfl (by decide)) (load_u32 G5 j W wj ((Wds.cell hJ.inv.w5 j (by rw [HWn.out]; exact hlt)).trans (by rw [HWj.out])))) (hJ.pure 42 rfl)
          · exact KStep.plain rfl fun ρ d u W he hc hdi hd hJ => swp_val (run_bin (he.i hz (hJ.vals 38 (hd 38 (by kernel_rfl))) (j := 38) (d := 133) rfl (by decide)) (he.i hz (hJ.vals 42 (hd 42 (by kernel_rfl))) (j := 42) (d := 137) rfl (by decide)) rfl (run_add_u32 _ _ W)) (hJ.pure 43 rfl)
          · exact KStep.plain rfl fun ρ d u W he hc hdi hd hJ => swp_val (run_assign (he.i hz (hJ.vals 43 (hd 43 (by kernel_rfl))) (j := 43) (d := 138) rfl (by decide))) (hJ.pure 44 rfl)
        · obtain rfl : j = 64 := by omega
          clear hlt hj HK
          obtain ⟨xs, hxs⟩ : ∃ z, rnds s l 64 = z := ⟨_, rfl⟩
          rw [hxs] at hBI
          have HM : Hid (mixS s blk.data.toList = addS s xs) := Lib.hid (by rw [← hxs, HLs.out]; rfl)
          have HBI := Lib.hid hBI
          clear hBI hxs hJ' hK HG HLs HWn
          go_wp2_with fail
          refine wp_loop_ghost_k (BFr3 w b9 b10 G9 c9 G10 c10 s xs) 8 ?_ ?_
          · exact ⟨rfl, rfl, rfl, rfl, 0, by omega, rfl, rfl, HBI.out.bel, HBI.out.w9, HBI.out.w10⟩
          · intro gk a0 wr hrel J K hJ' hK
            clear HBI
            obtain ⟨hs, hd, e9, e10, j, hj, hk, e14, hbel, h9, h10⟩ := hrel
            obtain ⟨u, hu, ha⟩ := frame222 a0 hs hd
            rw [hu] at e9 e10 e14
            rw [ha, e9, e10, e14]
            clear hs hd hu ha e9 e10 e14
            clear a0
            have HK := Lib.hid hk
            clear hk
            by_cases h8 : j < 8
            · obtain ⟨va, hva⟩ : ∃ z, s.l.getD j 0 = z := ⟨_, rfl⟩
              obtain ⟨vb, hvb⟩ : ∃ z, xs.l.getD j 0 = z := ⟨_, rfl⟩
              have HCa : Hid (wr.cell? ⟨G9, j, none⟩ = some (.int .u32 va)) := Lib.hid ((h9.cell j (by rw [addK_len]; exact h8)).trans (by rw [addK_at _ _ _ h8, hva]))
              have HCb : Hid (wr.cell? ⟨G10, j, none⟩ = some (.int .u32 vb)) := Lib.hid ((h10.cell j h8).trans (by rw [hvb]))
              have HFa : Hid (wr.frozen? ⟨G9, j, none⟩ = false) := Lib.hid (World.ownsRow.frozenAt (h9.len ▸ h9) j)
              have HNx := Lib.hid (blk_add (w := w) (b9 := b9) (b10 := b10) hbel h9 h10 hva hvb h8 (by omega) (by have := HB9.out; omega))
              clear hbel h9 h10 hva hvb
              go_upto_region 21 with fail
              refine wp_abs fun a0 hA => ?_
              have h9 : a0.eval (.tmp 9) = .slice (some ⟨G9, 0, none⟩) 8 c9 := by rw [hA]; rfl
              have h10 : a0.eval (.tmp 10) = .slice (some ⟨G10, 0, none⟩) 8 c10 := by rw [hA]; rfl
              have h14 : a0.eval (.tmp 14) = .int .i64 (j : Int) := by rw [hA]; rfl
              have hz : a0.tmps.size = 222 := by rw [hA]; rfl
              refine wp_region_K [some 208, some 209, some 210, some 211, some 212, some 213, some 214, some 215, some 216, some 217, some 218, some 219, none] 222 (CJ (blkV21 G9 c9 G10 c10 j va vb) blkO21 [12] (blkS21 wr.drew (wr.drew.setCell ⟨G9, j, none⟩ (.int .u32 ((va + vb) % 4294967296))))) (by kernel_rfl) (by kernel_rfl) (by kernel_rfl) rfl (by kernel_rfl) hz (CJ.start (fun i => trivial) rfl) ?_ ⟨?_, ?_, ?_, ?_, ?_, ?_, ?_, ?_, ?_, ?_, ?_, ?_, ?_, trivial⟩
              · intro d u W hd hJ
                have hS : W = _ := hJ.fin 1 rfl (fun k hk => by simp at hk; subst hk; exact hd _ (by decide)) blkS21_le
                rw [hA]
                simp only [putAll, Act.put, List.setIfInBounds_toArray, List.set_cons_zero, List.set_cons_succ]
                clear hJ hd h9 h10 h14 hz hA
                clear a0
                subst hS
                go_wp2_with fail
                exact Handed.intro (8 - (j + 1)) (by rw [HK.out]; omega) (hJ' _ _ _ ⟨rfl, rfl, rfl, rfl, j + 1, by omega, rfl, congrArg (Value.int .i64) (show (j : Int) + 1 = ((j + 1 : Nat) : Int) by omega), HNx.out⟩)
              · exact KStep.plain rfl fun ρ d u W he hc hdi hd hJ => swp_val (run_move (he.o h9 rfl)) (hJ.pure 0 rfl rfl)
              · exact KStep.plain rfl fun ρ d u W he hc hdi hd hJ => swp_val (run_move (he.o h14 rfl)) (hJ.pure 1 rfl rfl)
              · exact KStep.plain rfl fun ρ d u W he hc hdi hd hJ => swp_val (run_move (he.o h9 rfl)) (hJ.pure 2 rfl rfl)
              · exact KStep.plain rfl fun ρ d u W he hc hdi hd hJ => swp_val (run_move (he.o h14 rfl)) (hJ.pure 3 rfl rfl)
              · exact KStep.plain rfl fun ρ d u W he hc hdi hd hJ => swp_val (run_indexAddr (he.i hz (hJ.vals 2 (hd 2 (by kernel_rfl))) (j := 2) (d := 210) rfl (by decide)) (he.i hz (hJ.vals 3 (hd 3 (by kernel_rfl))) (j := 3) (d := 211) rfl (by decide)) (idx_n G9 j 8 c9 j rfl h8 W)) (hJ.pure 4 rfl rfl)
              · exact KStep.plain rfl fun ρ d u W he hc hdi hd hJ => swp_val (run_load (he.i hz (hJ.vals 4 (hd 4 (by kernel_rfl))) (j := 4) (d := 212) rfl (by decide)) (by have hW : W = _ := hJ.at_ 0 rfl (hc.notyet [10, 5] (by kernel_rfl) rfl hdi) (fun j h => by omega); subst hW; exact load_u32 G9 j _ va HCa.out)) (hJ.pure 5 rfl rfl)
              · exact KStep.plain rfl fun ρ d u W he hc hdi hd hJ => swp_val (run_move (he.o h10 rfl)) (hJ.pure 6 rfl rfl)
              · exact KStep.plain rfl fun ρ d u W he hc hdi hd hJ => swp_val (run_move (he.o h14 rfl)) (hJ.pure 7 rfl rfl)
              · exact KStep.plain rfl fun ρ d u W he hc hdi hd hJ => swp_val (run_indexAddr (he.i hz (hJ.vals 6 (hd 6 (by kernel_rfl))) (j := 6) (d := 214) rfl (by decide)) (he.i hz (hJ.vals 7 (hd 7 (by kernel_rfl))) (j := 7) (d := 215) rfl (by decide)) (idx_n G10 j 8 c10 j rfl h8 W)) (hJ.pure 8 rfl rfl)
              · exact KStep.plain rfl fun ρ d u W he hc hdi hd hJ => swp_val (run_load (he.i hz (hJ.vals 8 (hd 8 (by kernel_rfl))) (j := 8) (d := 216) rfl (by decide)) (by have hW : W = _ := hJ.at_ 0 rfl (hc.notyet [10, 9] (by kernel_rfl) rfl hdi) (fun j h => by omega); subst hW; exact load_u32 G10 j _ vb HCb.out)) (hJ.pure 9 rfl rfl)
              · exact KStep.plain rfl fun ρ d u W he hc hdi hd hJ => swp_val (run_bin (he.i hz (hJ.vals 5 (hd 5 (by kernel_rfl))) (j := 5) (d := 213) rfl (by decide)) (he.i hz (hJ.vals 9 (hd 9 (by kernel_rfl))) (j := 9) (d := 217) rfl (by decide)) rfl (run_add_u32 _ _ W)) (hJ.pure 10 rfl rfl)
              · exact KStep.plain rfl fun ρ d u W he hc hdi hd hJ => swp_val (run_indexAddr (he.i hz (hJ.vals 0 (hd 0 (by kernel_rfl))) (j := 0) (d := 208) rfl (by decide)) (he.i hz (hJ.vals 1 (hd 1 (by kernel_rfl))) (j := 1) (d := 209) rfl (by decide)) (idx_n G9 j 8 c9 j rfl h8 W)) (hJ.pure 11 rfl rfl)
              · refine KStep.plain rfl fun ρ d u W he hc hdi hd hJ => ?_
                have hW : W = _ := hJ.at_ 0 rfl hdi (fun j h => by omega)
                subst hW
                have c0 := HCa.out
                have f0 := HFa.out
                exact swp_skip (run_store (he.i hz (hJ.vals 11 (hd 11 (by kernel_rfl))) (j := 11) (d := 219) rfl (by decide)) (he.i hz (hJ.vals 10 (hd 10 (by kernel_rfl))) (j := 10) (d := 218) rfl (by decide)) (by go_simp)) (hJ.go 0 rfl hdi (by decide) (fun j h => by omega) trivial rfl)
            · obtain rfl : j = 8 := by omega
              have hm : addK s.l xs.l 8 = (mixS s blk.data.toList).l := by rw [HM.out]; exact addK_all s xs
              rw [hm] at h9
              have HTx := Lib.hid (rtext_is (mixS s blk.data.toList).l G9 c9 wr (World.ownsRow.lt h9 G9 rfl).2 (fun j h => (h9.cell j h).trans (by rw [getD_at _ _ _ h])) (show 8 ≤ 16 by decide))
              have HBw := Lib.hid hbel
              clear h9 h10 hbel hm hJ' hK HK HM HB9
              go_wp2_with fail
              refine HTx.out.mono ?_
              rintro e w4 ⟨rfl, hb4⟩
              have HL4 := Lib.hid (bstep HBw.out hb4)
              clear hb4 HTx HBw
              go_wp2_with fail
              go_ret
              exact ⟨rfl, HL4.out⟩
end Go.Proofs.YtpekbnkmnellpaaDoor
namespace Go.Proofs.YtpekbnkmnellpaaDoor
open Go.RowKit
set_option linter.unusedVariables false

theorem wraps_u32 (n : Int) (h₀ : 0 ≤ n) (h₁ : n < 2 ^ 32) : IntKind.u32.wrap n = n := by rw [IntKind.wrap_u32]; omega
theorem join32 (i : Nat) (x y : Int) (hx₀ : 0 ≤ x) (hx : x % 2 ^ i = 0) (hx₁ : x < 4294967296) (hy₀ : 0 ≤ y) (hy : y < 2 ^ i) (hy₁ : y < 4294967296) : bits .or .u32 x y = x + y :=
  bits_join .u32 32 (by decide) wraps_u32 i x y hx₀ hx (by omega) hy₀ hy (by omega)
theorem wordV_is (a b c d : Int) (ha : 0 ≤ a ∧ a < 256) (hb : 0 ≤ b ∧ b < 256) (hc : 0 ≤ c ∧ c < 256) (hd : 0 ≤ d ∧ d < 256) : wordV a b c d = a * 16777216 + b * 65536 + c * 256 + d := by
  unfold wordV
  rw [show a % 4294967296 * 16777216 % 4294967296 = a * 16777216 by omega, show b % 4294967296 * 65536 % 4294967296 = b * 65536 by omega, show c % 4294967296 * 256 % 4294967296 = c * 256 by omega, show d % 4294967296 = d by omega]
  rw [join32 24 (a * 16777216) (b * 65536) (by omega) (by omega) (by omega) (by omega) (by omega) (by omega)]
  rw [join32 16 (a * 16777216 + b * 65536) (c * 256) (by omega) (by omega) (by omega) (by omega) (by omega) (by omega)]
  rw [join32 8 (a * 16777216 + b * 65536 + c * 256) d (by omega) (by omega) (by omega) (by omega) (by omega) (by omega)]
theorem wordL_w4 (x : Int) (l : List UInt8) (h0 : 0 ≤ x) (h1 : x ≤ 4294967295) : wordL (w4 x ++ l) = x := by
  show wordV ((UInt8.ofNat (x / 16777216 % 256).toNat).toNat : Int) ((UInt8.ofNat (x / 65536 % 256).toNat).toNat : Int) ((UInt8.ofNat (x / 256 % 256).toNat).toNat : Int) ((UInt8.ofNat (x % 256).toNat).toNat : Int) = x
  rw [byte_back _ (by omega) (by omega), byte_back _ (by omega) (by omega), byte_back _ (by omega) (by omega), byte_back _ (by omega) (by omega)]
  rw [wordV_is _ _ _ _ (by omega) (by omega) (by omega) (by omega)]
  omega
theorem words_back (s : St) (h : s.ok) : wordsL (stB s.l) 8 = s.l := by
  obtain ⟨x0, x1, x2, x3, x4, x5, x6, x7⟩ := s
  have q : ∀ x ∈ [x0, x1, x2, x3, x4, x5, x6, x7], 0 ≤ x ∧ x ≤ 4294967295 := h
  have e : stB (St.l ⟨x0, x1, x2, x3, x4, x5, x6, x7⟩) = w4 x0 ++ (w4 x1 ++ (w4 x2 ++ (w4 x3 ++ (w4 x4 ++ (w4 x5 ++ (w4 x6 ++ (w4 x7 ++ []))))))) := rfl
  rw [e]
  simp only [wordsL, Nat.mul_zero, List.drop_zero]
  have d : ∀ (n : Nat) (x : Int) (l : List UInt8), (w4 x ++ l).drop (4 * (n + 1)) = l.drop (4 * n) := fun n x l => by
    rw [show 4 * (n + 1) = 4 + 4 * n by omega, ← List.drop_drop]
    rfl
  rw [show (4 * 7) = 4 * (6 + 1) from rfl, show (4 * 6) = 4 * (5 + 1) from rfl, show (4 * 5) = 4 * (4 + 1) from rfl, show (4 * 4) = 4 * (3 + 1) from rfl, show (4 * 3) = 4 * (2 + 1) from rfl, show (4 * 2) = 4 * (1 + 1) from rfl, show (4 * 1) = 4 * (0 + 1) from rfl]
  simp only [d, Nat.mul_zero, List.drop_zero]
  rw [wordL_w4 x0 _ (q x0 (by simp)).1 (q x0 (by simp)).2, wordL_w4 x1 _ (q x1 (by simp)).1 (q x1 (by simp)).2, wordL_w4 x2 _ (q x2 (by simp)).1 (q x2 (by simp)).2, wordL_w4 x3 _ (q x3 (by simp)).1 (q x3 (by simp)).2, wordL_w4 x4 _ (q x4 (by simp)).1 (q x4 (by simp)).2, wordL_w4 x5 _ (q x5 (by simp)).1 (q x5 (by simp)).2, wordL_w4 x6 _ (q x6 (by simp)).1 (q x6 (by simp)).2, wordL_w4 x7 _ (q x7 (by simp)).1 (q x7 (by simp)).2]
  rfl
def RSumRel (F : St) (t : ByteArray) (w : World) (c : Nat) (v i : Value) (wr : World) : Prop :=
  ∃ (st : St) (m j : Nat), c = m ∧ 64 * j + 64 * m = t.size ∧ v = .string ⟨(stB st.l).toArray⟩ ∧ i = .int .i64 ((64 * j : Nat) : Int) ∧ st.ok ∧ foldB st m (t.data.toList.drop (64 * j)) = F ∧ Below w.heap.size w wr
theorem ext_mid (t : ByteArray) (p : Nat) (h : p + 64 ≤ t.size) : (t.extract p (p + 64)).data.toList = (t.data.toList.drop p).take 64 ∧ (t.extract p (p + 64)).size = 64 := by
  constructor
  · simp [ByteArray.data_extract, Array.toList_extract]
  · rw [ByteArray.size_extract]; omega
set_option maxHeartbeats 2000000 in
theorem rsum_is (s : ByteArray) (w : World) (G : GlobR w) (hs : s.size ≤ 140737488355328) :
    Calls Tryd.prog 102 #[.string s] w fun e w' => e = .returned (.string (sumB s)) ∧ Below w.heap.size w w' := by
  have HG := Lib.hid G
  clear G
  have hpl := padL_len s.size
  go_enter Tryd.func102, Tryd.ntmps102
  go_wp2_with fail
  refine (first_is w HG.out).mono ?_
  rintro e w1 ⟨rfl, hb1⟩
  have HL1 := Lib.hid hb1
  clear hb1
  go_wp2_with fail
  refine (rpad_is s.size hs w1).mono ?_
  rintro e w2 ⟨rfl, hb2⟩
  have HL2 := Lib.hid (bstep HL1.out hb2)
  clear hb2 HL1
  have HW := Lib.hid (pad_whole s.size)
  obtain ⟨t, ht⟩ : ∃ t : ByteArray, s ++ ⟨(padL s.size).toArray⟩ = t := ⟨_, rfl⟩
  have hts : t.size = s.size + (padL s.size).length := by rw [← ht, ByteArray.size_append]; congr 1
  have htd : t.data.toList = s.data.toList ++ padL s.size := by rw [← ht]; simp
  have HF : Hid (sumB s = ⟨(stB (foldB firstS (t.size / 64) (t.data.toList.drop (64 * 0))).l).toArray⟩) := Lib.hid (by rw [hts, htd]; unfold sumB sumL; rw [len_data]; rfl)
  obtain ⟨F, hF⟩ : ∃ F, foldB firstS (t.size / 64) (t.data.toList.drop (64 * 0)) = F := ⟨_, rfl⟩
  rw [hF] at HF
  have hlen : (padL s.size).length ≤ 72 := by omega
  have HSt : Hid (RSumRel F t w (t.size / 64) (.string ⟨(stB firstS.l).toArray⟩) (.int .i64 0) w2) := Lib.hid ⟨firstS, t.size / 64, 0, rfl, by have := HW.out; rw [hts]; omega, rfl, rfl, firstS_ok, hF, HL2.out⟩
  have hbig : t.size ≤ 140737488355400 := by omega
  clear hF HL2 htd hts
  go_wp2_with fail
  try rw [ht]
  clear ht hlen hpl HW
  go_loopg [3, 5] (t.size / 64) (fun c v i wr => RSumRel F t w c v i wr)
  case atStart => exact HSt.out
  case round =>
    clear HSt
    obtain ⟨st, m, j, hc, hm, rfl, rfl, hok, hfo, hbel⟩ := hrel
    have HC := Lib.hid hc
    have HM := Lib.hid hm
    have HOK := Lib.hid hok
    have HFO := Lib.hid hfo
    have HL := Lib.hid hbel
    obtain ⟨p, hp⟩ : ∃ p, 64 * j = p := ⟨_, rfl⟩
    rw [hp]
    have HP := Lib.hid hp
    have hpb : p ≤ 140737488355400 := by omega
    obtain ⟨S, hS⟩ : ∃ S : ByteArray, ⟨(stB st.l).toArray⟩ = S := ⟨_, rfl⟩
    rw [hS]
    cases m with
    | zero =>
      have hn : ¬ (p : Int) + 64 ≤ (t.size : Int) := by omega
      have hFs : Hid (sumB s = S) := Lib.hid (by rw [HF.out, ← hfo, ← hS]; rfl)
      clear hS hc hm hok hfo hbel hp HM HFO HF
      go_wp2_with fail
      go_ret
      exact ⟨by rw [hFs.out]; rfl, HL.out⟩
    | succ m =>
      have hle : (p : Int) + 64 ≤ (t.size : Int) := by omega
      have HE := Lib.hid (ext_mid t p (by omega))
      have HB := Lib.hid (rblock_is ⟨(stB st.l).toArray⟩ (t.extract p (p + 64)) st wr (HG.out.below hbel HG.out.four) (show (stB st.l).toArray.size = 32 by rw [List.size_toArray, stB_l]) HE.out.2 (words_back st hok))
      rw [hS] at HB
      obtain ⟨S2, hS2⟩ : ∃ S2 : ByteArray, ⟨(stB (mixS st (t.extract p (p + 64)).data.toList).l).toArray⟩ = S2 := ⟨_, rfl⟩
      rw [hS2] at HB
      have HS2 := Lib.hid hS2
      have q64 : ((p : Int) + 64).toNat = p + 64 := by omega
      clear hc hm hok hfo hbel hp hS hS2
      go_wp2_with fail
      refine HB.out.mono ?_
      rintro e w3 ⟨rfl, hb3⟩
      have HR : Hid (RSumRel F t w m (.string S2) (.int .i64 ((p : Int) + 64)) w3) := Lib.hid ⟨mixS st (t.extract p (p + 64)).data.toList, m, j + 1, rfl, by have := HM.out; omega, by rw [HS2.out], by congr 1; have := HP.out; omega, mixS_ok _ _, by
        rw [HE.out.1, ← HFO.out, ← HP.out, show 64 * (j + 1) = 64 * j + 64 by omega, ← List.drop_drop]
        rfl, bstep HL.out hb3⟩
      clear hb3 HB
      go_wp2_with fail
      go_roundg m
      case measure => rw [HC.out]; omega
      case rel => exact HR.out
set_option maxHeartbeats 1000000 in
theorem rtag_is (c : UInt8) (ss : List ByteArray) (g cap : Nat) (w : World) (G : GlobR w) (hg : g < w.heap.size) (hc : ∀ j (h : j < ss.length), w.cell? ⟨g, j, none⟩ = some (.string ss[j])) (hn : ss.length ≤ 16) (hN : (inpL c ss).length ≤ 140737488355328) :
    Calls Tryd.prog 90 #[.int .u8 (c.toNat : Int), .slice (some ⟨g, 0, none⟩) ss.length cap] w fun e w' => e = .returned (.string (sumB ⟨(inpL c ss).toArray⟩)) ∧ Below w.heap.size w w' := by
  have HG := Lib.hid G
  have HC := Lib.hid hc
  clear G hc
  go_enter Tryd.func90, Tryd.ntmps90
  go_wp2_with fail
  refine (rinput_is c ss g cap w hg HC.out hn hN).mono ?_
  rintro e w1 ⟨rfl, hb1⟩
  have HL1 := Lib.hid hb1
  clear hb1
  go_wp2_with fail
  refine (rsum_is _ w1 (HG.out.below HL1.out HG.out.four) (by simpa [ByteArray.size] using hN)).mono ?_
  rintro e w2 ⟨rfl, hb2⟩
  have HL2 := Lib.hid (bstep HL1.out hb2)
  clear hb2
  go_wp2_with fail
  go_ret
  exact ⟨rfl, HL2.out⟩
end Go.Proofs.YtpekbnkmnellpaaDoor
