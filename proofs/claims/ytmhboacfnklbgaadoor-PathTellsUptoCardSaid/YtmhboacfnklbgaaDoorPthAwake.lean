/-
  Chapter 4's examples; a raw path made right (Fit); Print and Parse at answers that are known by a name.
-/
import Derived.Test.YtmhboacfnklbgaaDoorPthPP
import Derived.OpenShut
namespace Go.Proofs.YtmhboacfnklbgaaDoor
open Go.RowKit
set_option linter.unusedVariables false

theorem bcell {W w1 : World} (hb : Below W.heap.size W w1) : (∀ b o, b < W.heap.size → w1.cell? ⟨b, o, none⟩ = W.cell? ⟨b, o, none⟩) ∧ (∀ b o, b < W.heap.size → w1.frozen? ⟨b, o, none⟩ = W.frozen? ⟨b, o, none⟩) :=
  ⟨fun b o h => hb.cell (p := ⟨b, o, none⟩) h, fun b o h => hb.frozen (p := ⟨b, o, none⟩) h⟩

theorem bstep {w W w1 : World} (h : Below w.heap.size w W) (h1 : Below W.heap.size W w1) : Below w.heap.size w w1 := h.trans (h1.mono h.size)
theorem balloc {w W : World} (h : Below w.heap.size w W) (o : Obj) : Below w.heap.size w (W.alloc o) := h.alloc h.size o

theorem pprint_text (k a b : Nat) (h : Pth.Right k a b) (w : World) (G : Glob w) :
    Calls Tryd.prog 10 #[.agg #[.int .i64 k, .int .u64 a, .int .u64 b]] w fun e w' => e = .returned (.tuple #[.string ⟨(Pth.text k a b).toArray⟩, .int .i64 0]) ∧ Below w.heap.size w w' := by
  obtain ⟨h1, h8, ha, hb, hz⟩ := h
  refine (pprint_good k a b w h1 h8 (by omega) (by omega) (by omega) (by omega) G).mono fun e w' ⟨he, hw⟩ => ⟨?_, hw⟩
  rcases he with ⟨_, he⟩ | ⟨hn, _⟩
  · rw [he]; rfl
  · exfalso
    rcases ht : (Pth.fm k).2.2 with _ | _
    · exact hn (.inr (by rw [hz ht]; rfl))
    · exact hn (.inl ht)
theorem pprint_no (k : Int) (a b : Int) (a0 : 0 ≤ a) (a1 : a ≤ 18446744073709551615) (b0 : 0 ≤ b) (b1 : b ≤ 18446744073709551615) (h : ¬ Pth.Right k.toNat a.toNat b.toNat ∨ k < 0) (w : World) (G : Glob w) :
    Calls Tryd.prog 10 #[.agg #[.int .i64 k, .int .u64 a, .int .u64 b]] w fun e w' => e = .returned (.tuple #[.string ⟨#[]⟩, .int .i64 40]) ∧ Below w.heap.size w w' := by
  by_cases hk : k < 1 ∨ 8 < k
  · exact pprint_bad k a b w hk
  · obtain ⟨n, rfl⟩ := Int.eq_ofNat_of_zero_le (show 0 ≤ k by omega)
    refine (pprint_good n a b w (by omega) (by omega) a0 a1 b0 b1 G).mono fun e w' ⟨he, hw⟩ => ⟨?_, hw⟩
    rcases he with ⟨hy, _⟩ | ⟨_, he⟩
    · exfalso
      rcases h with h | h
      · refine h ⟨by omega, by omega, by omega, by omega, fun hf => ?_⟩
        rcases hy with hy | hy
        · rw [Int.toNat_natCast] at hf; rw [hf] at hy; cases hy
        · omega
      · omega
    · exact he
theorem pparse_text (k a b : Nat) (h : Pth.Right k a b) (s : ByteArray) (hs : s.data.toList = Pth.text k a b) (w : World) (G : Glob w) :
    Calls Tryd.prog 12 #[.string s] w fun e w' => e = .returned (.tuple #[.agg #[.int .i64 k, .int .u64 a, .int .u64 b], .int .i64 0]) ∧ Below w.heap.size w w' := by
  have hl := Pth.text_len h
  refine (pparse s w (by rw [← len_data, hs]; omega) G).mono fun e w' ⟨he, hw⟩ => ⟨?_, hw⟩
  have hp := Pth.parseP_text h
  rw [hs] at he
  rcases he with ⟨k', a', b', h1, he⟩ | ⟨h1, _⟩
  · rw [hp] at h1
    simp only [Option.some.injEq, Prod.mk.injEq] at h1
    obtain ⟨rfl, rfl, rfl⟩ := h1
    exact he
  · rw [hp] at h1; cases h1
theorem pparse_none (s : ByteArray) (hs : s.size < 4294967281) (h : Pth.parseP s.data.toList = none) (w : World) (G : Glob w) :
    Calls Tryd.prog 12 #[.string s] w fun e w' => e = .returned (.tuple #[.agg #[.int .i64 0, .int .u64 0, .int .u64 0], .int .i64 40]) ∧ Below w.heap.size w w' := by
  refine (pparse s w hs G).mono fun e w' ⟨he, hw⟩ => ⟨?_, hw⟩
  rcases he with ⟨k', a', b', h1, he⟩ | ⟨_, he⟩
  · rw [h] at h1; cases h1
  · exact he

/-- which of n things a raw number speaks of -/
def pickN (c : Int) (n : Nat) : Nat := ((if c < 0 then -(c + 1) else c) % n).toNat
theorem pick_is (c : Int) (n : Nat) (h0 : -9223372036854775808 ≤ c) (h1 : c ≤ 9223372036854775807) (hn : 1 ≤ n) (hm : n ≤ 1000000) (w : World) :
    Calls Tryd.prog 15 #[.int .i64 c, .int .i64 n] w fun e w' => e = .returned (.int .i64 (pickN c n)) ∧ w = w' := by
  have hz : ((n : Int) == 0) = false := by rw [beq_eq_false_iff_ne]; omega
  by_cases hc : c < 0
  · have hr : Hid (((pickN c n : Nat) : Int) = -(c + 1).tmod n) := Lib.hid (by
      unfold pickN
      rw [if_pos hc, Int.toNat_of_nonneg (Int.emod_nonneg _ (by omega)), ← Int.neg_tmod, Int.tmod_eq_emod_of_nonneg (by omega)])
    go_enter Tryd.func15, Tryd.ntmps15
    go_wp2
    go_ret
    exact ⟨by rw [hr.out]; rfl, rfl⟩
  · have hc' : 0 ≤ c := by omega
    have hr : Hid (((pickN c n : Nat) : Int) = c % n) := Lib.hid (by unfold pickN; rw [if_neg hc, Int.toNat_of_nonneg (Int.emod_nonneg _ (by omega))])
    go_enter Tryd.func15, Tryd.ntmps15
    go_wp2
    go_ret
    exact ⟨by rw [hr.out]; rfl, rfl⟩
theorem pickN_lt (c : Int) (n : Nat) (hn : 1 ≤ n) : pickN c n < n := by
  unfold pickN
  have h1 := Int.emod_lt_of_pos (if c < 0 then -(c + 1) else c) (show (0 : Int) < n by omega)
  have h2 := Int.emod_nonneg (if c < 0 then -(c + 1) else c) (show (n : Int) ≠ 0 by omega)
  omega

/-- the second number, where its kind has one -/
def fitB (k : Nat) (b : Nat) : Nat := if (Pth.fm k).2.2 then b else 0
theorem fit_right (c : Int) (a b : Nat) (ha : a < 18446744073709551616) (hb : b < 18446744073709551616) : Pth.Right (1 + pickN c 8) a (fitB (1 + pickN c 8) b) := by
  have := pickN_lt c 8 (by omega)
  refine ⟨by omega, by omega, ha, ?_, fun h => by unfold fitB; rw [h]; rfl⟩
  unfold fitB; split <;> omega

set_option maxHeartbeats 1000000 in
theorem fit_is (c : Int) (a b : Nat) (h0 : -9223372036854775808 ≤ c) (h1 : c ≤ 9223372036854775807) (w : World) :
    Calls Tryd.prog 14 #[.agg #[.int .i64 c, .int .u64 a, .int .u64 b]] w fun e w' => e = .returned (.agg #[.int .i64 ((1 + pickN c 8 : Nat) : Int), .int .u64 a, .int .u64 (fitB (1 + pickN c 8) b : Nat)]) ∧ Below w.heap.size w w' := by
  have hlt := pickN_lt c 8 (by omega)
  obtain ⟨p, hp⟩ : ∃ p, pickN c 8 = p := ⟨_, rfl⟩
  have hpk := fun W => pick_is c 8 h0 h1 (by omega) (by omega) W
  rw [hp] at hlt hpk
  simp only [hp]
  have HPK := Lib.hid hpk
  clear hpk hp
  go_enter Tryd.func14, Tryd.ntmps14
  go_upto_region 1 with fail
  have q1 : IntKind.i64.wrap (1 + (p : Int)) = 1 + p := by rw [IntKind.wrap_i64]; omega
  go_cut [3] (fun s3 wx => s3 = .pointer (some ⟨w.heap.size + 2, 0, none⟩) ∧ wx = (((w.alloc (.cells #[.int .i64 c, .int .u64 a, .int .u64 b] 24)).alloc (.cells #[.int .i64 0, .int .u64 0, .int .u64 0] 24)).alloc (.cells #[.int .i64 (1 + p), .int .u64 a, .int .u64 0] 24)).drew)
  case first =>
    go_region_with (first
      | (go_at_call 15; refine (HPK.out _).mono ?_; rintro e w2 ⟨rfl, rfl⟩))
    all_goals clear q1
    all_goals go_wp2_with fail
    all_goals go_meet
    all_goals exact ⟨rfl, rfl⟩
  case rest =>
    obtain ⟨rfl, rfl⟩ := hcut
    clear q1
    have hc : p = 0 ∨ p = 1 ∨ p = 2 ∨ p = 3 ∨ p = 4 ∨ p = 5 ∨ p = 6 ∨ p = 7 := by omega
    have hbel : ∀ o1 o2 o3 : Obj, Below w.heap.size w (((w.alloc o1).alloc o2).alloc o3).drew := fun o1 o2 o3 => Below.drew ((((Below.refl _ _).alloc (Nat.le_refl _) _).alloc (by simp) _).alloc (by simp; omega) _)
    have HBL := Lib.hid hbel
    clear hbel
    rcases hc with rfl | rfl | rfl | rfl | rfl | rfl | rfl | rfl
    all_goals go_wp2_with fail
    · refine bodyPost_ret (v := .agg #[.int .i64 1, .int .u64 a, .int .u64 0]) (by simp [results, Tryd.results14, go_sem]) rfl ⟨rfl, HBL.out _ _ _⟩
    · refine bodyPost_ret (v := .agg #[.int .i64 2, .int .u64 a, .int .u64 (b : Int)]) (by simp [results, Tryd.results14, go_sem]) rfl ⟨rfl, HBL.out _ _ _⟩
    · refine bodyPost_ret (v := .agg #[.int .i64 3, .int .u64 a, .int .u64 0]) (by simp [results, Tryd.results14, go_sem]) rfl ⟨rfl, HBL.out _ _ _⟩
    · refine bodyPost_ret (v := .agg #[.int .i64 4, .int .u64 a, .int .u64 0]) (by simp [results, Tryd.results14, go_sem]) rfl ⟨rfl, HBL.out _ _ _⟩
    · refine bodyPost_ret (v := .agg #[.int .i64 5, .int .u64 a, .int .u64 (b : Int)]) (by simp [results, Tryd.results14, go_sem]) rfl ⟨rfl, HBL.out _ _ _⟩
    · refine bodyPost_ret (v := .agg #[.int .i64 6, .int .u64 a, .int .u64 (b : Int)]) (by simp [results, Tryd.results14, go_sem]) rfl ⟨rfl, HBL.out _ _ _⟩
    · refine bodyPost_ret (v := .agg #[.int .i64 7, .int .u64 a, .int .u64 (b : Int)]) (by simp [results, Tryd.results14, go_sem]) rfl ⟨rfl, HBL.out _ _ _⟩
    · refine bodyPost_ret (v := .agg #[.int .i64 8, .int .u64 a, .int .u64 0]) (by simp [results, Tryd.results14, go_sem]) rfl ⟨rfl, HBL.out _ _ _⟩

theorem t537 : Pth.text 5 3 7 = [99, 111, 109, 109, 105, 116, 109, 101, 110, 116, 115, 47, 99, 104, 97, 110, 110, 101, 108, 115, 47, 51, 47, 115, 101, 113, 117, 101, 110, 99, 101, 115, 47, 55] := by decide
theorem r537 : Pth.Right 5 3 7 := by refine ⟨by omega, by omega, by omega, by omega, fun h => ?_⟩; cases h
theorem pc03 : Pth.parseP [99, 111, 110, 110, 101, 99, 116, 105, 111, 110, 115, 47, 48, 51] = none := by decide +kernel

set_option maxHeartbeats 1000000 in
theorem awake_ok (w : World) (G : Glob w) : Calls Tryd.prog 9 #[] w fun e w' => e = .returned (.bool true) ∧ Below w.heap.size w w' := by
  have HG := Lib.hid G
  have c1 := fun W g => pprint_text 5 3 7 r537 W g
  rw [t537] at c1
  have C1 := Lib.hid c1
  clear c1 G
  go_enter Tryd.func9, Tryd.ntmps9
  go_wp2_with fail
  refine (C1.out _ HG.out).mono ?_
  rintro e w1 ⟨rfl, hb1⟩
  have G1 := Lib.hid (HG.out.below hb1)
  go_wp2_with fail
  refine (pparse_none _ (by decide) pc03 _ G1.out).mono ?_
  rintro e w2 ⟨rfl, hb2⟩
  have G2 := Lib.hid (G1.out.below hb2)
  go_wp2_with fail
  refine (pparse_text 5 3 7 r537 _ (by rw [t537]) _ (G2.out.below ((Below.refl _ _).alloc (Nat.le_refl _) _))).mono ?_
  rintro e w3 ⟨rfl, hb3⟩
  go_wp2_with fail
  go_ret
  exact ⟨rfl, balloc (bstep (balloc (bstep hb1 hb2) _) hb3) _⟩
end Go.Proofs.YtmhboacfnklbgaaDoor
