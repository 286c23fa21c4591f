/-
  Chapter 9's example: the walk of voussoirlaw09.awake (printed by gen_stoi.py).
-/
import Derived.Test.YtichklplcpkjdaaDoorStoH
namespace Go.Proofs.YtichklplcpkjdaaDoor
open Go.RowKit Go.Sort
set_option linter.unusedVariables false

/-- one call that turns the store -/
def sgS (W0 : World) (B : World → Prop) (m : Nat) (vs : List Value) (W : World) : Prop := match m with
  | 0 => Below W0.heap.size W0 W
  | 1 => B W
  | _ => False
theorem sgS_le {W0 : World} {B : World → Prop} (m : Nat) (vs : List Value) (W : World) (h : sgS W0 B m vs W) : m ≤ 1 := by
  rcases m with _ | _ | m
  · omega
  · omega
  · exact absurd h id
theorem sgS_lt {W0 : World} {B : World → Prop} (m : Nat) (vs : List Value) (W : World) (hm : m < 1) (h : sgS W0 B m vs W) : Below W0.heap.size W0 W := by
  rcases m with _ | m
  · exact h
  · omega
theorem ld_pa {g : Nat} {k a b : Int} {W : World} (h : Blk W g 25 #[.int .i64 k, .int .u64 a, .int .u64 b]) : (Instr.loadAt 25 (.pointer (some ⟨g, 0, none⟩))).run Tryd.prog W = .ok (.agg #[.int .i64 k, .int .u64 a, .int .u64 b]) W := by
  have c0 := h.cell 0
  have c1 := h.cell 1
  have c2 := h.cell 2
  go_simp
theorem get_st {w : World} {Z : Nat → Prop} {s t n : Nat} {f : PM} {l : List PM} (h : StAt w Z s t n f l) {p : Pa} (hp : p.ok) :
    Calls Tryd.prog 14 #[.agg #[ptr t], p.v] w fun e w' => e = .returned (.tuple #[.string (valF f p), .bool (hasF f p)]) ∧ Below w.heap.size w w' := by
  obtain ⟨b, hT⟩ := h.now
  exact sget_is p hp t b n f w h.glob h.forms hT
theorem root_one (K : List UInt8) (hK : K.length = 32) (v : ByteArray) : rootP (updP (fun _ => none) K (some v)) = leafB ⟨K.toArray⟩ v := by
  have hk : KeysOf (updP (fun _ => none) K (some v)) [⟨K, hK⟩] := by
    refine ⟨by simp, fun p => ?_⟩
    by_cases e : p.1 = K
    · rw [e, updP_at]
      simp [Subtype.ext_iff, e]
    · rw [updP_ne _ _ e]
      simp [Subtype.ext_iff, e]
  rw [rootP_is hk]
  have hs : sortPl [(⟨K, hK⟩ : Pl)] = [⟨K, hK⟩] := by
    have h1 := List.mergeSort_perm [(⟨K, hK⟩ : Pl)] (fun x y => !(ltOf cfP) y x)
    exact List.perm_singleton.1 h1
  rw [hs, hashP_one, updP_at]
  rfl
def awV5 (s t pb qk qa qb : Nat) (i : Nat) (v : Value) : Prop := match i with
  | 0 => v = .pointer (some ⟨s, 0, none⟩)
  | 1 => v = .pointer (some ⟨s, 0, none⟩)
  | 2 => v = .pointer (some ⟨s, 0, none⟩)
  | 3 => v = .agg #[ptr t]
  | 4 => v = .agg #[.int .i64 (qk : Int), .int .u64 (qa : Int), .int .u64 (qb : Int)]
  | 5 => v = .int .i64 0
  | 6 => v = .int .i64 0
  | _ => True
def awV7 (s t pb qk qa qb : Nat) (i : Nat) (v : Value) : Prop := match i with
  | 0 => v = .pointer (some ⟨s, 0, none⟩)
  | 1 => v = .pointer (some ⟨s, 0, none⟩)
  | 2 => v = .pointer (some ⟨s, 0, none⟩)
  | 3 => v = .agg #[ptr t]
  | 4 => v = .agg #[.int .i64 (qk : Int), .int .u64 (qa : Int), .int .u64 (qb : Int)]
  | 5 => v = .int .i64 0
  | _ => True
def awV9 (s t pb qk qa qb : Nat) (va : ByteArray) (ha : Bool) (i : Nat) (v : Value) : Prop := match i with
  | 0 => v = .pointer (some ⟨s, 0, none⟩)
  | 1 => v = .pointer (some ⟨s, 0, none⟩)
  | 2 => v = .pointer (some ⟨s, 0, none⟩)
  | 3 => v = .agg #[ptr t]
  | 4 => v = .agg #[.int .i64 (qk : Int), .int .u64 (qa : Int), .int .u64 (qb : Int)]
  | 5 => v = .tuple #[.string va, .bool ha]
  | 6 => v = .tuple #[.string va, .bool ha]
  | 7 => v = .string va
  | 8 => v = .bool ha
  | 9 => v = .string va
  | 10 => v = .bool ha
  | _ => True
def awV11 (s t pb qk qa qb : Nat) (va : ByteArray) (ha : Bool) (i : Nat) (v : Value) : Prop := match i with
  | 0 => v = .pointer (some ⟨s, 0, none⟩)
  | 1 => v = .pointer (some ⟨s, 0, none⟩)
  | 2 => v = .pointer (some ⟨s, 0, none⟩)
  | 3 => v = .agg #[ptr t]
  | 4 => v = .agg #[.int .i64 (qk : Int), .int .u64 (qa : Int), .int .u64 (qb : Int)]
  | 5 => v = .tuple #[.string va, .bool ha]
  | 6 => v = .tuple #[.string va, .bool ha]
  | 7 => v = .string va
  | 8 => v = .bool ha
  | 9 => v = .string va
  | 10 => v = .bool ha
  | _ => True
theorem key300 : Pa.key ⟨3, 0, 0⟩ = ⟨#[99, 111, 110, 110, 101, 99, 116, 105, 111, 110, 115, 47, 48]⟩ := by
  have : Pth.text 3 0 0 = [99, 111, 110, 110, 101, 99, 116, 105, 111, 110, 115, 47, 48] := by decide
  unfold Pa.key
  rw [this]
theorem ok300 : Pa.ok ⟨3, 0, 0⟩ := ⟨by decide, by decide, by decide, by decide, fun _ => rfl⟩
set_option maxRecDepth 100000 in
set_option maxHeartbeats 8000000 in
theorem awake_is (w : World) (G : Glob w) (F : FormsAt w) :
    Calls Tryd.prog 7 #[] w fun e w' => e = .returned (.bool true) ∧ Below w.heap.size w w' := by
  obtain ⟨f0, hf0⟩ : ∃ f0 : PM, f0 = fun _ => none := ⟨_, rfl⟩
  obtain ⟨f1, hf1⟩ : ∃ f1 : PM, f1 = updP f0 (pathP (Pa.key ⟨3, 0, 0⟩)) (some ⟨#[120]⟩) := ⟨_, rfl⟩
  obtain ⟨f2, hf2⟩ : ∃ f2 : PM, f2 = updP f1 (pathP (Pa.key ⟨3, 0, 0⟩)) (some ⟨#[121]⟩) := ⟨_, rfl⟩
  obtain ⟨K, hK⟩ : ∃ K, pathP (Pa.key ⟨3, 0, 0⟩) = K := ⟨_, rfl⟩
  have hKl : K.length = 32 := hK ▸ pathP_len _
  have HV1 : Hid (valF f1 ⟨3, 0, 0⟩ = ⟨#[120]⟩ ∧ hasF f1 ⟨3, 0, 0⟩ = true) := Lib.hid (by unfold valF hasF; rw [hf1, updP_at]; exact ⟨rfl, rfl⟩)
  have HV2 : Hid (valF f2 ⟨3, 0, 0⟩ = ⟨#[121]⟩ ∧ hasF f2 ⟨3, 0, 0⟩ = true) := Lib.hid (by unfold valF hasF; rw [hf2, updP_at]; exact ⟨rfl, rfl⟩)
  have HRt : Hid (rootP f1 = leafB ⟨K.toArray⟩ ⟨#[120]⟩) := Lib.hid (by rw [hf1, hf0, hK]; exact root_one K hKl _)
  have HF0 := Lib.hid hf0
  have HF1 := Lib.hid hf1
  have HF2 := Lib.hid hf2
  have HLf := Lib.hid (fun (W : World) (g : Glob W) => tleaf_is ⟨K.toArray⟩ ⟨#[120]⟩ W g (by simp [ByteArray.size, hKl]))
  have HPh : Hid (∀ W, Glob W → Calls Tryd.prog 24 #[.string ⟨#[99, 111, 110, 110, 101, 99, 116, 105, 111, 110, 115, 47, 48]⟩] W fun e w' => e = .returned (.string ⟨K.toArray⟩) ∧ Below W.heap.size W w') := Lib.hid (fun W g => by
    have := tpath_is (Pa.key ⟨3, 0, 0⟩) W g (by have := Pa.key_size ok300; omega)
    rw [hK, key300] at this
    exact this)
  have HN := Lib.hid (new_is w G F (fun i => i < w.heap.size) (fun i hi => hi) (fun i hi => Nat.lt_of_lt_of_le hi G.two))
  have HG2 := Lib.hid G.two
  clear hf0 hf1 hf2 hK hKl G F
  go_enter Tryd.func7, Tryd.ntmps7
  go_wp2_with fail
  refine HN.out.mono ?_
  rintro e w1 ⟨s, t, rfl, hs1, hb1⟩
  rw [← HF0.out] at hs1
  have HS1 := Lib.hid hs1
  have HB1 := Lib.hid hb1
  have HH1 := Lib.hid (height_is _ s t 0 f0 [f0] w1 hs1 (by simp))
  clear hs1 hb1 HN
  go_wp2_with fail
  refine HH1.out.mono ?_
  rintro e w1' ⟨rfl, rfl⟩
  go_upto_region 5 with fail
  obtain ⟨pb, hpb⟩ : ∃ pb, w1.heap.size = pb := ⟨_, rfl⟩
  have hl1 := balloc (Below.refl _ w1) (.cells #[.int .i64 3, .int .u64 0, .int .u64 0] 25)
  have hP1 := Blk.new w1 25 #[.int .i64 3, .int .u64 0, .int .u64 0]
  have hS2 : StAt (w1.alloc (.cells #[.int .i64 3, .int .u64 0, .int .u64 0] 25)) (fun i => i < w.heap.size ∨ i = pb) s t 0 f0 [f0] := HS1.out.pin hl1 (fun i hi => by
    have h1 := HB1.out.size
    simp only [World.size_alloc] at *
    omega) (fun i hi => .inl (Nat.lt_of_lt_of_le hi HG2.out))
  have hk1 : Below w.heap.size w (w1.alloc (.cells #[.int .i64 3, .int .u64 0, .int .u64 0] 25)) := bstep HB1.out hl1
  change Code.wp _ _ _ _ (w1.alloc (.cells #[.int .i64 3, .int .u64 0, .int .u64 0] 25))
  rw [hpb] at hP1 ⊢
  clear hl1 HH1 HS1 HB1 hpb
  generalize w1.alloc (.cells #[.int .i64 3, .int .u64 0, .int .u64 0] 25) = W0 at hP1 hS2 hk1 ⊢
  clear w1
  have HS := Lib.hid hS2
  have HK := Lib.hid (Kp.refl (fun i => i < w.heap.size ∨ i = pb) W0)
  have HP := Lib.hid hP1
  have HK0 := Lib.hid hk1
  clear hS2 hP1 hk1
  have HSt := Lib.hid (HS.out.below (Below.refl _ W0).drew)
  have HPb : Hid (Blk W0.drew pb 25 #[.int .i64 ((3 : Nat) : Int), .int .u64 ((0 : Nat) : Int), .int .u64 ((0 : Nat) : Int)]) := Lib.hid (HK.out.blk (.inr rfl) HP.out)
  have HOp : Hid (∀ W, Below W0.drew.heap.size W0.drew W → Calls Tryd.prog 19 #[.agg #[ptr t], .agg #[.int .i64 ((3 : Nat) : Int), .int .u64 ((0 : Nat) : Int), .int .u64 ((0 : Nat) : Int)], .string ⟨#[120]⟩] W fun e w' => e = .returned (.int .i64 0) ∧ (fun W => StAt W (fun i => i < w.heap.size ∨ i = pb) s t 1 f1 [f0] ∧ Kp (fun i => i < w.heap.size ∨ i = pb) W0 W) w') := Lib.hid (fun W hb => (HF1.out ▸ sset_is ⟨3, 0, 0⟩ ok300 ⟨#[120]⟩ (by decide) _ s t 0 (by decide) f0 [f0] W (HSt.out.below hb)).mono fun e w' h => ⟨h.1, h.2.1, HK.out.trans ((Kp.of_below (bstep (Below.refl _ W0).drew hb) HS.out.zlt).trans h.2.2)⟩)
  refine wp_abs fun a0 hA => ?_
  have h1 : a0.eval (.tmp 1) = .pointer (some ⟨s, 0, none⟩) := by rw [hA]; rfl
  have h2 : a0.eval (.tmp 2) = .pointer (some ⟨pb, 0, none⟩) := by rw [hA]; rfl
  have hz : a0.tmps.size = 95 := by rw [hA]; rfl
  refine wp_region_K [some 22, some 23, some 24, some 25, some 26, some 27, some 3] 95 (CJ (awV5 s t pb 3 0 0) (fun _ _ => True) [5] (sgS W0.drew (fun W => StAt W (fun i => i < w.heap.size ∨ i = pb) s t 1 f1 [f0] ∧ Kp (fun i => i < w.heap.size ∨ i = pb) W0 W))) (by kernel_rfl) (by kernel_rfl) (by kernel_rfl) rfl (by kernel_rfl) hz (CJ.start (fun i => trivial) (Below.refl _ _)) ?_ ⟨?_, ?_, ?_, ?_, ?_, ?_, ?_, trivial⟩
  · intro d ua Wa hd hJ
    have HB : Hid ((fun W => StAt W (fun i => i < w.heap.size ∨ i = pb) s t 1 f1 [f0] ∧ Kp (fun i => i < w.heap.size ∨ i = pb) W0 W) Wa) := Lib.hid (show sgS W0.drew (fun W => StAt W (fun i => i < w.heap.size ∨ i = pb) s t 1 f1 [f0] ∧ Kp (fun i => i < w.heap.size ∨ i = pb) W0 W) 1 _ Wa from hJ.fin 1 rfl (fun k hk => by simp at hk; subst hk; exact hd _ (by decide)) sgS_le)
    have e6 : ua 6 = .int .i64 0 := hJ.vals 6 (hd 6 (by decide))
    rw [hA]
    simp only [putAll, Act.put, List.setIfInBounds_toArray, List.set_cons_zero, List.set_cons_succ]
    clear hJ hd h1 h2 hz hA
    clear a0
    rw [e6]
    clear e6
    clear HOp HSt HPb
    clear HS HK
    have HS := Lib.hid HB.out.1
    have HK := Lib.hid HB.out.2
    clear HB
    have HC := Lib.hid (commit_is _ s t 1 (by decide) f1 [f0] _ HS.out (by simp))
    go_wp2_with fail
    refine HC.out.mono ?_
    rintro e w4 ⟨rfl, hs4, hk4⟩
    have HS1 := Lib.hid hs4
    have HK1 := Lib.hid (HK.out.trans hk4)
    clear hs4 hk4 HS HK HC
    have HS := HS1
    have HK := HK1
    clear HS1 HK1
    go_upto_region 7 with fail
    have HSt := Lib.hid (HS.out.below (Below.refl _ w4).drew)
    have HPb : Hid (Blk w4.drew pb 25 #[.int .i64 ((3 : Nat) : Int), .int .u64 ((0 : Nat) : Int), .int .u64 ((0 : Nat) : Int)]) := Lib.hid (HK.out.blk (.inr rfl) HP.out)
    have HOp : Hid (∀ W, Below w4.drew.heap.size w4.drew W → Calls Tryd.prog 19 #[.agg #[ptr t], .agg #[.int .i64 ((3 : Nat) : Int), .int .u64 ((0 : Nat) : Int), .int .u64 ((0 : Nat) : Int)], .string ⟨#[121]⟩] W fun e w' => e = .returned (.int .i64 0) ∧ (fun W => StAt W (fun i => i < w.heap.size ∨ i = pb) s t 2 f2 [f0, f1] ∧ Kp (fun i => i < w.heap.size ∨ i = pb) W0 W) w') := Lib.hid (fun W hb => (HF2.out ▸ sset_is ⟨3, 0, 0⟩ ok300 ⟨#[121]⟩ (by decide) _ s t 1 (by decide) f1 [f0, f1] W (HSt.out.below hb)).mono fun e w' h => ⟨h.1, h.2.1, HK.out.trans ((Kp.of_below (bstep (Below.refl _ w4).drew hb) HS.out.zlt).trans h.2.2)⟩)
    refine wp_abs fun a0 hA => ?_
    have h1 : a0.eval (.tmp 1) = .pointer (some ⟨s, 0, none⟩) := by rw [hA]; rfl
    have h2 : a0.eval (.tmp 2) = .pointer (some ⟨pb, 0, none⟩) := by rw [hA]; rfl
    have hz : a0.tmps.size = 95 := by rw [hA]; rfl
    refine wp_region_K [some 30, some 31, some 32, some 33, some 34, some 35] 95 (CJ (awV7 s t pb 3 0 0) (fun _ _ => True) [5] (sgS w4.drew (fun W => StAt W (fun i => i < w.heap.size ∨ i = pb) s t 2 f2 [f0, f1] ∧ Kp (fun i => i < w.heap.size ∨ i = pb) W0 W))) (by kernel_rfl) (by kernel_rfl) (by kernel_rfl) rfl (by kernel_rfl) hz (CJ.start (fun i => trivial) (Below.refl _ _)) ?_ ⟨?_, ?_, ?_, ?_, ?_, ?_, trivial⟩
    · intro d ub Wb hd hJ
      have HB : Hid ((fun W => StAt W (fun i => i < w.heap.size ∨ i = pb) s t 2 f2 [f0, f1] ∧ Kp (fun i => i < w.heap.size ∨ i = pb) W0 W) Wb) := Lib.hid (show sgS w4.drew (fun W => StAt W (fun i => i < w.heap.size ∨ i = pb) s t 2 f2 [f0, f1] ∧ Kp (fun i => i < w.heap.size ∨ i = pb) W0 W) 1 _ Wb from hJ.fin 1 rfl (fun k hk => by simp at hk; subst hk; exact hd _ (by decide)) sgS_le)
      rw [hA]
      simp only [putAll, Act.put, List.setIfInBounds_toArray, List.set_cons_zero, List.set_cons_succ]
      clear hJ hd h1 h2 hz hA
      clear a0
      clear HOp HSt HPb
      clear HS HK
      have HS := Lib.hid HB.out.1
      have HK := Lib.hid HB.out.2
      clear HB
      have c0 := (HK.out.blk (.inr rfl) HP.out).cell 0
      have c1 := (HK.out.blk (.inr rfl) HP.out).cell 1
      have c2 := (HK.out.blk (.inr rfl) HP.out).cell 2
      have HVl : Hid (Calls Tryd.prog 12 #[.pointer (some ⟨s, 0, none⟩), .int .i64 1, .agg #[.int .i64 3, .int .u64 0, .int .u64 0]] Wb fun e w' => e = .returned (.tuple #[.string ⟨#[120]⟩, .bool true]) ∧ Below Wb.heap.size Wb w') := Lib.hid (by
        have := value_is 1 ⟨3, 0, 0⟩ ok300 _ s t 2 f2 [f0, f1] _ HS.out (by simp) (by simp)
        rw [show [f0, f1][1] = f1 from rfl, HV1.out.1, HV1.out.2] at this
        exact this)
      go_wp2_with fail
      refine HVl.out.mono ?_
      rintro e w5 ⟨rfl, hb5⟩
      have HS1 := Lib.hid (HS.out.below hb5)
      have HK1 := Lib.hid (HK.out.trans (Kp.of_below hb5 HS.out.zlt))
      clear hb5 HS HK HVl c0 c1 c2
      have HS := HS1
      have HK := HK1
      clear HS1 HK1
      go_upto_region 9 with fail
      have HSt := Lib.hid (HS.out.below (Below.refl _ w5).drew)
      have HPb : Hid (Blk w5.drew pb 25 #[.int .i64 ((3 : Nat) : Int), .int .u64 ((0 : Nat) : Int), .int .u64 ((0 : Nat) : Int)]) := Lib.hid (HK.out.blk (.inr rfl) HP.out)
      have HOp : Hid (∀ W, Below w5.drew.heap.size w5.drew W → Calls Tryd.prog 14 #[.agg #[ptr t], .agg #[.int .i64 ((3 : Nat) : Int), .int .u64 ((0 : Nat) : Int), .int .u64 ((0 : Nat) : Int)]] W fun e w' => e = .returned (.tuple #[.string ⟨#[121]⟩, .bool true]) ∧ Below W.heap.size W w') := Lib.hid (fun W hb => by
        have := get_st (HSt.out.below hb) ok300
        rw [HV2.out.1, HV2.out.2] at this
        exact this)
      refine wp_abs fun a0 hA => ?_
      have h1 : a0.eval (.tmp 1) = .pointer (some ⟨s, 0, none⟩) := by rw [hA]; rfl
      have h2 : a0.eval (.tmp 2) = .pointer (some ⟨pb, 0, none⟩) := by rw [hA]; rfl
      have hz : a0.tmps.size = 95 := by rw [hA]; rfl
      refine wp_region_K [some 43, some 44, some 45, some 46, some 47, some 48, some 42, some 49, some 50, some 7, some 8] 95 (CJ (awV9 s t pb 3 0 0 ⟨#[121]⟩  true) (fun _ _ => True) [5] (bwS w5.drew)) (by kernel_rfl) (by kernel_rfl) (by kernel_rfl) rfl (by kernel_rfl) hz (CJ.start (fun i => trivial) ⟨Nat.zero_le 1, Below.refl _ _⟩) ?_ ⟨?_, ?_, ?_, ?_, ?_, ?_, ?_, ?_, ?_, ?_, ?_, trivial⟩
      · intro d uc Wc hd hJ
        have HW : Hid (Below w5.heap.size w5 Wc) := Lib.hid (bstep (Below.refl _ w5).drew (bwS_inv hJ))
        have e9 : uc 9 = .string (⟨#[121]⟩) := hJ.vals 9 (hd 9 (by decide))
        have e10 : uc 10 = .bool (true) := hJ.vals 10 (hd 10 (by decide))
        rw [hA]
        simp only [putAll, Act.put, List.setIfInBounds_toArray, List.set_cons_zero, List.set_cons_succ]
        clear hJ hd h1 h2 hz hA
        clear a0
        rw [e9, e10]
        clear e9 e10
        clear HOp HSt HPb
        have HS0 := Lib.hid HS.out
        have HS := Lib.hid (HS.out.below HW.out)
        have HK := Lib.hid (HK.out.trans (Kp.of_below HW.out HS0.out.zlt))
        clear HW HS0
        have HD := Lib.hid (discard_is _ s t 2 (by decide) f2 f1 [f0, f1] _ HS.out (by simp) rfl)
        go_wp2_with fail
        refine HD.out.mono ?_
        rintro e w6 ⟨rfl, t3, hs6, hk6⟩
        have HS1 := Lib.hid hs6
        have HK1 := Lib.hid (HK.out.trans hk6)
        clear hs6 hk6 HS HK HD
        have HS := HS1
        have HK := HK1
        clear HS1 HK1
        go_upto_region 11 with fail
        have HSt := Lib.hid (HS.out.below (Below.refl _ w6).drew)
        have HPb : Hid (Blk w6.drew pb 25 #[.int .i64 ((3 : Nat) : Int), .int .u64 ((0 : Nat) : Int), .int .u64 ((0 : Nat) : Int)]) := Lib.hid (HK.out.blk (.inr rfl) HP.out)
        have HOp : Hid (∀ W, Below w6.drew.heap.size w6.drew W → Calls Tryd.prog 14 #[.agg #[ptr t3], .agg #[.int .i64 ((3 : Nat) : Int), .int .u64 ((0 : Nat) : Int), .int .u64 ((0 : Nat) : Int)]] W fun e w' => e = .returned (.tuple #[.string ⟨#[120]⟩, .bool true]) ∧ Below W.heap.size W w') := Lib.hid (fun W hb => by
          have := get_st (HSt.out.below hb) ok300
          rw [HV1.out.1, HV1.out.2] at this
          exact this)
        refine wp_abs fun a0 hA => ?_
        have h1 : a0.eval (.tmp 1) = .pointer (some ⟨s, 0, none⟩) := by rw [hA]; rfl
        have h2 : a0.eval (.tmp 2) = .pointer (some ⟨pb, 0, none⟩) := by rw [hA]; rfl
        have hz : a0.tmps.size = 95 := by rw [hA]; rfl
        refine wp_region_K [some 54, some 55, some 56, some 57, some 58, some 59, some 53, some 60, some 61, some 9, some 10] 95 (CJ (awV11 s t3 pb 3 0 0 ⟨#[120]⟩  true) (fun _ _ => True) [5] (bwS w6.drew)) (by kernel_rfl) (by kernel_rfl) (by kernel_rfl) rfl (by kernel_rfl) hz (CJ.start (fun i => trivial) ⟨Nat.zero_le 1, Below.refl _ _⟩) ?_ ⟨?_, ?_, ?_, ?_, ?_, ?_, ?_, ?_, ?_, ?_, ?_, trivial⟩
        · intro d ud Wd hd hJ
          have HW : Hid (Below w6.heap.size w6 Wd) := Lib.hid (bstep (Below.refl _ w6).drew (bwS_inv hJ))
          have e9 : ud 9 = .string (⟨#[120]⟩) := hJ.vals 9 (hd 9 (by decide))
          have e10 : ud 10 = .bool (true) := hJ.vals 10 (hd 10 (by decide))
          rw [hA]
          simp only [putAll, Act.put, List.setIfInBounds_toArray, List.set_cons_zero, List.set_cons_succ]
          clear hJ hd h1 h2 hz hA
          clear a0
          rw [e9, e10]
          clear e9 e10
          clear HOp HSt HPb
          have HS0 := Lib.hid HS.out
          have HS := Lib.hid (HS.out.below HW.out)
          have HK := Lib.hid (HK.out.trans (Kp.of_below HW.out HS0.out.zlt))
          clear HW HS0
          have HR1 := Lib.hid (root_is 1 _ s t3 2 (by decide) f1 [f0, f1] _ HS.out (by simp) (by simp))
          have HR1 : Hid (Calls Tryd.prog 13 #[.pointer (some ⟨s, 0, none⟩), .int .i64 1] Wd fun e w' => e = .returned (.tuple #[.string (leafB ⟨K.toArray⟩ ⟨#[120]⟩), .int .i64 0]) ∧ Below Wd.heap.size Wd w') := Lib.hid (HRt.out ▸ HR1.out)
          go_wp2_with fail
          refine HR1.out.mono ?_
          rintro e w7 ⟨rfl, hb7⟩
          have HB7 := Lib.hid hb7
          clear hb7 HR1
          go_wp2_with fail
          refine (HPh.out _ (HS.out.glob.next HB7.out)).mono ?_
          rintro e w8 ⟨rfl, hb8⟩
          have HB3 := Lib.hid (bstep HB7.out hb8)
          clear hb8 HB7
          go_wp2_with fail
          refine (HLf.out _ (HS.out.glob.next HB3.out)).mono ?_
          rintro e w9 ⟨rfl, hb9⟩
          have HB9 := Lib.hid (bstep HB3.out hb9)
          clear hb9
          go_wp2_with fail
          go_ret
          exact ⟨rfl, (HK0.out.trans ((HK.out.trans (Kp.of_below HB9.out HS.out.zlt)).below (fun i hi => .inl hi)))⟩
        · exact KStep.plain rfl fun ρ d u W he hc hdi hd hJ => swp_val (run_move (he.o h1 rfl)) (hJ.pure 0 rfl rfl)
        · exact KStep.plain rfl fun ρ d u W he hc hdi hd hJ => swp_val (run_nilCheck (he.i hz (hJ.vals 0 (hd 0 (by kernel_rfl))) (j := 0) (d := 54) rfl (by decide))) (hJ.pure 1 rfl rfl)
        · exact KStep.plain rfl fun ρ d u W he hc hdi hd hJ => swp_val (run_fieldAddr (he.i hz (hJ.vals 1 (hd 1 (by kernel_rfl))) (j := 1) (d := 55) rfl (by decide)) (by go_simp)) (hJ.pure 2 rfl rfl)
        · exact KStep.plain rfl fun ρ d u W he hc hdi hd hJ => swp_val (run_load (he.i hz (hJ.vals 2 (hd 2 (by kernel_rfl))) (j := 2) (d := 56) rfl (by decide)) ((HSt.out.below (bwS_inv hJ)).ld)) (hJ.pure 3 rfl rfl)
        · exact KStep.plain rfl fun ρ d u W he hc hdi hd hJ => swp_val (run_load (he.o h2 rfl) (ld_pa (HPb.out.below (bwS_inv hJ)))) (hJ.pure 4 rfl rfl)
        · exact KStep.plain rfl fun ρ d u W he hc hdi hd hJ => swp_call (run_call #[.agg #[ptr t3], .agg #[.int .i64 ((3 : Nat) : Int), .int .u64 ((0 : Nat) : Int), .int .u64 ((0 : Nat) : Int)]] (he.func _) (by kernel_rfl) (map2 (he.i hz (hJ.vals 3 (hd 3 (by kernel_rfl))) (j := 3) (d := 57) rfl (by decide)) (he.i hz (hJ.vals 4 (hd 4 (by kernel_rfl))) (j := 4) (d := 58) rfl (by decide)))) (HOp.out W (bwS_inv hJ)) (fun e W' h => ⟨_, h.1, hJ.go 0 rfl hdi (by decide) (fun j h => by omega) rfl ⟨Nat.le_refl 1, bstep (bwS_inv hJ) h.2⟩⟩)
        · exact KStep.plain rfl fun ρ d u W he hc hdi hd hJ => swp_val (run_move (he.i hz (hJ.vals 5 (hd 5 (by kernel_rfl))) (j := 5) (d := 59) rfl (by decide))) (hJ.pure 6 rfl rfl)
        · exact KStep.plain rfl fun ρ d u W he hc hdi hd hJ => swp_val (run_extract (he.i hz (hJ.vals 6 (hd 6 (by kernel_rfl))) (j := 6) (d := 53) rfl (by decide)) (tx0 _ _ W)) (hJ.pure 7 rfl rfl)
        · exact KStep.plain rfl fun ρ d u W he hc hdi hd hJ => swp_val (run_extract (he.i hz (hJ.vals 6 (hd 6 (by kernel_rfl))) (j := 6) (d := 53) rfl (by decide)) (tx1 _ _ W)) (hJ.pure 8 rfl rfl)
        · exact KStep.plain rfl fun ρ d u W he hc hdi hd hJ => swp_val (run_assign (he.i hz (hJ.vals 7 (hd 7 (by kernel_rfl))) (j := 7) (d := 60) rfl (by decide))) (hJ.pure 9 rfl rfl)
        · exact KStep.plain rfl fun ρ d u W he hc hdi hd hJ => swp_val (run_assign (he.i hz (hJ.vals 8 (hd 8 (by kernel_rfl))) (j := 8) (d := 61) rfl (by decide))) (hJ.pure 10 rfl rfl)
      · exact KStep.plain rfl fun ρ d u W he hc hdi hd hJ => swp_val (run_move (he.o h1 rfl)) (hJ.pure 0 rfl rfl)
      · exact KStep.plain rfl fun ρ d u W he hc hdi hd hJ => swp_val (run_nilCheck (he.i hz (hJ.vals 0 (hd 0 (by kernel_rfl))) (j := 0) (d := 43) rfl (by decide))) (hJ.pure 1 rfl rfl)
      · exact KStep.plain rfl fun ρ d u W he hc hdi hd hJ => swp_val (run_fieldAddr (he.i hz (hJ.vals 1 (hd 1 (by kernel_rfl))) (j := 1) (d := 44) rfl (by decide)) (by go_simp)) (hJ.pure 2 rfl rfl)
      · exact KStep.plain rfl fun ρ d u W he hc hdi hd hJ => swp_val (run_load (he.i hz (hJ.vals 2 (hd 2 (by kernel_rfl))) (j := 2) (d := 45) rfl (by decide)) ((HSt.out.below (bwS_inv hJ)).ld)) (hJ.pure 3 rfl rfl)
      · exact KStep.plain rfl fun ρ d u W he hc hdi hd hJ => swp_val (run_load (he.o h2 rfl) (ld_pa (HPb.out.below (bwS_inv hJ)))) (hJ.pure 4 rfl rfl)
      · exact KStep.plain rfl fun ρ d u W he hc hdi hd hJ => swp_call (run_call #[.agg #[ptr t], .agg #[.int .i64 ((3 : Nat) : Int), .int .u64 ((0 : Nat) : Int), .int .u64 ((0 : Nat) : Int)]] (he.func _) (by kernel_rfl) (map2 (he.i hz (hJ.vals 3 (hd 3 (by kernel_rfl))) (j := 3) (d := 46) rfl (by decide)) (he.i hz (hJ.vals 4 (hd 4 (by kernel_rfl))) (j := 4) (d := 47) rfl (by decide)))) (HOp.out W (bwS_inv hJ)) (fun e W' h => ⟨_, h.1, hJ.go 0 rfl hdi (by decide) (fun j h => by omega) rfl ⟨Nat.le_refl 1, bstep (bwS_inv hJ) h.2⟩⟩)
      · exact KStep.plain rfl fun ρ d u W he hc hdi hd hJ => swp_val (run_move (he.i hz (hJ.vals 5 (hd 5 (by kernel_rfl))) (j := 5) (d := 48) rfl (by decide))) (hJ.pure 6 rfl rfl)
      · exact KStep.plain rfl fun ρ d u W he hc hdi hd hJ => swp_val (run_extract (he.i hz (hJ.vals 6 (hd 6 (by kernel_rfl))) (j := 6) (d := 42) rfl (by decide)) (tx0 _ _ W)) (hJ.pure 7 rfl rfl)
      · exact KStep.plain rfl fun ρ d u W he hc hdi hd hJ => swp_val (run_extract (he.i hz (hJ.vals 6 (hd 6 (by kernel_rfl))) (j := 6) (d := 42) rfl (by decide)) (tx1 _ _ W)) (hJ.pure 8 rfl rfl)
      · exact KStep.plain rfl fun ρ d u W he hc hdi hd hJ => swp_val (run_assign (he.i hz (hJ.vals 7 (hd 7 (by kernel_rfl))) (j := 7) (d := 49) rfl (by decide))) (hJ.pure 9 rfl rfl)
      · exact KStep.plain rfl fun ρ d u W he hc hdi hd hJ => swp_val (run_assign (he.i hz (hJ.vals 8 (hd 8 (by kernel_rfl))) (j := 8) (d := 50) rfl (by decide))) (hJ.pure 10 rfl rfl)
    · exact KStep.plain rfl fun ρ d u W he hc hdi hd hJ => swp_val (run_move (he.o h1 rfl)) (hJ.pure 0 rfl rfl)
    · exact KStep.plain rfl fun ρ d u W he hc hdi hd hJ => swp_val (run_nilCheck (he.i hz (hJ.vals 0 (hd 0 (by kernel_rfl))) (j := 0) (d := 30) rfl (by decide))) (hJ.pure 1 rfl rfl)
    · exact KStep.plain rfl fun ρ d u W he hc hdi hd hJ => swp_val (run_fieldAddr (he.i hz (hJ.vals 1 (hd 1 (by kernel_rfl))) (j := 1) (d := 31) rfl (by decide)) (by go_simp)) (hJ.pure 2 rfl rfl)
    · exact KStep.plain rfl fun ρ d u W he hc hdi hd hJ => swp_val (run_load (he.i hz (hJ.vals 2 (hd 2 (by kernel_rfl))) (j := 2) (d := 32) rfl (by decide)) ((HSt.out.below (hJ.olds2T 0 rfl (hc.notyet [3] (by kernel_rfl) rfl hdi) sgS_lt)).ld)) (hJ.pure 3 rfl rfl)
    · exact KStep.plain rfl fun ρ d u W he hc hdi hd hJ => swp_val (run_load (he.o h2 rfl) (ld_pa (HPb.out.below (hJ.olds2T 0 rfl (hc.notyet [4] (by kernel_rfl) rfl hdi) sgS_lt)))) (hJ.pure 4 rfl rfl)
    · refine KStep.plain rfl fun ρ d u W he hc hdi hd hJ => ?_
      have hS : Below w4.drew.heap.size w4.drew W := hJ.at_ 0 rfl hdi (fun j h => by omega)
      exact swp_call (run_call #[.agg #[ptr t], .agg #[.int .i64 ((3 : Nat) : Int), .int .u64 ((0 : Nat) : Int), .int .u64 ((0 : Nat) : Int)], .string { data := #[121] }] (he.func _) (by kernel_rfl) (map3 (he.i hz (hJ.vals 3 (hd 3 (by kernel_rfl))) (j := 3) (d := 33) rfl (by decide)) (he.i hz (hJ.vals 4 (hd 4 (by kernel_rfl))) (j := 4) (d := 34) rfl (by decide)) (he.const _))) (HOp.out W hS) (fun e W' h => ⟨_, h.1, hJ.go 0 rfl hdi (by decide) (fun j h => by omega) rfl h.2⟩)
  · exact KStep.plain rfl fun ρ d u W he hc hdi hd hJ => swp_val (run_move (he.o h1 rfl)) (hJ.pure 0 rfl rfl)
  · exact KStep.plain rfl fun ρ d u W he hc hdi hd hJ => swp_val (run_nilCheck (he.i hz (hJ.vals 0 (hd 0 (by kernel_rfl))) (j := 0) (d := 22) rfl (by decide))) (hJ.pure 1 rfl rfl)
  · exact KStep.plain rfl fun ρ d u W he hc hdi hd hJ => swp_val (run_fieldAddr (he.i hz (hJ.vals 1 (hd 1 (by kernel_rfl))) (j := 1) (d := 23) rfl (by decide)) (by go_simp)) (hJ.pure 2 rfl rfl)
  · exact KStep.plain rfl fun ρ d u W he hc hdi hd hJ => swp_val (run_load (he.i hz (hJ.vals 2 (hd 2 (by kernel_rfl))) (j := 2) (d := 24) rfl (by decide)) ((HSt.out.below (hJ.olds2T 0 rfl (hc.notyet [3] (by kernel_rfl) rfl hdi) sgS_lt)).ld)) (hJ.pure 3 rfl rfl)
  · exact KStep.plain rfl fun ρ d u W he hc hdi hd hJ => swp_val (run_load (he.o h2 rfl) (ld_pa (HPb.out.below (hJ.olds2T 0 rfl (hc.notyet [4] (by kernel_rfl) rfl hdi) sgS_lt)))) (hJ.pure 4 rfl rfl)
  · refine KStep.plain rfl fun ρ d u W he hc hdi hd hJ => ?_
    have hS : Below W0.drew.heap.size W0.drew W := hJ.at_ 0 rfl hdi (fun j h => by omega)
    exact swp_call (run_call #[.agg #[ptr t], .agg #[.int .i64 ((3 : Nat) : Int), .int .u64 ((0 : Nat) : Int), .int .u64 ((0 : Nat) : Int)], .string { data := #[120] }] (he.func _) (by kernel_rfl) (map3 (he.i hz (hJ.vals 3 (hd 3 (by kernel_rfl))) (j := 3) (d := 25) rfl (by decide)) (he.i hz (hJ.vals 4 (hd 4 (by kernel_rfl))) (j := 4) (d := 26) rfl (by decide)) (he.const _))) (HOp.out W hS) (fun e W' h => ⟨_, h.1, hJ.go 0 rfl hdi (by decide) (fun j h => by omega) rfl h.2⟩)
  · exact KStep.plain rfl fun ρ d u W he hc hdi hd hJ => swp_val (run_assign (he.i hz (hJ.vals 5 (hd 5 (by kernel_rfl))) (j := 5) (d := 27) rfl (by decide))) (hJ.pure 6 rfl rfl)
end Go.Proofs.YtichklplcpkjdaaDoor
