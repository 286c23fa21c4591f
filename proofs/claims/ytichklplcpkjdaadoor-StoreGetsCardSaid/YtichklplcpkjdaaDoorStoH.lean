/-
  The walk of voussoirlaw09.does: an act, in a store (printed by gen_stoh.py).
-/
import Derived.Test.YtichklplcpkjdaaDoorStoG
namespace Go.Proofs.YtichklplcpkjdaaDoor
open Go.RowKit
set_option linter.unusedVariables false

/-- a raw act -/
structure SAct where
  (what c a b : Int)
  v : ByteArray
def SAct.cs (x : SAct) : Array Value := #[.int .i64 x.what, .int .i64 x.c, .int .u64 x.a, .int .u64 x.b, .string x.v]
structure SAct.ok (x : SAct) : Prop where
  w0 : -9223372036854775808 ≤ x.what
  w1 : x.what ≤ 9223372036854775807
  c0 : -9223372036854775808 ≤ x.c
  c1 : x.c ≤ 9223372036854775807
  a0 : 0 ≤ x.a
  a1 : x.a ≤ 18446744073709551615
  b0 : 0 ≤ x.b
  b1 : x.b ≤ 18446744073709551615
  v_ : x.v.size ≤ 140737488351232
def SAct.p (x : SAct) : Pa := fitP x.c x.a x.b
/-- what an act makes of the trie now and the past ones -/
def stepF (x : SAct) (f : PM) (l : List PM) : PM × List PM :=
  if pickN x.what 8 < 4 then (updP f (pathP x.p.key) (some x.v), l)
  else if pickN x.what 8 = 4 then (updP f (pathP x.p.key) none, l)
  else if pickN x.what 8 < 7 then (f, l ++ [f])
  else (l.getLast?.getD f, l)
theorem ld_st {s t : Nat} {v : Value} {W : World} (h : Blk W s 45 #[ptr t, v]) : (Instr.loadAt 42 (.pointer (some ⟨s, 0, none⟩))).run Tryd.prog W = .ok (.agg #[ptr t]) W := by
  have c := h.cell 0
  simp only [ptr] at c ⊢
  go_simp
section
variable {w : World} {Z : Nat → Prop} {s t n : Nat} {f : PM} {l : List PM}
theorem StAt.ld (h : StAt w Z s t n f l) : (Instr.loadAt 42 (.pointer (some ⟨s, 0, none⟩))).run Tryd.prog w = .ok (.agg #[ptr t]) w := by
  obtain ⟨g, cap, hb⟩ := h.blk
  exact ld_st hb
end
theorem ld_actp {g : Nat} {x : SAct} {W : World} (h : Blk W g 31 x.cs) : (Instr.loadAt 25 (.pointer (some ⟨g, 1, none⟩))).run Tryd.prog W = .ok (.agg #[.int .i64 x.c, .int .u64 x.a, .int .u64 x.b]) W := by
  have c1 := h.cell 1
  have c2 := h.cell 2
  have c3 := h.cell 3
  simp only [SAct.cs] at c1 c2 c3
  go_simp
theorem ld_actv {g : Nat} {x : SAct} {W : World} (h : Blk W g 31 x.cs) : (Instr.loadAt 9 (.pointer (some ⟨g, 4, none⟩))).run Tryd.prog W = .ok (.string x.v) W := by
  have c4 := h.cell 4
  simp only [SAct.cs] at c4
  go_simp
/-- two calls: the first one changes nothing of what was there, the second one does -/
def opS (A B : World → Prop) (m : Nat) (vs : List Value) (W : World) : Prop := match m with
  | 0 => A W
  | 1 => A W
  | 2 => B W
  | _ => False
theorem opS_2 {A B : World → Prop} (m : Nat) (vs : List Value) (W : World) (h : opS A B m vs W) : m ≤ 2 := by
  rcases m with _ | _ | _ | m
  · omega
  · omega
  · omega
  · exact absurd h id
theorem opS_lt {A B : World → Prop} (m : Nat) (vs : List Value) (W : World) (hm : m < 2) (h : opS A B m vs W) : A W := by
  rcases m with _ | _ | m
  · exact h
  · exact h
  · omega
def doV7 (w : World) (x : SAct) (s t : Nat) (i : Nat) (v : Value) : Prop := match i with
  | 0 => v = .pointer (some ⟨s, 0, none⟩)
  | 1 => v = .pointer (some ⟨s, 0, none⟩)
  | 2 => v = .pointer (some ⟨s, 0, none⟩)
  | 3 => v = .agg #[ptr t]
  | 4 => v = .pointer (some ⟨w.heap.size, 1, none⟩)
  | 5 => v = .agg #[.int .i64 x.c, .int .u64 x.a, .int .u64 x.b]
  | 6 => v = x.p.v
  | 7 => v = .pointer (some ⟨w.heap.size, 4, none⟩)
  | 8 => v = .string x.v
  | 9 => v = .int .i64 0
  | _ => True
def doV9 (w : World) (x : SAct) (s t : Nat) (i : Nat) (v : Value) : Prop := match i with
  | 0 => v = .pointer (some ⟨s, 0, none⟩)
  | 1 => v = .pointer (some ⟨s, 0, none⟩)
  | 2 => v = .pointer (some ⟨s, 0, none⟩)
  | 3 => v = .agg #[ptr t]
  | 4 => v = .pointer (some ⟨w.heap.size, 1, none⟩)
  | 5 => v = .agg #[.int .i64 x.c, .int .u64 x.a, .int .u64 x.b]
  | 6 => v = x.p.v
  | 7 => v = .int .i64 0
  | _ => True
set_option maxRecDepth 100000 in
set_option maxHeartbeats 4000000 in
theorem does_set (x : SAct) (hx : x.ok) (hk : pickN x.what 8 < 4) (Z : Nat → Prop) (s t n : Nat) (hn : n < maxLen) (f : PM) (l : List PM) (w : World) (h : StAt w Z s t n f l) :
    Calls Tryd.prog 9 #[.pointer (some ⟨s, 0, none⟩), .agg x.cs] w fun e w' => e = .returned (.tuple #[]) ∧ ∃ t', StAt w' Z s t' (n + 1) (updP f (pathP x.p.key) (some x.v)) l ∧ Kp Z w w' := by
  have hpk := fun W => pick9_is x.what 8 hx.w0 hx.w1 (by omega) (by omega) W
  obtain ⟨q, hq⟩ : ∃ q, pickN x.what 8 = q := ⟨_, rfl⟩
  rw [hq] at hk hpk
  have HPK := Lib.hid hpk
  have hW1 := balloc (Below.refl _ w) (.cells x.cs 31)
  have hB1 := Blk.new w 31 x.cs
  have HPa : Hid (∀ W, Calls Tryd.prog 11 #[.agg #[.int .i64 x.c, .int .u64 x.a, .int .u64 x.b]] W fun e w' => e = .returned x.p.v ∧ Below W.heap.size W w') := Lib.hid (fun W => path9_is x.c x.a x.b hx.c0 hx.c1 hx.a0 hx.a1 hx.b0 hx.b1 W)
  have hok : x.p.ok := fitP_ok x.c x.a x.b hx.a0 hx.b0
  have HO : Hid (∀ W, StAt W Z s t n f l → Calls Tryd.prog 19 #[.agg #[ptr t], x.p.v, .string x.v] W fun e w' => e = .returned (.int .i64 0) ∧ StAt w' Z s t (n + 1) (updP f (pathP x.p.key) (some x.v)) l ∧ Kp Z W w') := Lib.hid (fun W hS => sset_is x.p hok x.v hx.v_ Z s t n hn f l W hS)
  have HSt0 := Lib.hid h
  clear hpk hok hn h hq hx
  obtain ⟨f', hf'⟩ : ∃ f', updP f (pathP x.p.key) (some x.v) = f' := ⟨_, rfl⟩
  rw [hf'] at HO ⊢
  clear hf'
  have HC : Hid (x.cs = #[.int .i64 x.what, .int .i64 x.c, .int .u64 x.a, .int .u64 x.b, .string x.v]) := Lib.hid rfl
  rw [HC.out] at hW1 hB1 ⊢
  have hcase : q = 0 ∨ q = 1 ∨ q = 2 ∨ q = 3 := by omega
  clear hk
  rcases hcase with rfl | rfl | rfl | rfl
  all_goals (
    go_enter Tryd.func9, Tryd.ntmps9
    go_wp2_with fail
    refine (HPK.out _).mono ?_
    rintro e w1 ⟨rfl, rfl⟩
    go_upto_region 7 with fail
    change Code.wp _ _ _ _ (w.alloc (.cells #[.int .i64 x.what, .int .i64 x.c, .int .u64 x.a, .int .u64 x.b, .string x.v] 31))
    generalize w.alloc (.cells #[.int .i64 x.what, .int .i64 x.c, .int .u64 x.a, .int .u64 x.b, .string x.v] 31) = W1 at hW1 hB1 ⊢
    rw [← HC.out] at hB1
    have HAct : Hid (Blk W1.drew w.heap.size 31 x.cs) := Lib.hid hB1
    have HSt : Hid (StAt W1.drew Z s t n f l) := Lib.hid (HSt0.out.below hW1.drew)
    have HOp := Lib.hid (fun (W : World) (hb : Below W1.drew.heap.size W1.drew W) => (HO.out W (HSt.out.below hb)).mono fun e w' h => And.intro h.1 (And.intro h.2.1 ((Kp.of_below (bstep hW1.drew hb) HSt0.out.zlt).trans h.2.2)))
    clear hW1 hB1 HC HO HPK
    refine wp_abs fun a0 hA => ?_
    have h0 : a0.eval (.tmp 0) = .pointer (some ⟨s, 0, none⟩) := by rw [hA]; rfl
    have h3 : a0.eval (.tmp 3) = .pointer (some ⟨w.heap.size, 0, none⟩) := by rw [hA]; rfl
    have hz : a0.tmps.size = 39 := by rw [hA]; rfl
    refine wp_region_K [some 14, some 15, some 16, some 17, some 18, some 19, some 20, some 21, some 22, some 23] 39 (CJ (doV7 w x s t) (fun _ _ => True) [6, 9] (opS (fun W => Below W1.drew.heap.size W1.drew W) (fun W => StAt W Z s t (n + 1) f' l ∧ Kp Z w W))) (by kernel_rfl) (by kernel_rfl) (by kernel_rfl) rfl (by kernel_rfl) hz (CJ.start (fun i => trivial) (Below.refl _ _)) ?_ ⟨?_, ?_, ?_, ?_, ?_, ?_, ?_, ?_, ?_, ?_, trivial⟩
    · intro d u W hd hJ
      obtain ⟨hS4, hK4⟩ : opS (fun W => Below W1.drew.heap.size W1.drew W) (fun W => StAt W Z s t (n + 1) f' l ∧ Kp Z w W) 2 _ W := hJ.fin 2 rfl (fun k hk => by simp at hk; rcases hk with rfl | rfl <;> exact hd _ (by decide)) opS_2
      have HS4 := Lib.hid hS4
      have HK4 := Lib.hid hK4
      clear hS4 hK4
      rw [hA]
      simp only [putAll, Act.put, List.setIfInBounds_toArray, List.set_cons_zero, List.set_cons_succ]
      clear hJ hd h0 h3 hz hA
      clear a0
      clear HOp HPa HAct
      go_wp2_with fail
      go_end0
      exact ⟨rfl, t, HS4.out, HK4.out⟩
    · exact KStep.plain rfl fun ρ d u W he hc hdi hd hJ => swp_val (run_move (he.o h0 rfl)) (hJ.pure 0 rfl rfl)
    · exact KStep.plain rfl fun ρ d u W he hc hdi hd hJ => swp_val (run_nilCheck (he.i hz (hJ.vals 0 (hd 0 (by kernel_rfl))) (j := 0) (d := 14) rfl (by decide))) (hJ.pure 1 rfl rfl)
    · exact KStep.plain rfl fun ρ d u W he hc hdi hd hJ => swp_val (run_fieldAddr (he.i hz (hJ.vals 1 (hd 1 (by kernel_rfl))) (j := 1) (d := 15) rfl (by decide)) (by go_simp)) (hJ.pure 2 rfl rfl)
    · exact KStep.plain rfl fun ρ d u W he hc hdi hd hJ => swp_val (run_load (he.i hz (hJ.vals 2 (hd 2 (by kernel_rfl))) (j := 2) (d := 16) rfl (by decide)) ((HSt.out.below (hJ.olds2T 1 rfl (hc.notyet [3] (by kernel_rfl) rfl hdi) opS_lt)).ld)) (hJ.pure 3 rfl rfl)
    · exact KStep.plain rfl fun ρ d u W he hc hdi hd hJ => swp_val (run_fieldAddr (he.o h3 rfl) (by go_simp)) (hJ.pure 4 rfl rfl)
    · exact KStep.plain rfl fun ρ d u W he hc hdi hd hJ => swp_val (run_load (he.i hz (hJ.vals 4 (hd 4 (by kernel_rfl))) (j := 4) (d := 18) rfl (by decide)) (ld_actp (HAct.out.below (hJ.olds2T 1 rfl (hc.notyet [6, 5] (by kernel_rfl) rfl hdi) opS_lt)))) (hJ.pure 5 rfl rfl)
    · refine KStep.plain rfl fun ρ d u W he hc hdi hd hJ => ?_
      have hS : Below W1.drew.heap.size W1.drew W := hJ.at_ 0 rfl hdi (fun j h => by omega)
      exact swp_call (run_call #[.agg #[.int .i64 x.c, .int .u64 x.a, .int .u64 x.b]] (he.func _) (by kernel_rfl) (map1 (he.i hz (hJ.vals 5 (hd 5 (by kernel_rfl))) (j := 5) (d := 19) rfl (by decide)))) (HPa.out W) (fun e W' h => ⟨_, h.1, hJ.go 0 rfl hdi (by decide) (fun j h => by omega) rfl (bstep hS h.2)⟩)
    · exact KStep.plain rfl fun ρ d u W he hc hdi hd hJ => swp_val (run_fieldAddr (he.o h3 rfl) (by go_simp)) (hJ.pure 7 rfl rfl)
    · exact KStep.plain rfl fun ρ d u W he hc hdi hd hJ => swp_val (run_load (he.i hz (hJ.vals 7 (hd 7 (by kernel_rfl))) (j := 7) (d := 21) rfl (by decide)) (ld_actv (HAct.out.below (hJ.olds2T 1 rfl (hc.notyet [8] (by kernel_rfl) rfl hdi) opS_lt)))) (hJ.pure 8 rfl rfl)
    · refine KStep.plain rfl fun ρ d u W he hc hdi hd hJ => ?_
      have hS : Below W1.drew.heap.size W1.drew W := hJ.at_ 1 rfl hdi (fun j h => by cases h; exact ⟨6, rfl, hd 6 (by kernel_rfl)⟩)
      exact swp_call (run_call #[.agg #[ptr t], x.p.v, .string x.v] (he.func _) (by kernel_rfl) (map3 (he.i hz (hJ.vals 3 (hd 3 (by kernel_rfl))) (j := 3) (d := 17) rfl (by decide)) (he.i hz (hJ.vals 6 (hd 6 (by kernel_rfl))) (j := 6) (d := 20) rfl (by decide)) (he.i hz (hJ.vals 8 (hd 8 (by kernel_rfl))) (j := 8) (d := 22) rfl (by decide)))) (HOp.out W hS) (fun e W' h => ⟨_, h.1, hJ.go 1 rfl hdi (by decide) (fun j h => by cases h; exact ⟨6, rfl, hd 6 (by kernel_rfl)⟩) rfl h.2⟩)
  )
set_option maxRecDepth 100000 in
set_option maxHeartbeats 4000000 in
theorem does_del (x : SAct) (hx : x.ok) (hk : pickN x.what 8 = 4) (Z : Nat → Prop) (s t n : Nat) (hn : n < maxLen) (f : PM) (l : List PM) (w : World) (h : StAt w Z s t n f l) :
    Calls Tryd.prog 9 #[.pointer (some ⟨s, 0, none⟩), .agg x.cs] w fun e w' => e = .returned (.tuple #[]) ∧ ∃ t', StAt w' Z s t' (n + 1) (updP f (pathP x.p.key) none) l ∧ Kp Z w w' := by
  have hpk := fun W => pick9_is x.what 8 hx.w0 hx.w1 (by omega) (by omega) W
  obtain ⟨q, hq⟩ : ∃ q, pickN x.what 8 = q := ⟨_, rfl⟩
  rw [hq] at hk hpk
  have HPK := Lib.hid hpk
  have hW1 := balloc (Below.refl _ w) (.cells x.cs 31)
  have hB1 := Blk.new w 31 x.cs
  have HPa : Hid (∀ W, Calls Tryd.prog 11 #[.agg #[.int .i64 x.c, .int .u64 x.a, .int .u64 x.b]] W fun e w' => e = .returned x.p.v ∧ Below W.heap.size W w') := Lib.hid (fun W => path9_is x.c x.a x.b hx.c0 hx.c1 hx.a0 hx.a1 hx.b0 hx.b1 W)
  have hok : x.p.ok := fitP_ok x.c x.a x.b hx.a0 hx.b0
  have HO : Hid (∀ W, StAt W Z s t n f l → Calls Tryd.prog 18 #[.agg #[ptr t], x.p.v] W fun e w' => e = .returned (.int .i64 0) ∧ StAt w' Z s t (n + 1) (updP f (pathP x.p.key) none) l ∧ Kp Z W w') := Lib.hid (fun W hS => (sdel_is x.p hok Z s t n f l W hS).mono fun e w' h => ⟨h.1, h.2.1.mono (by omega), h.2.2⟩)
  have HSt0 := Lib.hid h
  clear hpk hok hn h hq hx
  obtain ⟨f', hf'⟩ : ∃ f', updP f (pathP x.p.key) none = f' := ⟨_, rfl⟩
  rw [hf'] at HO ⊢
  clear hf'
  have HC : Hid (x.cs = #[.int .i64 x.what, .int .i64 x.c, .int .u64 x.a, .int .u64 x.b, .string x.v]) := Lib.hid rfl
  rw [HC.out] at hW1 hB1 ⊢
  subst hk
  go_enter Tryd.func9, Tryd.ntmps9
  go_wp2_with fail
  refine (HPK.out _).mono ?_
  rintro e w1 ⟨rfl, rfl⟩
  go_upto_region 9 with fail
  change Code.wp _ _ _ _ (w.alloc (.cells #[.int .i64 x.what, .int .i64 x.c, .int .u64 x.a, .int .u64 x.b, .string x.v] 31))
  generalize w.alloc (.cells #[.int .i64 x.what, .int .i64 x.c, .int .u64 x.a, .int .u64 x.b, .string x.v] 31) = W1 at hW1 hB1 ⊢
  rw [← HC.out] at hB1
  have HAct : Hid (Blk W1.drew w.heap.size 31 x.cs) := Lib.hid hB1
  have HSt : Hid (StAt W1.drew Z s t n f l) := Lib.hid (HSt0.out.below hW1.drew)
  have HOp := Lib.hid (fun (W : World) (hb : Below W1.drew.heap.size W1.drew W) => (HO.out W (HSt.out.below hb)).mono fun e w' h => And.intro h.1 (And.intro h.2.1 ((Kp.of_below (bstep hW1.drew hb) HSt0.out.zlt).trans h.2.2)))
  clear hW1 hB1 HC HO HPK
  refine wp_abs fun a0 hA => ?_
  have h0 : a0.eval (.tmp 0) = .pointer (some ⟨s, 0, none⟩) := by rw [hA]; rfl
  have h3 : a0.eval (.tmp 3) = .pointer (some ⟨w.heap.size, 0, none⟩) := by rw [hA]; rfl
  have hz : a0.tmps.size = 39 := by rw [hA]; rfl
  refine wp_region_K [some 26, some 27, some 28, some 29, some 30, some 31, some 32, some 33] 39 (CJ (doV9 w x s t) (fun _ _ => True) [6, 7] (opS (fun W => Below W1.drew.heap.size W1.drew W) (fun W => StAt W Z s t (n + 1) f' l ∧ Kp Z w W))) (by kernel_rfl) (by kernel_rfl) (by kernel_rfl) rfl (by kernel_rfl) hz (CJ.start (fun i => trivial) (Below.refl _ _)) ?_ ⟨?_, ?_, ?_, ?_, ?_, ?_, ?_, ?_, trivial⟩
  · intro d u W hd hJ
    obtain ⟨hS4, hK4⟩ : opS (fun W => Below W1.drew.heap.size W1.drew W) (fun W => StAt W Z s t (n + 1) f' l ∧ Kp Z w W) 2 _ W := hJ.fin 2 rfl (fun k hk => by simp at hk; rcases hk with rfl | rfl <;> exact hd _ (by decide)) opS_2
    have HS4 := Lib.hid hS4
    have HK4 := Lib.hid hK4
    clear hS4 hK4
    rw [hA]
    simp only [putAll, Act.put, List.setIfInBounds_toArray, List.set_cons_zero, List.set_cons_succ]
    clear hJ hd h0 h3 hz hA
    clear a0
    clear HOp HPa HAct
    go_wp2_with fail
    go_end0
    exact ⟨rfl, t, HS4.out, HK4.out⟩
  · exact KStep.plain rfl fun ρ d u W he hc hdi hd hJ => swp_val (run_move (he.o h0 rfl)) (hJ.pure 0 rfl rfl)
  · exact KStep.plain rfl fun ρ d u W he hc hdi hd hJ => swp_val (run_nilCheck (he.i hz (hJ.vals 0 (hd 0 (by kernel_rfl))) (j := 0) (d := 26) rfl (by decide))) (hJ.pure 1 rfl rfl)
  · exact KStep.plain rfl fun ρ d u W he hc hdi hd hJ => swp_val (run_fieldAddr (he.i hz (hJ.vals 1 (hd 1 (by kernel_rfl))) (j := 1) (d := 27) rfl (by decide)) (by go_simp)) (hJ.pure 2 rfl rfl)
  · exact KStep.plain rfl fun ρ d u W he hc hdi hd hJ => swp_val (run_load (he.i hz (hJ.vals 2 (hd 2 (by kernel_rfl))) (j := 2) (d := 28) rfl (by decide)) ((HSt.out.below (hJ.olds2T 1 rfl (hc.notyet [3] (by kernel_rfl) rfl hdi) opS_lt)).ld)) (hJ.pure 3 rfl rfl)
  · exact KStep.plain rfl fun ρ d u W he hc hdi hd hJ => swp_val (run_fieldAddr (he.o h3 rfl) (by go_simp)) (hJ.pure 4 rfl rfl)
  · exact KStep.plain rfl fun ρ d u W he hc hdi hd hJ => swp_val (run_load (he.i hz (hJ.vals 4 (hd 4 (by kernel_rfl))) (j := 4) (d := 30) rfl (by decide)) (ld_actp (HAct.out.below (hJ.olds2T 1 rfl (hc.notyet [6, 5] (by kernel_rfl) rfl hdi) opS_lt)))) (hJ.pure 5 rfl rfl)
  · refine KStep.plain rfl fun ρ d u W he hc hdi hd hJ => ?_
    have hS : Below W1.drew.heap.size W1.drew W := hJ.at_ 0 rfl hdi (fun j h => by omega)
    exact swp_call (run_call #[.agg #[.int .i64 x.c, .int .u64 x.a, .int .u64 x.b]] (he.func _) (by kernel_rfl) (map1 (he.i hz (hJ.vals 5 (hd 5 (by kernel_rfl))) (j := 5) (d := 31) rfl (by decide)))) (HPa.out W) (fun e W' h => ⟨_, h.1, hJ.go 0 rfl hdi (by decide) (fun j h => by omega) rfl (bstep hS h.2)⟩)
  · refine KStep.plain rfl fun ρ d u W he hc hdi hd hJ => ?_
    have hS : Below W1.drew.heap.size W1.drew W := hJ.at_ 1 rfl hdi (fun j h => by cases h; exact ⟨6, rfl, hd 6 (by kernel_rfl)⟩)
    exact swp_call (run_call #[.agg #[ptr t], x.p.v] (he.func _) (by kernel_rfl) (map2 (he.i hz (hJ.vals 3 (hd 3 (by kernel_rfl))) (j := 3) (d := 29) rfl (by decide)) (he.i hz (hJ.vals 6 (hd 6 (by kernel_rfl))) (j := 6) (d := 32) rfl (by decide)))) (HOp.out W hS) (fun e W' h => ⟨_, h.1, hJ.go 1 rfl hdi (by decide) (fun j h => by cases h; exact ⟨6, rfl, hd 6 (by kernel_rfl)⟩) rfl h.2⟩)
set_option maxHeartbeats 1000000 in
theorem does_com (x : SAct) (hx : x.ok) (hk : pickN x.what 8 = 5 ∨ pickN x.what 8 = 6) (Z : Nat → Prop) (s t n : Nat) (hn : n ≤ 4194304) (f : PM) (l : List PM) (hl : l.length ≤ 900) (w : World) (h : StAt w Z s t n f l) :
    Calls Tryd.prog 9 #[.pointer (some ⟨s, 0, none⟩), .agg x.cs] w fun e w' => e = .returned (.tuple #[]) ∧ ∃ t', StAt w' Z s t' n f (l ++ [f]) ∧ Kp Z w w' := by
  have hpk := fun W => pick9_is x.what 8 hx.w0 hx.w1 (by omega) (by omega) W
  obtain ⟨q, hq⟩ : ∃ q, pickN x.what 8 = q := ⟨_, rfl⟩
  rw [hq] at hk hpk
  have HPK := Lib.hid hpk
  have hW1 := balloc (Below.refl _ w) (.cells x.cs 31)
  have HK0 := Lib.hid (Kp.of_below hW1 h.zlt)
  have HO := Lib.hid (commit_is Z s t n hn f l _ (h.below hW1) hl)
  clear hpk h hq hx
  simp only [SAct.cs] at HO HK0 ⊢
  rcases hk with rfl | rfl
  all_goals (
    go_enter Tryd.func9, Tryd.ntmps9
    go_wp2_with fail
    refine (HPK.out _).mono ?_
    rintro e w1 ⟨rfl, rfl⟩
    go_wp2_with fail
    refine HO.out.mono ?_
    rintro e w2 ⟨rfl, hs2, hk2⟩
    have HS2 := Lib.hid hs2
    have HK2 := Lib.hid (HK0.out.trans hk2)
    clear hs2 hk2
    go_wp2_with fail
    go_end0
    exact ⟨rfl, t, HS2.out, HK2.out⟩)
set_option maxHeartbeats 1000000 in
theorem does_dis (x : SAct) (hx : x.ok) (hk : pickN x.what 8 = 7) (Z : Nat → Prop) (s t n : Nat) (hn : n ≤ 4194304) (f f' : PM) (l : List PM) (hl : l.length ≤ 900) (hf : l.getLast? = some f') (w : World) (h : StAt w Z s t n f l) :
    Calls Tryd.prog 9 #[.pointer (some ⟨s, 0, none⟩), .agg x.cs] w fun e w' => e = .returned (.tuple #[]) ∧ ∃ t', StAt w' Z s t' n f' l ∧ Kp Z w w' := by
  have hpk := fun W => pick9_is x.what 8 hx.w0 hx.w1 (by omega) (by omega) W
  rw [hk] at hpk
  have HPK := Lib.hid hpk
  have hW1 := balloc (Below.refl _ w) (.cells x.cs 31)
  have HK0 := Lib.hid (Kp.of_below hW1 h.zlt)
  have HO := Lib.hid (discard_is Z s t n hn f f' l _ (h.below hW1) (by omega) hf)
  clear hpk h hk hx hf
  simp only [SAct.cs] at HO HK0 ⊢
  go_enter Tryd.func9, Tryd.ntmps9
  go_wp2_with fail
  refine (HPK.out _).mono ?_
  rintro e w1 ⟨rfl, rfl⟩
  go_wp2_with fail
  refine HO.out.mono ?_
  rintro e w2 ⟨rfl, t', hs2, hk2⟩
  have HS2 := Lib.hid hs2
  have HK2 := Lib.hid (HK0.out.trans hk2)
  clear hs2 hk2
  go_wp2_with fail
  go_end0
  exact ⟨rfl, t', HS2.out, HK2.out⟩
theorem StAt.pos {w : World} {Z : Nat → Prop} {s t n : Nat} {f : PM} {l : List PM} (h : StAt w Z s t n f l) : 0 < l.length := by
  obtain ⟨b, g, cap, xs, hc⟩ := h.core
  exact hc.pos
theorem does_is (x : SAct) (hx : x.ok) (Z : Nat → Prop) (s t n : Nat) (hn : n ≤ 4194303) (f : PM) (l : List PM) (hl : l.length ≤ 900) (w : World) (h : StAt w Z s t n f l) :
    Calls Tryd.prog 9 #[.pointer (some ⟨s, 0, none⟩), .agg x.cs] w fun e w' => e = .returned (.tuple #[]) ∧ ∃ t', StAt w' Z s t' (n + 1) (stepF x f l).1 (stepF x f l).2 ∧ Kp Z w w' := by
  have h8 := pickN_lt x.what 8 (by omega)
  unfold stepF
  split
  · exact does_set x hx (by assumption) Z s t n (by unfold maxLen; omega) f l w h
  · split
    · exact does_del x hx (by assumption) Z s t n (by unfold maxLen; omega) f l w h
    · split
      · exact (does_com x hx (by omega) Z s t n (by omega) f l hl w h).mono fun e w' ⟨he, t', hs, hk⟩ => ⟨he, t', hs.mono (by omega), hk⟩
      · obtain ⟨f', hf⟩ : ∃ f', l.getLast? = some f' := by
          have := h.pos
          cases hl : l.getLast? with
          | some f' => exact ⟨f', rfl⟩
          | none => rw [List.getLast?_eq_none_iff] at hl; rw [hl] at this; simp at this
        rw [hf]
        exact (does_dis x hx (by omega) Z s t n (by omega) f f' l hl hf w h).mono fun e w' ⟨he, t', hs, hk⟩ => ⟨he, t', hs.mono (by omega), hk⟩
end Go.Proofs.YtichklplcpkjdaaDoor
