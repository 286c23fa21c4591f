/-
  The walks of the store: New, at, Root, Value.
-/
import Derived.Test.YtichklplcpkjdaaDoorStoD
namespace Go.Proofs.YtichklplcpkjdaaDoor
open Go.RowKit
set_option linter.unusedVariables false

theorem new_st (w w1 w2 : World) (G : Glob w) (F : FormsAt w) (Z : Nat → Prop) (hz : ∀ i, Z i → i < w.heap.size) (hg : ∀ i, i < 3 → Z i)
    (h1 : TAt w1 (w.heap.size + 1) w.heap.size 0 (fun _ => none)) (b1 : Below w.heap.size w w1) (z1 : w1.heap.size = w.heap.size + 2)
    (h2 : TAt w2 (w1.heap.size + 1) w1.heap.size 0 (fun _ => none)) (b2 : Below w1.heap.size w1 w2) (z2 : w2.heap.size = w1.heap.size + 2) :
    StAt ((w2.alloc (.cells #[ptr (w1.heap.size + 1)] 40)).alloc (.cells #[ptr (w.heap.size + 1), .slice (some ⟨w2.heap.size, 0, none⟩) 1 1] 45)) Z (w2.heap.size + 1) (w.heap.size + 1) 0 (fun _ => none) [fun _ => none] ∧ Below w.heap.size w ((w2.alloc (.cells #[ptr (w1.heap.size + 1)] 40)).alloc (.cells #[ptr (w.heap.size + 1), .slice (some ⟨w2.heap.size, 0, none⟩) 1 1] 45)) := by
  have hb : Below w.heap.size w ((w2.alloc (.cells #[ptr (w1.heap.size + 1)] 40)).alloc (.cells #[ptr (w.heap.size + 1), .slice (some ⟨w2.heap.size, 0, none⟩) 1 1] 45)) := balloc (balloc (bstep b1 b2) _) _
  have hn : ∀ i, w.heap.size ≤ i → ¬ Z i := fun i hi h => by have := hz i h; omega
  have e2 : Below w2.heap.size w2 ((w2.alloc (.cells #[ptr (w1.heap.size + 1)] 40)).alloc (.cells #[ptr (w.heap.size + 1), .slice (some ⟨w2.heap.size, 0, none⟩) 1 1] 45)) := balloc (balloc (Below.refl _ _) _) _
  have hB := (Blk.new w2 40 #[ptr (w1.heap.size + 1)]).alloc (.cells #[ptr (w.heap.size + 1), .slice (some ⟨w2.heap.size, 0, none⟩) 1 1] 45)
  have hS := Blk.new (w2.alloc (.cells #[ptr (w1.heap.size + 1)] 40)) 45 #[ptr (w.heap.size + 1), .slice (some ⟨w2.heap.size, 0, none⟩) 1 1]
  rw [show (w2.alloc (.cells #[ptr (w1.heap.size + 1)] 40)).heap.size = w2.heap.size + 1 by simp] at hS
  refine ⟨⟨G.next hb, F.below hb, fun i hi => Nat.lt_of_lt_of_le (hz i hi) hb.size, hg, w.heap.size, w2.heap.size, 1, [(w1.heap.size + 1, w1.heap.size)], hS, (h1.below b2).below e2, ⟨rfl, .inr ⟨_, 1, _, rfl, Nat.zero_le _, hB, Nat.le_refl _, by unfold maxLen; omega, rfl, rfl⟩⟩, ⟨rfl, fun i x f h3 h4 => ?_⟩, by decide, hn _ (by omega), hn _ (Nat.le_refl _), hn _ (by omega)⟩, hb⟩
  match i, h3, h4 with
  | 0, h3, h4 =>
    cases h3
    cases h4
    exact ⟨h2.below e2, by simp only; omega⟩
  | i + 1, h3, h4 => simp at h3
set_option maxHeartbeats 1000000 in
theorem new_is (w : World) (G : Glob w) (F : FormsAt w) (Z : Nat → Prop) (hz : ∀ i, Z i → i < w.heap.size) (hg : ∀ i, i < 3 → Z i) :
    Calls Tryd.prog 8 #[] w fun e w' => ∃ s t, e = .returned (.pointer (some ⟨s, 0, none⟩)) ∧ StAt w' Z s t 0 (fun _ => none) [fun _ => none] ∧ Below w.heap.size w w' := by
  have HS := Lib.hid (fun w1 w2 => new_st w w1 w2 G F Z hz hg)
  clear G F hz hg
  go_enter Tryd.func8, Tryd.ntmps8
  go_wp2_with fail
  refine (tnew_is _).mono ?_
  rintro e w1 ⟨rfl, h1, b1, z1⟩
  have H1 := Lib.hid (And.intro h1 (And.intro b1 z1))
  clear h1 b1 z1
  go_wp2_with fail
  refine (tnew_is _).mono ?_
  rintro e w2 ⟨rfl, h2, b2, z2⟩
  have H2 := Lib.hid (HS.out w1 w2 H1.out.1 H1.out.2.1 H1.out.2.2 h2 b2 z2)
  clear h2 b2 z2
  simp only [ptr] at H2
  go_wp2_with fail
  go_ret
  exact ⟨_, _, rfl, H2.out⟩
set_option maxHeartbeats 1000000 in
theorem at_bad (i : Int) (hlo : -9223372036854775808 ≤ i) (hhi : i ≤ 9223372036854775807) (Z : Nat → Prop) (s t n : Nat) (f : PM) (l : List PM) (w : World) (h : StAt w Z s t n f l) (hl : l.length ≤ 1000) (hi : i < 0 ∨ (l.length : Int) ≤ i) :
    Calls Tryd.prog 28 #[.pointer (some ⟨s, 0, none⟩), .int .i64 i] w fun e w' => e = .returned (.tuple #[.agg #[.pointer none], .int .i64 90]) ∧ Below w.heap.size w w' := by
  have HH := Lib.hid (fun W hb => height_is Z s t n f l W (h.below hb) hl)
  clear h
  generalize l.length = k at HH hl hi
  have hcell := Blk.new w 42 #[.pointer none]
  have c0 := hcell.cell 0
  have f0 := hcell.frozen 0
  have HB := Lib.hid (balloc (Below.refl _ w) (.cells #[.pointer none] 42))
  clear hcell
  by_cases h0 : i < 0
  · go_enter Tryd.func28, Tryd.ntmps28
    go_wp2_with fail
    refine bodyPost_ret (v := .tuple #[.agg #[.pointer none], .int .i64 90]) ?_ rfl ⟨rfl, HB.out⟩
    simp [results, Tryd.results28, go_sem]
  · have h1 : (k : Int) - 1 < i := by omega
    go_enter Tryd.func28, Tryd.ntmps28
    go_wp2_with fail
    refine (HH.out _ HB.out).mono ?_
    rintro e w1 ⟨rfl, rfl⟩
    go_wp2_with fail
    refine bodyPost_ret (v := .tuple #[.agg #[.pointer none], .int .i64 90]) ?_ rfl ⟨rfl, HB.out⟩
    simp [results, Tryd.results28, go_sem]
set_option maxHeartbeats 1000000 in
theorem at_good (i : Nat) (Z : Nat → Prop) (s t n : Nat) (f : PM) (l : List PM) (w : World) (h : StAt w Z s t n f l) (hl : l.length ≤ 1000) (hi : i < l.length) :
    Calls Tryd.prog 28 #[.pointer (some ⟨s, 0, none⟩), .int .i64 (i : Int)] w fun e w' => ∃ x y, e = .returned (.tuple #[.agg #[ptr x], .int .i64 0]) ∧ TAt w' x y n l[i] ∧ Below w.heap.size w w' := by
  have HH := Lib.hid (fun W hb => height_is Z s t n f l W (h.below hb) hl)
  have hcell := Blk.new w 42 #[.pointer none]
  have HB := Lib.hid (balloc (Below.refl _ w) (.cells #[.pointer none] 42))
  obtain ⟨g, cap, x, y, hb, hp, hT⟩ := h.old hi
  have HT := Lib.hid hT
  have c1 := (hb.below HB.out).cell 1
  have hne : g ≠ w.heap.size := fun e => by have := World.block_lt_of_cell? w _ hp; simp only at this; omega
  have hpc : (w.alloc (.cells #[.pointer none] 42)).cell? ⟨g, i, none⟩ = some (ptr x) := (HB.out.cell (p := ⟨g, i, none⟩) (World.block_lt_of_cell? w _ hp)).trans hp
  clear h hb hT hp
  generalize l[i] = fi at HT ⊢
  generalize l.length = k at HH hl hi c1
  simp only [ptr] at hpc ⊢
  have c0 := hcell.cell 0
  have f0 := hcell.frozen 0
  have h0 : ¬ (i : Int) < 0 := by omega
  have h1 : ¬ (k : Int) - 1 < i := by omega
  clear hcell
  go_enter Tryd.func28, Tryd.ntmps28
  go_wp2_with fail
  refine (HH.out _ HB.out).mono ?_
  rintro e w1 ⟨rfl, rfl⟩
  go_wp2_with fail
  refine bodyPost_ret (v := .tuple #[.agg #[.pointer (some ⟨x, 0, none⟩)], .int .i64 0]) ?_ rfl ⟨x, y, rfl, HT.out.below (balloc (Below.refl _ w) _), balloc (Below.refl _ w) _⟩
  simp [results, Tryd.results28, go_sem]
end Go.Proofs.YtichklplcpkjdaaDoor
