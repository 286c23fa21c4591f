/-
  The walk of awake (chapter 18's example).
-/
import Derived.Test.YtpekbnkmnellpaaDoorAwake18
namespace Go.Proofs.YtpekbnkmnellpaaDoor
open Go.RowKit Go.Maps
set_option linter.unusedVariables false

/-- what awake holds between its calls: two flows, two packets -/
structure Aw (w : World) (N : Nat) (A B : FB) (wi : World) : Prop where
  bel : Below N w wi
  size : N ≤ w.heap.size
theorem fb_ge (M : Nat) : ∀ x ∈ (FB.mk (M + 3) M (M + 1) (M + 2)).l, M ≤ x := by simp [FB.l]
theorem fb_lt (M : Nat) : ∀ x ∈ (FB.mk (M + 3) M (M + 1) (M + 2)).l, x < M + 4 := by simp [FB.l]
set_option maxRecDepth 100000 in
set_option maxHeartbeats 4000000 in
theorem awake_ok (w : World) (G : Glob w) : Calls Tryd.prog 13 #[] w fun e w' => e = .returned (.bool true) ∧ Below w.heap.size w w' := by
  have HG := Lib.hid G
  have h2 := G.two
  clear G
  go_enter Tryd.func13, Tryd.ntmps13
  go_wp2_with fail
  refine (newflow_is true w).mono ?_
  rintro e w1 ⟨rfl, hf1, hb1, hs1⟩
  have HFA := Lib.hid hf1
  have HB1 := Lib.hid hb1
  have HS1 := Lib.hid hs1
  have HG1 := Lib.hid (HG.out.below hb1 h2)
  clear hf1 hb1 hs1
  go_wp2_with fail
  refine (newflow_is true w1).mono ?_
  rintro e w2 ⟨rfl, hf2, hb2, hs2⟩
  have HFB := Lib.hid hf2
  have HFA2 := Lib.hid (HFA.out.below hb2)
  have HB2 := Lib.hid (bstep HB1.out hb2)
  have HG2 := Lib.hid (HG1.out.below hb2 HG1.out.two)
  have HN : Hid (∃ A B : FB, A.f = w.heap.size + 3 ∧ B.f = w1.heap.size + 3 ∧ FlowAt w2 A 0 (Fl.new true) ∧ FlowAt w2 B 0 (Fl.new true) ∧ (∀ x ∈ A.l, w.heap.size ≤ x) ∧ (∀ x ∈ B.l, w.heap.size ≤ x) ∧ (∀ x ∈ A.l, x ∉ B.l)) :=
    Lib.hid ⟨_, _, rfl, rfl, HFA2.out, HFB.out, fb_ge _, fun x hx => by have := fb_ge _ x hx; have := HS1.out; omega, fun x hx hx' => by have := fb_lt _ x hx; have := fb_ge _ x hx'; have := HS1.out; omega⟩
  clear hf2 hb2 hs2 HFA HFA2 HFB HB1 HG1
  obtain ⟨A, B, hA, hB, hfa, hfb, hgeA, hgeB, hAB⟩ := HN.out
  rw [← hA, ← hB]
  have HFA := Lib.hid hfa
  have HFB := Lib.hid hfb
  have HGA := Lib.hid hgeA
  have HGB := Lib.hid hgeB
  have HAB := Lib.hid hAB
  clear hA hB hfa hfb hgeA hgeB hAB HN HS1
  clear w1
  go_wp2_with fail
  refine (sendX w2 HG2.out A HFA.out).mono ?_
  rintro e w3 ⟨rfl, hfa3, ho3⟩
  have HB3 := Lib.hid (Only.from HB2.out ho3 HGA.out)
  have HG3 := Lib.hid (HG2.out.only ho3 (fun x hx => Nat.le_trans h2 (HGA.out x hx)))
  have HFB3 := Lib.hid (HFB.out.kept ho3 (fun x hx hx' => HAB.out x hx' hx))
  have HFA3 := Lib.hid hfa3
  clear hfa3 ho3 HFA HFB HB2 HG2
  clear w2
  go_wp2_with fail
  refine (sendY (w3.alloc (.cells cX 24)) (HG3.out.alloc _) A _ (HFA3.out.alloc _)).mono ?_
  rintro e w4 ⟨rfl, hfa4, ho4⟩
  have HB4 := Lib.hid (Only.from (balloc HB3.out _) ho4 HGA.out)
  have HG4 := Lib.hid ((HG3.out.alloc _).only ho4 (fun x hx => Nat.le_trans h2 (HGA.out x hx)))
  have HFB4 := Lib.hid ((HFB3.out.alloc _).kept ho4 (fun x hx hx' => HAB.out x hx' hx))
  have HFA4 := Lib.hid hfa4
  have HX4 := Lib.hid ((Blk.new w3 24 cX).only ho4 (fun hm => by have := HFA3.out.lt _ hm; omega))
  have HPA : Hid (w3.heap.size ∉ A.l) := Lib.hid (fun hm => by have := HFA3.out.lt _ hm; omega)
  have HPB : Hid (w3.heap.size ∉ B.l) := Lib.hid (fun hm => by have := HFB3.out.lt _ hm; omega)
  clear hfa4 ho4 HFA3 HFB3 HB3 HG3
  generalize w3.heap.size = P at HX4 HPA HPB ⊢
  clear w3
  have HQB : Hid (w4.heap.size ∉ B.l) := Lib.hid (fun hm => by have := HFB4.out.lt _ hm; omega)
  have HB5 := Lib.hid (balloc HB4.out (.cells cY 24))
  have HG5 := Lib.hid (HG4.out.alloc (.cells cY 24))
  have HFA5 := Lib.hid (HFA4.out.alloc (.cells cY 24))
  have HFB5 := Lib.hid (HFB4.out.alloc (.cells cY 24))
  have HX5 := Lib.hid (HX4.out.alloc (.cells cY 24))
  have HY5 := Lib.hid (Blk.new w4 24 cY)
  go_upto_region 7 with fail
  generalize w4.alloc (.cells cY 24) = w5 at HB5 HG5 HFA5 HFB5 HX5 HY5 ⊢
  generalize w4.heap.size = Q at HQB HY5 ⊢
  clear HB4 HG4 HFA4 HFB4 HX4
  clear w4
  have y0 : w5.cell? ⟨Q, 0, none⟩ = some (.int .u64 2) := HY5.out.cell 0
  have y1 : w5.cell? ⟨Q, 1, none⟩ = some (.int .u64 1) := HY5.out.cell 1
  have y2 : w5.cell? ⟨Q, 2, none⟩ = some (.int .u64 2) := HY5.out.cell 2
  have y3 : w5.cell? ⟨Q, 3, none⟩ = some (.string ⟨#[121]⟩) := HY5.out.cell 3
  have y4 : w5.cell? ⟨Q, 4, none⟩ = some (.int .u64 9) := HY5.out.cell 4
  go_wp2_with fail
  refine (recv1 w5 B HFB5.out).mono ?_
  rintro e w6 ⟨rfl, hb6⟩
  have HB6 := Lib.hid (bstep HB5.out hb6)
  have HG6 := Lib.hid (HG5.out.below hb6 HG5.out.two)
  have HFA6 := Lib.hid (HFA5.out.below hb6)
  have HFB6 := Lib.hid (HFB5.out.below hb6)
  have HX6 := Lib.hid (HX5.out.below hb6)
  have HY6 := Lib.hid (HY5.out.below hb6)
  clear hb6 HB5 HG5 HFA5 HFB5 HX5 HY5 y0 y1 y2 y3 y4
  clear w5
  have x0 : w6.cell? ⟨P, 0, none⟩ = some (.int .u64 1) := HX6.out.cell 0
  have x1 : w6.cell? ⟨P, 1, none⟩ = some (.int .u64 1) := HX6.out.cell 1
  have x2 : w6.cell? ⟨P, 2, none⟩ = some (.int .u64 2) := HX6.out.cell 2
  have x3 : w6.cell? ⟨P, 3, none⟩ = some (.string ⟨#[120]⟩) := HX6.out.cell 3
  have x4 : w6.cell? ⟨P, 4, none⟩ = some (.int .u64 0) := HX6.out.cell 4
  go_wp2_with fail
  refine (recv2 w6 B HFB6.out).mono ?_
  rintro e w7 ⟨rfl, hfb7, ho7⟩
  have HB7 := Lib.hid (Only.from HB6.out ho7 HGB.out)
  have HG7 := Lib.hid (HG6.out.only ho7 (fun x hx => Nat.le_trans h2 (HGB.out x hx)))
  have HFA7 := Lib.hid (HFA6.out.kept ho7 (fun x hx hx' => HAB.out x hx hx'))
  have HFB7 := Lib.hid hfb7
  have HX7 := Lib.hid (HX6.out.only ho7 HPB.out)
  have HY7 := Lib.hid (HY6.out.only ho7 HQB.out)
  clear ho7 hfb7 HB6 HG6 HFA6 HFB6 HX6 HY6 x0 x1 x2 x3 x4
  clear w6
  have x0 : w7.cell? ⟨P, 0, none⟩ = some (.int .u64 1) := HX7.out.cell 0
  have x1 : w7.cell? ⟨P, 1, none⟩ = some (.int .u64 1) := HX7.out.cell 1
  have x2 : w7.cell? ⟨P, 2, none⟩ = some (.int .u64 2) := HX7.out.cell 2
  have x3 : w7.cell? ⟨P, 3, none⟩ = some (.string ⟨#[120]⟩) := HX7.out.cell 3
  have x4 : w7.cell? ⟨P, 4, none⟩ = some (.int .u64 0) := HX7.out.cell 4
  go_wp2_with fail
  refine (recv3 w7 B HFB7.out).mono ?_
  rintro e w8 ⟨rfl, hb8⟩
  have HB8 := Lib.hid (bstep HB7.out hb8)
  have HG8 := Lib.hid (HG7.out.below hb8 HG7.out.two)
  have HFA8 := Lib.hid (HFA7.out.below hb8)
  have HFB8 := Lib.hid (HFB7.out.below hb8)
  have HX8 := Lib.hid (HX7.out.below hb8)
  have HY8 := Lib.hid (HY7.out.below hb8)
  clear hb8 HB7 HG7 HFA7 HFB7 HX7 HY7 x0 x1 x2 x3 x4
  clear w7
  have y0 : w8.cell? ⟨Q, 0, none⟩ = some (.int .u64 2) := HY8.out.cell 0
  have y1 : w8.cell? ⟨Q, 1, none⟩ = some (.int .u64 1) := HY8.out.cell 1
  have y2 : w8.cell? ⟨Q, 2, none⟩ = some (.int .u64 2) := HY8.out.cell 2
  have y3 : w8.cell? ⟨Q, 3, none⟩ = some (.string ⟨#[121]⟩) := HY8.out.cell 3
  have y4 : w8.cell? ⟨Q, 4, none⟩ = some (.int .u64 9) := HY8.out.cell 4
  go_wp2_with fail
  refine (recv4 w8 B HFB8.out).mono ?_
  rintro e w9 ⟨rfl, hb9⟩
  have HB9 := Lib.hid (bstep HB8.out hb9)
  have HG9 := Lib.hid (HG8.out.below hb9 HG8.out.two)
  have HFA9 := Lib.hid (HFA8.out.below hb9)
  have HFB9 := Lib.hid (HFB8.out.below hb9)
  have HX9 := Lib.hid (HX8.out.below hb9)
  have HY9 := Lib.hid (HY8.out.below hb9)
  clear hb9 HB8 HG8 HFA8 HFB8 HX8 HY8 y0 y1 y2 y3 y4
  clear w8
  go_wp2_with fail
  refine (sent1 w9 A _ _ HFA9.out).mono ?_
  rintro e w1 ⟨rfl, rfl⟩
  have x0 : w9.cell? ⟨P, 0, none⟩ = some (.int .u64 1) := HX9.out.cell 0
  have x1 : w9.cell? ⟨P, 1, none⟩ = some (.int .u64 1) := HX9.out.cell 1
  have x2 : w9.cell? ⟨P, 2, none⟩ = some (.int .u64 2) := HX9.out.cell 2
  have x3 : w9.cell? ⟨P, 3, none⟩ = some (.string ⟨#[120]⟩) := HX9.out.cell 3
  have x4 : w9.cell? ⟨P, 4, none⟩ = some (.int .u64 0) := HX9.out.cell 4
  go_wp2_with fail
  refine (commX w9 HG9.out).mono ?_
  rintro e w10 ⟨rfl, hb10⟩
  have HB10 := Lib.hid (bstep HB9.out hb10)
  have HFB10 := Lib.hid (HFB9.out.below hb10)
  have HY10 := Lib.hid (HY9.out.below hb10)
  clear hb10 HB9 HG9 HFA9 HFB9 HX9 HY9 x0 x1 x2 x3 x4
  clear w9
  have y0 : w10.cell? ⟨Q, 0, none⟩ = some (.int .u64 2) := HY10.out.cell 0
  go_wp2_with fail
  refine (came1 w10 B HFB10.out).mono ?_
  rintro e w1 ⟨rfl, rfl⟩
  go_wp2_with fail
  go_ret
  exact ⟨rfl, HB10.out⟩
end Go.Proofs.YtpekbnkmnellpaaDoor
