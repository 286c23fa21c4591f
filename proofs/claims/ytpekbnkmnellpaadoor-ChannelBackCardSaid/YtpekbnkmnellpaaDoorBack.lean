/-
  The walk of ChannelBack.
-/
import Derived.Test.YtpekbnkmnellpaaDoorFit
import Derived.Test.YtpekbnkmnellpaaDoorEqs
import Derived.Test.YtpekbnkmnellpaaDoorOpenC
namespace Go.Proofs.YtpekbnkmnellpaaDoor
open Go.RowKit
set_option linter.unusedVariables false

/-- two ends in two blocks -/
structure CB (w : World) (N : Nat) (a b : Ch) (W : World) : Prop where
  a : Blk W N 57 a.cs
  b : Blk W (N + 1) 57 b.cs
  bel : Below w.heap.size w W
  glob : Glob W
  n : w.heap.size ≤ N
  two : 2 ≤ w.heap.size
section
variable {w : World} {N : Nat} {a b : Ch} {W W' : World}
theorem CB.below (h : CB w N a b W) (hb : Below W.heap.size W W') : CB w N a b W' := ⟨h.a.below hb, h.b.below hb, bstep h.bel hb, h.glob.below hb h.glob.two, h.n, h.two⟩
theorem CB.setA (h : CB w N a b W) (c : Ch) : CB w N c b ((((((W.setCell ⟨N, 0, none⟩ (.int .i64 c.state)).setCell ⟨N, 1, none⟩ (.bool c.ordered)).setCell ⟨N, 2, none⟩ (.int .u64 c.link)).setCell ⟨N, 3, none⟩ (.int .u64 c.peer)).setCell ⟨N, 4, none⟩ (.string c.port)).setCell ⟨N, 5, none⟩ (.string c.pport)) := by
  have ho := ((((((Only.refl [N] W).set_ (g := N) (i := 0) (by simp) (.int .i64 c.state)).set_ (g := N) (i := 1) (by simp) (.bool c.ordered)).set_ (g := N) (i := 2) (by simp) (.int .u64 c.link)).set_ (g := N) (i := 3) (by simp) (.int .u64 c.peer)).set_ (g := N) (i := 4) (by simp) (.string c.port)).set_ (g := N) (i := 5) (by simp) (.string c.pport)
  exact ⟨(((((h.a.set_ 0 _).set_ 1 _).set_ 2 _).set_ 3 _).set_ 4 _).set_ 5 _, h.b.only ho (by simp), h.bel.trans (ho.below (by simp; exact h.n) h.bel.size), h.glob.only ho (fun x hx => by have := h.two; have := h.n; simp at hx; omega), h.n, h.two⟩
theorem CB.setB (h : CB w N a b W) (c : Ch) : CB w N a c ((((((W.setCell ⟨N + 1, 0, none⟩ (.int .i64 c.state)).setCell ⟨N + 1, 1, none⟩ (.bool c.ordered)).setCell ⟨N + 1, 2, none⟩ (.int .u64 c.link)).setCell ⟨N + 1, 3, none⟩ (.int .u64 c.peer)).setCell ⟨N + 1, 4, none⟩ (.string c.port)).setCell ⟨N + 1, 5, none⟩ (.string c.pport)) := by
  have ho := ((((((Only.refl [N + 1] W).set_ (g := N + 1) (i := 0) (by simp) (.int .i64 c.state)).set_ (g := N + 1) (i := 1) (by simp) (.bool c.ordered)).set_ (g := N + 1) (i := 2) (by simp) (.int .u64 c.link)).set_ (g := N + 1) (i := 3) (by simp) (.int .u64 c.peer)).set_ (g := N + 1) (i := 4) (by simp) (.string c.port)).set_ (g := N + 1) (i := 5) (by simp) (.string c.pport)
  exact ⟨h.a.only ho (by simp), (((((h.b.set_ 0 _).set_ 1 _).set_ 2 _).set_ 3 _).set_ 4 _).set_ 5 _, h.bel.trans (ho.below (by have := h.n; simp; omega) h.bel.size), h.glob.only ho (fun x hx => by have := h.two; have := h.n; simp at hx; omega), h.n, h.two⟩
end
theorem back_pure (A B : Ch) (hA : A.ok) (hB : B.ok) (rA : A.rightB = true) (rB : B.rightB = true) : A.layE = 0 ∧ B.layE = 0 ∧ takeC A.layV = A ∧ takeE A.layV = 0 ∧ (A.layV.toList == B.layV.toList) = A.eqB B ∧ A.layV.size ≤ 1000 := by
  have vA : A.layV = ⟨A.layL.toArray⟩ := by unfold Ch.layV; rw [rA]; rfl
  have vB : B.layV = ⟨B.layL.toArray⟩ := by unfold Ch.layV; rw [rB]; rfl
  obtain ⟨t1, t2⟩ := take_lay A hA rA A.layV (by rw [vA, bl_mk])
  refine ⟨by unfold Ch.layE; rw [rA]; rfl, by unfold Ch.layE; rw [rB]; rfl, by unfold takeC; rw [t1, t2]; rfl, by unfold takeE; rw [t1]; rfl, ?_, ?_⟩
  · rw [Bool.eq_iff_iff, bytes_eq, Ch.eqB_iff]
    constructor
    · intro h
      have : A.layL ++ [] = B.layL ++ [] := by
        rw [List.append_nil, List.append_nil, ← bl_mk A.layL, ← bl_mk B.layL, ← vA, ← vB, h]
      exact (lay_prefix A B hA hB rA rB [] [] this).1
    · intro h; rw [h]
  · obtain ⟨h1, h2, h3, h4, h5⟩ := rightB_parts A rA
    rw [vA]
    show A.layL.toArray.size ≤ 1000
    rw [List.size_toArray]
    simp only [Ch.layL, List.length_append, nB_len, numsL_len, len_data, List.length_cons, List.length_nil]
    omega
set_option maxRecDepth 100000 in
set_option maxHeartbeats 1000000 in
theorem back_walk (w : World) (G : Glob w) (a b : Ch) (ha : a.ok) (hb : b.ok) :
    Calls Tryd.prog 10 #[a.v, b.v] w fun e w' => e = .returned (.bool true) ∧ Below w.heap.size w w' := by
  have hp := back_pure a.fit b.fit (fit_ok a ha) (fit_ok b hb) (fit_right a) (fit_right b)
  have HfA : Hid (∀ W, Calls Tryd.prog 47 #[.agg #[.int .i64 a.state, .bool a.ordered, .int .u64 a.link, .int .u64 a.peer, .string a.port, .string a.pport]] W fun e w' => e = .returned (.agg #[.int .i64 a.fit.state, .bool a.fit.ordered, .int .u64 a.fit.link, .int .u64 a.fit.peer, .string a.fit.port, .string a.fit.pport]) ∧ Below W.heap.size W w') := Lib.hid (fun W => fit_is a W ha)
  have HfB : Hid (∀ W, Calls Tryd.prog 47 #[.agg #[.int .i64 b.state, .bool b.ordered, .int .u64 b.link, .int .u64 b.peer, .string b.port, .string b.pport]] W fun e w' => e = .returned (.agg #[.int .i64 b.fit.state, .bool b.fit.ordered, .int .u64 b.fit.link, .int .u64 b.fit.peer, .string b.fit.port, .string b.fit.pport]) ∧ Below W.heap.size W w') := Lib.hid (fun W => fit_is b W hb)
  have hoA := fit_ok a ha
  have hoB := fit_ok b hb
  show Calls Tryd.prog 10 #[.agg #[.int .i64 a.state, .bool a.ordered, .int .u64 a.link, .int .u64 a.peer, .string a.port, .string a.pport], .agg #[.int .i64 b.state, .bool b.ordered, .int .u64 b.link, .int .u64 b.peer, .string b.port, .string b.pport]] w _
  generalize a.fit = A at hp HfA hoA
  generalize b.fit = B at hp HfB hoB
  obtain ⟨eA, eB, tC, tE, hSe, hSz⟩ := hp
  have HlA : Hid (∀ W, Calls Tryd.prog 48 #[.agg #[.int .i64 A.state, .bool A.ordered, .int .u64 A.link, .int .u64 A.peer, .string A.port, .string A.pport]] W fun e w' => e = .returned (.tuple #[.string A.layV, .int .i64 0]) ∧ Below W.heap.size W w') := Lib.hid (fun W => by have := chlay_is A W hoA; rw [eA] at this; exact this)
  have HlB : Hid (∀ W, Calls Tryd.prog 48 #[.agg #[.int .i64 B.state, .bool B.ordered, .int .u64 B.link, .int .u64 B.peer, .string B.port, .string B.pport]] W fun e w' => e = .returned (.tuple #[.string B.layV, .int .i64 0]) ∧ Below W.heap.size W w') := Lib.hid (fun W => by have := chlay_is B W hoB; rw [eB] at this; exact this)
  have HtA : Hid (∀ W, Calls Tryd.prog 49 #[.string A.layV] W fun e w' => e = .returned (.tuple #[.agg #[.int .i64 A.state, .bool A.ordered, .int .u64 A.link, .int .u64 A.peer, .string A.port, .string A.pport], .int .i64 0]) ∧ Below W.heap.size W w') := Lib.hid (fun W => by have := take_is A.layV W (by omega); rw [tC, tE] at this; exact this)
  have HSe := Lib.hid hSe
  clear eA eB tC tE hSe hSz ha hb hoA hoB
  generalize A.layV = S at HlA HtA HSe
  generalize B.layV = T at HlB HSe
  have HG := Lib.hid G
  have h2w := G.two
  clear G
  go_enter Tryd.func10, Tryd.ntmps10
  go_wp2_with fail
  have HC : Hid (CB w w.heap.size a b ((w.alloc (.cells #[.int .i64 a.state, .bool a.ordered, .int .u64 a.link, .int .u64 a.peer, .string a.port, .string a.pport] 57)).alloc (.cells #[.int .i64 b.state, .bool b.ordered, .int .u64 b.link, .int .u64 b.peer, .string b.port, .string b.pport] 57))) := Lib.hid ⟨(Blk.new w _ _).alloc _, by have := Blk.new (w.alloc (.cells #[.int .i64 a.state, .bool a.ordered, .int .u64 a.link, .int .u64 a.peer, .string a.port, .string a.pport] 57)) 57 #[.int .i64 b.state, .bool b.ordered, .int .u64 b.link, .int .u64 b.peer, .string b.port, .string b.pport]; rwa [show (w.alloc (.cells #[.int .i64 a.state, .bool a.ordered, .int .u64 a.link, .int .u64 a.peer, .string a.port, .string a.pport] 57)).heap.size = w.heap.size + 1 by simp] at this, balloc (balloc (Below.refl _ w) _) _, (HG.out.alloc _).alloc _, Nat.le_refl _, h2w⟩
  clear HG
  generalize (w.alloc (.cells #[.int .i64 a.state, .bool a.ordered, .int .u64 a.link, .int .u64 a.peer, .string a.port, .string a.pport] 57)).alloc (.cells #[.int .i64 b.state, .bool b.ordered, .int .u64 b.link, .int .u64 b.peer, .string b.port, .string b.pport] 57) = w0 at HC ⊢
  refine (awake_ok w0 HC.out.glob).mono ?_
  rintro e w1 ⟨rfl, hb1⟩
  have HC1 := Lib.hid (HC.out.below hb1)
  clear hb1 HC
  have c0 : w1.cell? ⟨w.heap.size, 0, none⟩ = some (.int .i64 a.state) := HC1.out.a.cell 0
  have c1 : w1.cell? ⟨w.heap.size, 1, none⟩ = some (.bool a.ordered) := HC1.out.a.cell 1
  have c2 : w1.cell? ⟨w.heap.size, 2, none⟩ = some (.int .u64 a.link) := HC1.out.a.cell 2
  have c3 : w1.cell? ⟨w.heap.size, 3, none⟩ = some (.int .u64 a.peer) := HC1.out.a.cell 3
  have c4 : w1.cell? ⟨w.heap.size, 4, none⟩ = some (.string a.port) := HC1.out.a.cell 4
  have c5 : w1.cell? ⟨w.heap.size, 5, none⟩ = some (.string a.pport) := HC1.out.a.cell 5
  go_wp2_with fail
  refine (HfA.out w1).mono ?_
  rintro e w2 ⟨rfl, hb⟩
  have HC2 := Lib.hid (HC1.out.below hb)
  clear hb c0 c1 c2 c3 c4 c5 HC1
  have d0 : w2.cell? ⟨w.heap.size, 0, none⟩ = some (.int .i64 a.state) := HC2.out.a.cell 0
  have d1 : w2.cell? ⟨w.heap.size, 1, none⟩ = some (.bool a.ordered) := HC2.out.a.cell 1
  have d2 : w2.cell? ⟨w.heap.size, 2, none⟩ = some (.int .u64 a.link) := HC2.out.a.cell 2
  have d3 : w2.cell? ⟨w.heap.size, 3, none⟩ = some (.int .u64 a.peer) := HC2.out.a.cell 3
  have d4 : w2.cell? ⟨w.heap.size, 4, none⟩ = some (.string a.port) := HC2.out.a.cell 4
  have d5 : w2.cell? ⟨w.heap.size, 5, none⟩ = some (.string a.pport) := HC2.out.a.cell 5
  have f0 := HC2.out.a.frozen 0
  have f1 := HC2.out.a.frozen 1
  have f2 := HC2.out.a.frozen 2
  have f3 := HC2.out.a.frozen 3
  have f4 := HC2.out.a.frozen 4
  have f5 := HC2.out.a.frozen 5
  go_upto_region 3 with fail
  have HC3 := Lib.hid (HC2.out.setA A)
  clear d0 d1 d2 d3 d4 d5 f0 f1 f2 f3 f4 f5 HC2
  generalize (((((w2.setCell ⟨w.heap.size, 0, none⟩ (.int .i64 A.state)).setCell ⟨w.heap.size, 1, none⟩ (.bool A.ordered)).setCell ⟨w.heap.size, 2, none⟩ (.int .u64 A.link)).setCell ⟨w.heap.size, 3, none⟩ (.int .u64 A.peer)).setCell ⟨w.heap.size, 4, none⟩ (.string A.port)).setCell ⟨w.heap.size, 5, none⟩ (.string A.pport) = w3 at HC3 ⊢
  have c0 : w3.cell? ⟨w.heap.size + 1, 0, none⟩ = some (.int .i64 b.state) := HC3.out.b.cell 0
  have c1 : w3.cell? ⟨w.heap.size + 1, 1, none⟩ = some (.bool b.ordered) := HC3.out.b.cell 1
  have c2 : w3.cell? ⟨w.heap.size + 1, 2, none⟩ = some (.int .u64 b.link) := HC3.out.b.cell 2
  have c3 : w3.cell? ⟨w.heap.size + 1, 3, none⟩ = some (.int .u64 b.peer) := HC3.out.b.cell 3
  have c4 : w3.cell? ⟨w.heap.size + 1, 4, none⟩ = some (.string b.port) := HC3.out.b.cell 4
  have c5 : w3.cell? ⟨w.heap.size + 1, 5, none⟩ = some (.string b.pport) := HC3.out.b.cell 5
  go_wp2_with fail
  refine (HfB.out w3).mono ?_
  rintro e w4 ⟨rfl, hb⟩
  have HC4 := Lib.hid (HC3.out.below hb)
  clear hb c0 c1 c2 c3 c4 c5 HC3
  have d0 : w4.cell? ⟨w.heap.size + 1, 0, none⟩ = some (.int .i64 b.state) := HC4.out.b.cell 0
  have d1 : w4.cell? ⟨w.heap.size + 1, 1, none⟩ = some (.bool b.ordered) := HC4.out.b.cell 1
  have d2 : w4.cell? ⟨w.heap.size + 1, 2, none⟩ = some (.int .u64 b.link) := HC4.out.b.cell 2
  have d3 : w4.cell? ⟨w.heap.size + 1, 3, none⟩ = some (.int .u64 b.peer) := HC4.out.b.cell 3
  have d4 : w4.cell? ⟨w.heap.size + 1, 4, none⟩ = some (.string b.port) := HC4.out.b.cell 4
  have d5 : w4.cell? ⟨w.heap.size + 1, 5, none⟩ = some (.string b.pport) := HC4.out.b.cell 5
  have f0 := HC4.out.b.frozen 0
  have f1 := HC4.out.b.frozen 1
  have f2 := HC4.out.b.frozen 2
  have f3 := HC4.out.b.frozen 3
  have f4 := HC4.out.b.frozen 4
  have f5 := HC4.out.b.frozen 5
  go_upto_region 4 with fail
  have HC5 := Lib.hid (HC4.out.setB B)
  clear d0 d1 d2 d3 d4 d5 f0 f1 f2 f3 f4 f5 HC4
  generalize (((((w4.setCell ⟨w.heap.size + 1, 0, none⟩ (.int .i64 B.state)).setCell ⟨w.heap.size + 1, 1, none⟩ (.bool B.ordered)).setCell ⟨w.heap.size + 1, 2, none⟩ (.int .u64 B.link)).setCell ⟨w.heap.size + 1, 3, none⟩ (.int .u64 B.peer)).setCell ⟨w.heap.size + 1, 4, none⟩ (.string B.port)).setCell ⟨w.heap.size + 1, 5, none⟩ (.string B.pport) = w5 at HC5 ⊢
  have c0 : w5.cell? ⟨w.heap.size, 0, none⟩ = some (.int .i64 A.state) := HC5.out.a.cell 0
  have c1 : w5.cell? ⟨w.heap.size, 1, none⟩ = some (.bool A.ordered) := HC5.out.a.cell 1
  have c2 : w5.cell? ⟨w.heap.size, 2, none⟩ = some (.int .u64 A.link) := HC5.out.a.cell 2
  have c3 : w5.cell? ⟨w.heap.size, 3, none⟩ = some (.int .u64 A.peer) := HC5.out.a.cell 3
  have c4 : w5.cell? ⟨w.heap.size, 4, none⟩ = some (.string A.port) := HC5.out.a.cell 4
  have c5 : w5.cell? ⟨w.heap.size, 5, none⟩ = some (.string A.pport) := HC5.out.a.cell 5
  go_wp2_with fail
  refine (HlA.out w5).mono ?_
  rintro e w6 ⟨rfl, hb⟩
  have HC6 := Lib.hid (HC5.out.below hb)
  clear hb c0 c1 c2 c3 c4 c5 HC5
  have c0 : w6.cell? ⟨w.heap.size + 1, 0, none⟩ = some (.int .i64 B.state) := HC6.out.b.cell 0
  have c1 : w6.cell? ⟨w.heap.size + 1, 1, none⟩ = some (.bool B.ordered) := HC6.out.b.cell 1
  have c2 : w6.cell? ⟨w.heap.size + 1, 2, none⟩ = some (.int .u64 B.link) := HC6.out.b.cell 2
  have c3 : w6.cell? ⟨w.heap.size + 1, 3, none⟩ = some (.int .u64 B.peer) := HC6.out.b.cell 3
  have c4 : w6.cell? ⟨w.heap.size + 1, 4, none⟩ = some (.string B.port) := HC6.out.b.cell 4
  have c5 : w6.cell? ⟨w.heap.size + 1, 5, none⟩ = some (.string B.pport) := HC6.out.b.cell 5
  go_wp2_with fail
  refine (HlB.out w6).mono ?_
  rintro e w7 ⟨rfl, hb⟩
  have HC7 := Lib.hid (HC6.out.below hb)
  clear hb c0 c1 c2 c3 c4 c5 HC6
  go_wp2_with fail
  refine (HtA.out w7).mono ?_
  rintro e w8 ⟨rfl, hb⟩
  have HC8 := Lib.hid (HC7.out.below hb)
  clear hb HC7
  go_upto_region 7 with fail
  have HN := Lib.hid (Blk.new w8 57 #[.int .i64 A.state, .bool A.ordered, .int .u64 A.link, .int .u64 A.peer, .string A.port, .string A.pport])
  have HC9 := Lib.hid (HC8.out.below (balloc (Below.refl _ w8) (.cells #[.int .i64 A.state, .bool A.ordered, .int .u64 A.link, .int .u64 A.peer, .string A.port, .string A.pport] 57)))
  clear HC8
  generalize w8.alloc (.cells #[.int .i64 A.state, .bool A.ordered, .int .u64 A.link, .int .u64 A.peer, .string A.port, .string A.pport] 57) = w9 at HN HC9 ⊢
  generalize w8.heap.size = M at HN ⊢
  have c0 : w9.cell? ⟨w.heap.size, 0, none⟩ = some (.int .i64 A.state) := HC9.out.a.cell 0
  have c1 : w9.cell? ⟨w.heap.size, 1, none⟩ = some (.bool A.ordered) := HC9.out.a.cell 1
  have c2 : w9.cell? ⟨w.heap.size, 2, none⟩ = some (.int .u64 A.link) := HC9.out.a.cell 2
  have c3 : w9.cell? ⟨w.heap.size, 3, none⟩ = some (.int .u64 A.peer) := HC9.out.a.cell 3
  have c4 : w9.cell? ⟨w.heap.size, 4, none⟩ = some (.string A.port) := HC9.out.a.cell 4
  have c5 : w9.cell? ⟨w.heap.size, 5, none⟩ = some (.string A.pport) := HC9.out.a.cell 5
  have d0 : w9.cell? ⟨w.heap.size + 1, 0, none⟩ = some (.int .i64 B.state) := HC9.out.b.cell 0
  have d1 : w9.cell? ⟨w.heap.size + 1, 1, none⟩ = some (.bool B.ordered) := HC9.out.b.cell 1
  have d2 : w9.cell? ⟨w.heap.size + 1, 2, none⟩ = some (.int .u64 B.link) := HC9.out.b.cell 2
  have d3 : w9.cell? ⟨w.heap.size + 1, 3, none⟩ = some (.int .u64 B.peer) := HC9.out.b.cell 3
  have d4 : w9.cell? ⟨w.heap.size + 1, 4, none⟩ = some (.string B.port) := HC9.out.b.cell 4
  have d5 : w9.cell? ⟨w.heap.size + 1, 5, none⟩ = some (.string B.pport) := HC9.out.b.cell 5
  have n0 : w9.cell? ⟨M, 0, none⟩ = some (.int .i64 A.state) := HN.out.cell 0
  have n1 : w9.cell? ⟨M, 1, none⟩ = some (.bool A.ordered) := HN.out.cell 1
  have n2 : w9.cell? ⟨M, 2, none⟩ = some (.int .u64 A.link) := HN.out.cell 2
  have n3 : w9.cell? ⟨M, 3, none⟩ = some (.int .u64 A.peer) := HN.out.cell 3
  have n4 : w9.cell? ⟨M, 4, none⟩ = some (.string A.port) := HN.out.cell 4
  have n5 : w9.cell? ⟨M, 5, none⟩ = some (.string A.pport) := HN.out.cell 5
  have q1 : ∀ W, (Op.equalIn 10000 57 (.agg #[.int .i64 A.state, .bool A.ordered, .int .u64 A.link, .int .u64 A.peer, .string A.port, .string A.pport]) (.agg #[.int .i64 A.state, .bool A.ordered, .int .u64 A.link, .int .u64 A.peer, .string A.port, .string A.pport])).run Tryd.prog W = .ok true W := fun W => by rw [ch_eq A A W, (Ch.eqB_iff A A).2 rfl]
  obtain ⟨eb, heb⟩ : ∃ eb, A.eqB B = eb := ⟨_, rfl⟩
  have q2 : ∀ W, (Op.equalIn 10000 57 (.agg #[.int .i64 A.state, .bool A.ordered, .int .u64 A.link, .int .u64 A.peer, .string A.port, .string A.pport]) (.agg #[.int .i64 B.state, .bool B.ordered, .int .u64 B.link, .int .u64 B.peer, .string B.port, .string B.pport])).run Tryd.prog W = .ok eb W := fun W => by rw [ch_eq A B W, heb]
  have q3 := HSe.out
  rw [heb] at q3
  clear heb HSe HfA HfB HlA HlB HtA
  go_wp2_with fail
  go_ret
  exact ⟨rfl, HC9.out.bel⟩
end Go.Proofs.YtpekbnkmnellpaaDoor
