/-
  The walk of FlowOnce: the end.
-/
import Derived.Test.YtpekbnkmnellpaaDoorOnceC
namespace Go.Proofs.YtpekbnkmnellpaaDoor
open Go.RowKit Go.Maps
set_option linter.unusedVariables false
set_option maxRecDepth 100000 in
set_option maxHeartbeats 32000000 in
theorem once_exit (w : World) (h2w : 2 ≤ w.heap.size) (o : Bool) (v1 : Option Addr) (c1 : Nat) (acts : List ActR) (A1 : ActsAt w (.slice v1 acts.length c1) acts) (N M : Nat) (K2 : Act → World → Prop) (Q2 : Exit → Act → World → Prop) (hK2 : ∀ (a : Act) (W : World), a.tmps.size = 312 → a.defers = [] → Below w.heap.size w W → K2 a W) (gk : Nat) (a0 : Act) (wr : World) (J : Nat → Act → World → Prop) (K : Act → World → Prop)
    (hJ : ∀ k a' w', OFr o w N M (.slice v1 acts.length c1) k a' w' → J k a' w') (hK : ∀ a' w', Handed J gk a' w' → K a' w')
    (hs : a0.tmps.size = 312) (hd : a0.defers = []) (e0 : a0.tmps.getD 0 undef = .bool o) (e1 : a0.tmps.getD 1 undef = .slice v1 acts.length c1) (e6 : a0.tmps.getD 6 undef = .pointer (some ⟨N + 3, 0, none⟩)) (e7 : a0.tmps.getD 7 undef = .pointer (some ⟨M + 3, 0, none⟩))
    (j : Nat) (fs : List Ft) (ss : List ByteArray) (a b : Fl) (hh last : Int) (m n : Nat) (hj : j ≤ 80) (hk : gk = 80 - j) (h12 : a0.tmps.getD 12 undef = .int .i64 j) (h10 : a0.tmps.getD 10 undef = .int .u64 hh) (h11 : a0.tmps.getD 11 undef = .int .u64 last) (hsl : ss.length ≤ j) (hmj : m ≤ j) (hnj : n ≤ j)
    (hI : OInv o j fs a b hh last) (hW : OW w ⟨N + 3, N, N + 1, N + 2⟩ ⟨M + 3, M, M + 1, M + 2⟩ (a0.tmps.getD 8 undef) (a0.tmps.getD 9 undef) fs ss a b m n wr) (hlt : ¬ (j < acts.length ∧ j < 80)) : onceCut.c.wp Tryd.prog (Exit.then K (Exit.inBlock 0 (Exit.then K2 Q2))) a0 wr := by
  obtain ⟨v1', c1', e1', m1, hc1⟩ := A1
  cases e1'
  have HC := Lib.hid hc1
  clear hc1
  unfold onceCut
  dsimp only
  obtain ⟨u, hu, ha⟩ := frame312 a0 hs hd
  rw [hu] at e0 e1 e6 e7 h12 h10 h11
  rw [hu, hu] at hW
  rw [ha, e0, e1, e6, e7]
  clear hs hd hu ha e0 e1 e6 e7
  clear a0
  rw [h12, h10, h11]
  clear h12 h10 h11
  have HK := Lib.hid hk
  have hfl : fs.length ≤ j := hI.len
  have hh0 := hI.h0
  have hh1 := hI.h1
  have hl0 := hI.l0
  have hl1 := hI.l1
  have HI := Lib.hid hI
  clear hk hI
  obtain ⟨ao8, cp8, h8, _⟩ := hW.rowf.at_
  obtain ⟨ao9, cp9, h9⟩ := hW.rows.at_
  rw [h8, h9] at hW
  rw [h8, h9]
  clear h8 h9
  have HW := Lib.hid hW
  clear hW
  by_cases ha : j < acts.length
  · have hc : ¬ j < 80 := fun h => hlt ⟨ha, h⟩
    clear hlt
    go_wp2_with fail
    exact hK2 _ _ rfl rfl HW.out.bel
  · clear hlt
    go_wp2_with fail
    exact hK2 _ _ rfl rfl HW.out.bel
end Go.Proofs.YtpekbnkmnellpaaDoor
