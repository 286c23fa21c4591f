/-
  The walk of FlowOnce as far as its loop, and what a round must show.
-/
import Derived.Test.YtpekbnkmnellpaaDoorOnceW
import Derived.Deep.DeepCutAuto
namespace Go.Proofs.YtpekbnkmnellpaaDoor
open Go.RowKit Go.Maps
set_option linter.unusedVariables false

def OnceRel (o : Bool) (w : World) (A B : FB) (c : Nat) (v8 v9 v10 v11 v12 : Value) (wr : World) : Prop :=
  ∃ (j : Nat) (fs : List Ft) (ss : List ByteArray) (a b : Fl) (hh last : Int) (m n : Nat), j ≤ 80 ∧ c = 80 - j ∧ v12 = .int .i64 j ∧ v10 = .int .u64 hh ∧ v11 = .int .u64 last ∧ ss.length ≤ j ∧ m ≤ j ∧ n ≤ j ∧ OInv o j fs a b hh last ∧ OW w A B v8 v9 fs ss a b m n wr
set_option maxRecDepth 100000 in
/-- a frame of 312 slots, written out -/
theorem frame312 (a : Act) (h : a.tmps.size = 312) (hd : a.defers = []) : ∃ u : Nat → Value, (∀ i, a.tmps.getD i undef = u i) ∧ a = ⟨#[u 0, u 1, u 2, u 3, u 4, u 5, u 6, u 7, u 8, u 9, u 10, u 11, u 12, u 13, u 14, u 15, u 16, u 17, u 18, u 19, u 20, u 21, u 22, u 23, u 24, u 25, u 26, u 27, u 28, u 29, u 30, u 31, u 32, u 33, u 34, u 35, u 36, u 37, u 38, u 39, u 40, u 41, u 42, u 43, u 44, u 45, u 46, u 47, u 48, u 49, u 50, u 51, u 52, u 53, u 54, u 55, u 56, u 57, u 58, u 59, u 60, u 61, u 62, u 63, u 64, u 65, u 66, u 67, u 68, u 69, u 70, u 71, u 72, u 73, u 74, u 75, u 76, u 77, u 78, u 79, u 80, u 81, u 82, u 83, u 84, u 85, u 86, u 87, u 88, u 89, u 90, u 91, u 92, u 93, u 94, u 95, u 96, u 97, u 98, u 99, u 100, u 101, u 102, u 103, u 104, u 105, u 106, u 107, u 108, u 109, u 110, u 111, u 112, u 113, u 114, u 115, u 116, u 117, u 118, u 119, u 120, u 121, u 122, u 123, u 124, u 125, u 126, u 127, u 128, u 129, u 130, u 131, u 132, u 133, u 134, u 135, u 136, u 137, u 138, u 139, u 140, u 141, u 142, u 143, u 144, u 145, u 146, u 147, u 148, u 149, u 150, u 151, u 152, u 153, u 154, u 155, u 156, u 157, u 158, u 159, u 160, u 161, u 162, u 163, u 164, u 165, u 166, u 167, u 168, u 169, u 170, u 171, u 172, u 173, u 174, u 175, u 176, u 177, u 178, u 179, u 180, u 181, u 182, u 183, u 184, u 185, u 186, u 187, u 188, u 189, u 190, u 191, u 192, u 193, u 194, u 195, u 196, u 197, u 198, u 199, u 200, u 201, u 202, u 203, u 204, u 205, u 206, u 207, u 208, u 209, u 210, u 211, u 212, u 213, u 214, u 215, u 216, u 217, u 218, u 219, u 220, u 221, u 222, u 223, u 224, u 225, u 226, u 227, u 228, u 229, u 230, u 231, u 232, u 233, u 234, u 235, u 236, u 237, u 238, u 239, u 240, u 241, u 242, u 243, u 244, u 245, u 246, u 247, u 248, u 249, u 250, u 251, u 252, u 253, u 254, u 255, u 256, u 257, u 258, u 259, u 260, u 261, u 262, u 263, u 264, u 265, u 266, u 267, u 268, u 269, u 270, u 271, u 272, u 273, u 274, u 275, u 276, u 277, u 278, u 279, u 280, u 281, u 282, u 283, u 284, u 285, u 286, u 287, u 288, u 289, u 290, u 291, u 292, u 293, u 294, u 295, u 296, u 297, u 298, u 299, u 300, u 301, u 302, u 303, u 304, u 305, u 306, u 307, u 308, u 309, u 310, u 311], []⟩ := by
  refine ⟨fun i => a.tmps.getD i undef, fun _ => rfl, ?_⟩
  obtain ⟨ts, ds⟩ := a
  simp only at h hd
  subst hd
  have e : ts = ((List.range 312).map (fun i => ts.getD i undef)).toArray := by
    apply Array.ext
    · simp [h]
    · intro i h1 h2
      simp [h1]
  exact congrArg (fun x => Act.mk x []) e
def OFr (o : Bool) (w : World) (N M : Nat) (V : Value) (k : Nat) (a : Act) (W : World) : Prop :=
  a.tmps.size = 312 ∧ a.defers = [] ∧ a.tmps.getD 0 undef = .bool o ∧ a.tmps.getD 1 undef = V ∧ a.tmps.getD 6 undef = .pointer (some ⟨N + 3, 0, none⟩) ∧ a.tmps.getD 7 undef = .pointer (some ⟨M + 3, 0, none⟩) ∧
    OnceRel o w ⟨N + 3, N, N + 1, N + 2⟩ ⟨M + 3, M, M + 1, M + 2⟩ k (a.tmps.getD 8 undef) (a.tmps.getD 9 undef) (a.tmps.getD 10 undef) (a.tmps.getD 11 undef) (a.tmps.getD 12 undef) W
structure OnceCut where
  c : Code
  h : ∀ (w : World) (G : Glob w) (o : Bool) (V : Value) (acts : List ActR) (A1 : ActsAt w V acts), (∀ (N M : Nat) (K2 : Act → World → Prop) (Q2 : Exit → Act → World → Prop), (∀ (a : Act) (W : World), a.tmps.size = 312 → a.defers = [] → Below w.heap.size w W → K2 a W) → ∀ (gk : Nat) (a0 : Act) (wr : World), OFr o w N M V gk a0 wr → ∀ (J : Nat → Act → World → Prop) (K : Act → World → Prop), (∀ k a' w', OFr o w N M V k a' w' → J k a' w') → (∀ a' w', Handed J gk a' w' → K a' w') → c.wp Tryd.prog (Exit.then K (Exit.inBlock 0 (Exit.then K2 Q2))) a0 wr) → Calls Tryd.prog 7 #[.bool o, V] w fun e w' => e = .returned (.bool true) ∧ Below w.heap.size w w'
set_option maxRecDepth 100000 in
set_option maxHeartbeats 32000000 in
noncomputable def onceCut : OnceCut := by
  apply OnceCut.mk
  intro w G o V acts A1 hround
  obtain ⟨v1, c1, rfl, m1, hc1⟩ := A1
  have HC := Lib.hid hc1
  have HG := Lib.hid G
  have h2w := G.two
  clear G hc1
  go_enter Tryd.func7, Tryd.ntmps7
  go_wp2_with fail
  refine (awake_ok w HG.out).mono ?_
  rintro e w1 ⟨rfl, hb1⟩
  have HL1 := Lib.hid hb1
  have HG1 := Lib.hid (HG.out.below hb1 HG.out.two)
  clear hb1 HG
  go_wp2_with fail
  refine (newflow_is o w1).mono ?_
  rintro e w2 ⟨rfl, hf2, hb2, hs2⟩
  have HF2 := Lib.hid hf2
  have HL2 := Lib.hid (bstep HL1.out hb2)
  have HG2 := Lib.hid (HG1.out.below hb2 HG1.out.two)
  have HS2 : Hid (w.heap.size ≤ w1.heap.size) := Lib.hid HL1.out.size
  clear hf2 hb2 hs2 HL1 HG1
  go_wp2_with fail
  refine (newflow_is o w2).mono ?_
  rintro e w3 ⟨rfl, hf3, hb3, hs3⟩
  have HT : Hid (OnceRel o w ⟨w1.heap.size + 3, w1.heap.size, w1.heap.size + 1, w1.heap.size + 2⟩ ⟨w2.heap.size + 3, w2.heap.size, w2.heap.size + 1, w2.heap.size + 2⟩ 80 (.slice none 0 0) (.slice none 0 0) (.int .u64 1) (.int .u64 0) (.int .i64 0) w3) :=
    Lib.hid ⟨0, [], [], Fl.new o, Fl.new o, 1, 0, 0, 0, by omega, rfl, rfl, rfl, rfl, by simp, by omega, by omega, oi_new o, HF2.out.below hb3, hf3, World.ownsRow_nil _ _ _ _, World.ownsRow_nil _ _ _ _, bstep HL2.out hb3, HG2.out.below hb3 HG2.out.two, fun x hx => (by have := HS2.out; simp [FB.l] at hx; omega), fun x hx => (by have := HL2.out.size; simp [FB.l] at hx; omega), fun x hx hm => (by have := HF2.out.lt x hx; simp [FB.l] at hm; omega), h2w⟩
  go_wp2_with fail
  clear hf3 hb3 hs3 HL2 HG2 HF2 HS2
  generalize w1.heap.size = N at HT ⊢
  generalize w2.heap.size = M at HT ⊢
  refine wp_loop_ghost_k (OFr o w N M (.slice v1 acts.length c1)) 80 ?_ ?_
  · exact ⟨rfl, rfl, rfl, rfl, rfl, rfl, HT.out⟩
  · refine hround N M _ _ ?_
    intro a W hs hd hb
    rename_i KK hKK
    apply hKK
    obtain ⟨u, hu, ha⟩ := frame312 a hs hd
    rw [ha]
    clear hs hd hu ha HT HC hround
    go_wp2_with fail
    go_ret
    exact ⟨rfl, hb⟩
end Go.Proofs.YtpekbnkmnellpaaDoor
