/-
  FlowPlays: what lies in memory; the walk as far as a round's switch.
-/
import Derived.Test.YtpekbnkmnellpaaDoorRFl
import Derived.Test.YtpekbnkmnellpaaDoorRowL
import Derived.Test.YtpekbnkmnellpaaDoorCopy
import Derived.Test.YtpekbnkmnellpaaDoorOpenB
import Derived.Test.YtpekbnkmnellpaaDoorEqs
import Derived.Test.YtpekbnkmnellpaaDoorAwake18
import Derived.Test.YtpekbnkmnellpaaDoorAwakeW
import Derived.Test.YtpekbnkmnellpaaDoorRDoc
import Derived.Deep.DeepCutAuto
namespace Go.Proofs.YtpekbnkmnellpaaDoor
open Go.RowKit Go.Maps
set_option linter.unusedVariables false

/-- the operations ks write, S says what stands by which of them are done; the others reckon alone -/
structure GJ (V : Nat → Value → Prop) (ks : List Nat) (S : List Bool → List Value → World → Prop) (d : Nat → Bool) (u : Nat → Value) (W : World) : Prop where
  vals : ∀ i, d i = true → V i (u i)
  st : S (ks.map d) (ks.map u) W
section
variable {V : Nat → Value → Prop} {ks : List Nat} {S : List Bool → List Value → World → Prop} {d : Nat → Bool} {u : Nat → Value} {W W' : World} {v : Value}
theorem GJ.start (hS : S (ks.map fun _ => false) (ks.map u) W) : GJ V ks S (fun _ => false) u W := ⟨fun i h => (by cases h), hS⟩
theorem GJ.fill (h : GJ V ks S d u W) (i : Nat) (hv : V i v) : ∀ j, did d i j = true → V j (put1 u i v j) := fun j hj => by
  by_cases e : j = i
  · subst e; rw [put1_at]; exact hv
  · rw [put1_ne u v e]; exact h.vals j (by rwa [did_ne d e] at hj)
theorem GJ.pure (h : GJ V ks S d u W) (i : Nat) (hi : ks.contains i = false) (hv : V i v) : GJ V ks S (did d i) (put1 u i v) W := by
  refine ⟨h.fill i hv, ?_⟩
  have hne : ∀ k ∈ ks, k ≠ i := fun k hk e => by
    subst e
    have : ks.contains k = true := by rw [List.contains_iff_mem]; exact hk
    rw [hi] at this
    cases this
  rw [List.map_congr_left fun k hk => did_ne d (hne k hk), List.map_congr_left fun k hk => put1_ne u v (hne k hk)]
  exact h.st
theorem GJ.go (h : GJ V ks S d u W) (i : Nat) (hv : V i v) (hS : S (ks.map (did d i)) (ks.map (put1 u i v)) W') : GJ V ks S (did d i) (put1 u i v) W' := ⟨h.fill i hv, hS⟩
end
/-- what FlowPlays holds: a flow, the document's, and the packets that were sent -/
structure PW (w : World) (B : FB) (g : Nat) (V : Value) (ps : List Pk) (a b : Fl) (m n : Nat) (W : World) : Prop where
  fa : FlowAt W B m a
  rf : RefAt W w.heap.size g n b
  row : RowP W w.heap.size V ps
  ok : ∀ p ∈ ps, p.ok
  bel : Below w.heap.size w W
  glob : GlobR W
  bge : ∀ x ∈ B.l, w.heap.size ≤ x
  four : 4 ≤ w.heap.size
section
variable {w W W' : World} {B B' : FB} {g : Nat} {V V' : Value} {ps : List Pk} {a b a' b' : Fl} {m n m' n' : Nat}
theorem GlobR.onlyS {S : List Nat} (G : GlobR W) (ho : Only S W W') (hS : ∀ x ∈ S, 4 ≤ x) : GlobR W' := G.of_blocks fun i hi => ho.block i (Nat.lt_of_lt_of_le hi G.four) fun hm => by have := hS i hm; omega
theorem PW.below (h : PW w B g V ps a b m n W) (hb : Below W.heap.size W W') : PW w B g V ps a b m n W' := ⟨h.fa.below hb, h.rf.below hb, own_bel h.row hb, h.ok, bstep h.bel hb, h.glob.next hb, h.bge, h.four⟩
theorem PW.mono (h : PW w B g V ps a b m n W) (hm : m ≤ m') (hn : n ≤ n') : PW w B g V ps a b m' n' W := { h with fa := h.fa.mono hm, rf := h.rf.mono hn }
/-- the flow alone has changed -/
theorem PW.onlyA (h : PW w B g V ps a b m n W) (hf : FlowAt W' B m' a') (ho : Only B.l W W') : PW w B g V ps a' b m' n W' := by
  refine ⟨hf, h.rf.only ho fun x hx t cs hb => ?_, own_only h.row ho fun x hx hm => ?_, h.ok, h.bel.trans (ho.below h.bge h.bel.size), h.glob.onlyS ho fun x hx => Nat.le_trans h.four (h.bge x hx), h.bge, h.four⟩
  · refine ⟨fun e => ?_, fun e => ?_⟩
    · exact h.fa.apart hb (by rw [e]; decide) hx
    · exact h.fa.apart hb (by rw [e]; decide) hx
  · obtain ⟨cur, hc⟩ := own_type h.row hx
    exact h.fa.apart hc (by decide) hm
/-- a block of another type is none of the document's flow's -/
theorem rbs_apart {S : List Nat} {base x : Nat} {t : TypeId} {cs : Array Value} (hS : RBs W base S) (hb : Blk W x t cs) (h1 : t ≠ 106) (h2 : t ≠ 108) : x ∉ S := fun hx => by
  obtain ⟨_, t', cs', hb', ht⟩ := hS x hx
  unfold Blk at hb hb'
  rw [hb] at hb'
  simp at hb'
  rcases ht with ht | ht
  · exact h1 (hb'.2.trans ht)
  · exact h2 (hb'.2.trans ht)
theorem rbs_flow {S : List Nat} {base : Nat} (hS : RBs W base S) (F : FlowAt W B m a) : ∀ x ∈ B.l, x ∉ S := fun x hx hm => by
  obtain ⟨_, t, cs, hb, ht⟩ := hS x hm
  refine F.apart hb ?_ hx
  rcases ht with ht | ht <;> rw [ht] <;> decide
theorem PW.onlyR (h : PW w B g V ps a b m n W) (hd : DStep W W' w.heap.size g n' b') : PW w B g V ps a b' m n' W' := by
  obtain ⟨S, hS, ho⟩ := hd.only
  refine ⟨h.fa.kept ho (rbs_flow hS h.fa), hd.at_, own_only h.row ho fun x hx hm => ?_, h.ok, h.bel.trans (ho.below (fun x hx => (hS x hx).1) h.bel.size), h.glob.onlyS ho fun x hx => Nat.le_trans h.four (hS x hx).1, h.bge, h.four⟩
  obtain ⟨cur, hc⟩ := own_type h.row hx
  exact rbs_apart hS hc (by decide) (by decide) hm
/-- a block that was there stays -/
theorem PW.blkA (h : PW w B g V ps a b m n W) (ho : Only B.l W W') {x : Nat} {t : TypeId} {cs : Array Value} (hb : Blk W x t cs) (ht : t ≠ 98) : Blk W' x t cs := hb.only ho (h.fa.apart hb ht)
theorem DStep.blk {base : Nat} (hd : DStep W W' base g n' b') {x : Nat} {t : TypeId} {cs : Array Value} (hb : Blk W x t cs) (h1 : t ≠ 106) (h2 : t ≠ 108) : Blk W' x t cs := by
  obtain ⟨S, hS, ho⟩ := hd.only
  exact hb.only ho (rbs_apart hS hb h1 h2)
/-- another flow -/
theorem PW.flow (h : PW w B g V ps a b m n W) (hf : FlowAt W' B' m' a') (hb : Below W.heap.size W W') (hB : ∀ x ∈ B'.l, w.heap.size ≤ x) : PW w B' g V ps a' b m' n W' := { h.below hb with fa := hf, bge := hB }
/-- the row of packets has grown -/
theorem PW.grown {p : Pk} (h : PW w B g V ps a b m n W) (hg : W.grownBy W' V.ownBlock) (hr : RowP W' w.heap.size V' (ps ++ [p])) (hp : p.ok) : PW w B g V' (ps ++ [p]) a b m n W' := by
  have ho := Only.of_grown hg
  have hm : ∀ y, y ∈ V.ownBlock.toList → V.ownBlock = some y := fun y hy => by simpa using hy
  have hge : ∀ y ∈ V.ownBlock.toList, w.heap.size ≤ y := fun y hy => own_ge h.row (hm y hy)
  refine ⟨h.fa.kept ho fun x hx hy => ?_, h.rf.only ho fun x hx t cs hb => ?_, hr, fun q hq => ?_, h.bel.trans (ho.below hge h.bel.size), h.glob.onlyS ho fun x hx => Nat.le_trans h.four (hge x hx), h.bge, h.four⟩
  · obtain ⟨cur, hc⟩ := own_type h.row (hm x hy)
    exact h.fa.apart hc (by decide) hx
  · obtain ⟨cur, hc⟩ := own_type h.row (hm x hx)
    unfold Blk at hb hc
    rw [hb] at hc
    simp at hc
    rw [hc.2]
    decide
  · rcases List.mem_append.1 hq with hq | hq
    · exact h.ok q hq
    · simp at hq; rw [hq]; exact hp
theorem PW.p_at (h : PW w B g V ps a b m n W) (k : Nat) (hk : k < ps.length) {ao : Option Addr} {c cap : Nat} (hv : V = .slice ao c cap) : ∃ g, ao = some ⟨g, 0, none⟩ ∧ W.cell? ⟨g, k * 5, none⟩ = some (.int .u64 ps[k].seq) ∧ W.cell? ⟨g, k * 5 + 1, none⟩ = some (.int .u64 ps[k].src) ∧ W.cell? ⟨g, k * 5 + 2, none⟩ = some (.int .u64 ps[k].dst) ∧ W.cell? ⟨g, k * 5 + 3, none⟩ = some (.string ps[k].data) ∧ W.cell? ⟨g, k * 5 + 4, none⟩ = some (.int .u64 ps[k].timeout) := by
  obtain ⟨ao', cap', hv', hf⟩ := h.row.at_
  rw [hv] at hv'
  cases hv'
  obtain ⟨g, cur, h1, h2, h3, h4⟩ := hf (by omega)
  exact ⟨g, h1, h4 k hk⟩
end
/-! ### A packet stored in a block -/
abbrev setC5 (w : World) (g : Nat) (u0 u1 u2 u3 u4 : Value) : World := ((((w.setCell ⟨g, 0, none⟩ u0).setCell ⟨g, 1, none⟩ u1).setCell ⟨g, 2, none⟩ u2).setCell ⟨g, 3, none⟩ u3).setCell ⟨g, 4, none⟩ u4
theorem Blk.set5 {w : World} {g : Nat} {t : TypeId} {a0 a1 a2 a3 a4 : Value} (h : Blk w g t #[a0, a1, a2, a3, a4]) (u0 u1 u2 u3 u4 : Value) : Blk (setC5 w g u0 u1 u2 u3 u4) g t #[u0, u1, u2, u3, u4] := by
  have := ((((h.set_ 0 u0).set_ 1 u1).set_ 2 u2).set_ 3 u3).set_ 4 u4
  simpa using this
theorem only_set5 (w : World) (g : Nat) (u0 u1 u2 u3 u4 : Value) : Only [g] w (setC5 w g u0 u1 u2 u3 u4) := ((((((Only.refl [g] w).set_ (by simp) _).set_ (by simp) _).set_ (by simp) _).set_ (by simp) _).set_ (by simp) _)
theorem st_pk {g : Nat} {W : World} (p q : Pk) (h : Blk W g 24 q.cs) :
    (Instr.storeAt 24 (.pointer (some ⟨g, 0, none⟩)) p.v).run Tryd.prog W = .ok () (setC5 W g (.int .u64 p.seq) (.int .u64 p.src) (.int .u64 p.dst) (.string p.data) (.int .u64 p.timeout)) := by
  obtain ⟨sq, fr, to_, dt, tm⟩ := p
  obtain ⟨sq', fr', to', dt', tm'⟩ := q
  have c0 : W.cell? ⟨g, 0, none⟩ = some (.int .u64 sq') := h.cell 0
  have c1 : W.cell? ⟨g, 1, none⟩ = some (.int .u64 fr') := h.cell 1
  have c2 : W.cell? ⟨g, 2, none⟩ = some (.int .u64 to') := h.cell 2
  have c3 : W.cell? ⟨g, 3, none⟩ = some (.string dt') := h.cell 3
  have c4 : W.cell? ⟨g, 4, none⟩ = some (.int .u64 tm') := h.cell 4
  have f0 := h.frozen 0
  have f1 := h.frozen 1
  have f2 := h.frozen 2
  have f3 := h.frozen 3
  have f4 := h.frozen 4
  unfold Pk.v
  go_simp
theorem ld_pkv {g : Nat} {W : World} (p : Pk) (h : Blk W g 24 p.cs) : (Instr.loadAt 24 (.pointer (some ⟨g, 0, none⟩))).run Tryd.prog W = .ok p.v W := ld_pk h
theorem alc_pk (W : World) : (Instr.alloc 24 true (.tuple #[])).run Tryd.prog W = .ok (.pointer (some ⟨W.heap.size, 0, none⟩)) (W.alloc (.cells Pk.zero.cs 24)) := by
  unfold Pk.zero Pk.cs
  go_simp
theorem run_alc {P : Program} {ρ : Operand → Value} {w w' : World} {dst : Option Tmp} {t : TypeId} {pos : String} {af : Array Edge} {g : Option (Nat × Bool)} {v : Value} {T : TypeId} (h : (Instr.alloc T true (.tuple #[])).run P w = .ok v w') : (execOp ρ ⟨dst, .alloc T, t, pos, af, g⟩).run P w = .ok (.value v) w' := by simp [execOp, h]
/-- a packet is stored in a block of the call's own -/
theorem PW.setY {w W : World} {B : FB} {g : Nat} {V : Value} {ps : List Pk} {a b : Fl} {m n Y : Nat} {cs : Array Value} (h : PW w B g V ps a b m n W) (hY : Blk W Y 24 cs) (hV : ∀ x, V.ownBlock = some x → x ≠ Y) (hw : w.heap.size ≤ Y) (u0 u1 u2 u3 u4 : Value) : PW w B g V ps a b m n (setC5 W Y u0 u1 u2 u3 u4) := by
  have ho := only_set5 W Y u0 u1 u2 u3 u4
  refine ⟨h.fa.kept ho fun x hx hm => ?_, h.rf.only ho fun x hx t cs' hb => ?_, own_only h.row ho fun x hx hm => hV x hx (by simpa using hm), h.ok, h.bel.trans (ho.below (by simpa using hw) h.bel.size), h.glob.onlyS ho fun x hx => by (have := h.four; simp at hx; omega), h.bge, h.four⟩
  · rw [show x = Y by simpa using hm] at hx
    exact h.fa.apart hY (by decide) hx
  · rw [show x = Y by simpa using hx] at hb
    unfold Blk at hb hY
    rw [hY] at hb
    simp at hb
    rw [← hb.2]
    decide
end Go.Proofs.YtpekbnkmnellpaaDoor
namespace Go.Proofs.YtpekbnkmnellpaaDoor
open Go.RowKit Go.Maps
set_option linter.unusedVariables false
set_option maxRecDepth 100000 in
/-- a frame of 284 slots, written out -/
theorem frame284 (a : Act) (h : a.tmps.size = 284) (hd : a.defers = []) : ∃ u : Nat → Value, (∀ i, a.tmps.getD i undef = u i) ∧ a = ⟨#[u 0, u 1, u 2, u 3, u 4, u 5, u 6, u 7, u 8, u 9, u 10, u 11, u 12, u 13, u 14, u 15, u 16, u 17, u 18, u 19, u 20, u 21, u 22, u 23, u 24, u 25, u 26, u 27, u 28, u 29, u 30, u 31, u 32, u 33, u 34, u 35, u 36, u 37, u 38, u 39, u 40, u 41, u 42, u 43, u 44, u 45, u 46, u 47, u 48, u 49, u 50, u 51, u 52, u 53, u 54, u 55, u 56, u 57, u 58, u 59, u 60, u 61, u 62, u 63, u 64, u 65, u 66, u 67, u 68, u 69, u 70, u 71, u 72, u 73, u 74, u 75, u 76, u 77, u 78, u 79, u 80, u 81, u 82, u 83, u 84, u 85, u 86, u 87, u 88, u 89, u 90, u 91, u 92, u 93, u 94, u 95, u 96, u 97, u 98, u 99, u 100, u 101, u 102, u 103, u 104, u 105, u 106, u 107, u 108, u 109, u 110, u 111, u 112, u 113, u 114, u 115, u 116, u 117, u 118, u 119, u 120, u 121, u 122, u 123, u 124, u 125, u 126, u 127, u 128, u 129, u 130, u 131, u 132, u 133, u 134, u 135, u 136, u 137, u 138, u 139, u 140, u 141, u 142, u 143, u 144, u 145, u 146, u 147, u 148, u 149, u 150, u 151, u 152, u 153, u 154, u 155, u 156, u 157, u 158, u 159, u 160, u 161, u 162, u 163, u 164, u 165, u 166, u 167, u 168, u 169, u 170, u 171, u 172, u 173, u 174, u 175, u 176, u 177, u 178, u 179, u 180, u 181, u 182, u 183, u 184, u 185, u 186, u 187, u 188, u 189, u 190, u 191, u 192, u 193, u 194, u 195, u 196, u 197, u 198, u 199, u 200, u 201, u 202, u 203, u 204, u 205, u 206, u 207, u 208, u 209, u 210, u 211, u 212, u 213, u 214, u 215, u 216, u 217, u 218, u 219, u 220, u 221, u 222, u 223, u 224, u 225, u 226, u 227, u 228, u 229, u 230, u 231, u 232, u 233, u 234, u 235, u 236, u 237, u 238, u 239, u 240, u 241, u 242, u 243, u 244, u 245, u 246, u 247, u 248, u 249, u 250, u 251, u 252, u 253, u 254, u 255, u 256, u 257, u 258, u 259, u 260, u 261, u 262, u 263, u 264, u 265, u 266, u 267, u 268, u 269, u 270, u 271, u 272, u 273, u 274, u 275, u 276, u 277, u 278, u 279, u 280, u 281, u 282, u 283], []⟩ := by
  refine ⟨fun i => a.tmps.getD i undef, fun _ => rfl, ?_⟩
  obtain ⟨ts, ds⟩ := a
  simp only at h hd
  subst hd
  have e : ts = ((List.range 284).map (fun i => ts.getD i undef)).toArray := by
    apply Array.ext
    · simp [h]
    · intro i h1 h2
      simp [h1]
  exact congrArg (fun x => Act.mk x []) e
def acC (what which later : Int) (dt : ByteArray) : Array Value := #[.int .i64 what, .int .i64 which, .int .i64 later, .string dt]
/-- the frame at a round's start -/
def PFr (o : Bool) (w : World) (V1 V2 : Value) (hh : Int) (g : Nat) (k : Nat) (a : Act) (W : World) : Prop :=
  a.tmps.size = 284 ∧ a.defers = [] ∧ a.tmps.getD 0 undef = .bool o ∧ a.tmps.getD 1 undef = V1 ∧ a.tmps.getD 2 undef = V2 ∧ a.tmps.getD 3 undef = .int .u64 hh ∧ a.tmps.getD 11 undef = .pointer (some ⟨g, 0, none⟩) ∧
    ∃ (j : Nat) (B : FB) (ps : List Pk) (s : Fl) (m n : Nat), j ≤ 50 ∧ k = 50 - j ∧ a.tmps.getD 10 undef = .pointer (some ⟨B.f, 0, none⟩) ∧ a.tmps.getD 13 undef = .int .i64 (j : Int) ∧ ps.length ≤ j ∧ m ≤ j ∧ n ≤ j ∧ PW w B g (a.tmps.getD 12 undef) ps s s m n W
structure PlayCut where
  c : Code
  h : ∀ (w : World) (G : GlobR w) (o : Bool) (V1 : Value) (acts : List ActR) (A1 : ActsAt w V1 acts) (V2 : Value) (anyl : List Pk) (A2 : PksAt w V2 anyl) (hh : Int), (∀ (g : Nat) (K2 : Act → World → Prop) (Q2 : Exit → Act → World → Prop), (∀ (a : Act) (W : World), a.tmps.size = 284 → a.defers = [] → Below w.heap.size w W → K2 a W) → ∀ (gk : Nat) (a0 : Act) (wr : World), PFr o w V1 V2 hh g gk a0 wr → ∀ (J : Nat → Act → World → Prop) (K : Act → World → Prop), (∀ k a' w', PFr o w V1 V2 hh g k a' w' → J k a' w') → (∀ a' w', Handed J gk a' w' → K a' w') → c.wp Tryd.prog (Exit.then K (Exit.inBlock 0 (Exit.then K2 Q2))) a0 wr) → Calls Tryd.prog 9 #[.bool o, V1, V2, .int .u64 hh] w fun e w' => e = .returned (.bool true) ∧ Below w.heap.size w w'
set_option maxRecDepth 100000 in
set_option maxHeartbeats 32000000 in
noncomputable def playCut : PlayCut := by
  apply PlayCut.mk
  intro w G o V1 acts A1 V2 anyl A2 hh hround
  have HG := Lib.hid G
  have h4w := G.four
  clear G
  obtain ⟨v1, c1, rfl, m1, hc1⟩ := A1
  obtain ⟨v2, c2, rfl, m2, hc2⟩ := A2
  clear hc1 hc2
  go_enter Tryd.func9, Tryd.ntmps9
  go_wp2_with fail
  refine (awake_ok w HG.out.g).mono ?_
  rintro e w1 ⟨rfl, hb1⟩
  have HL1 := Lib.hid hb1
  have HG1 := Lib.hid (HG.out.next hb1)
  clear hb1 HG
  go_wp2_with fail
  refine (newflow_is o w1).mono ?_
  rintro e w2 ⟨rfl, hf2, hb2, hs2⟩
  have HF2 := Lib.hid hf2
  have HL2 := Lib.hid (bstep HL1.out hb2)
  have HG2 := Lib.hid (HG1.out.next hb2)
  have HS2 : Hid (w.heap.size ≤ w1.heap.size) := Lib.hid HL1.out.size
  clear hf2 hb2 hs2 HL1 HG1
  go_wp2_with fail
  refine (rnewflow_is o w2 w.heap.size HL2.out.size).mono ?_
  rintro e w3 ⟨rfl, hf3, hb3⟩
  have HT : Hid (PW w ⟨w1.heap.size + 3, w1.heap.size, w1.heap.size + 1, w1.heap.size + 2⟩ w2.heap.size (.slice none 0 0) [] (Fl.new o) (Fl.new o) 0 0 w3) :=
    Lib.hid ⟨HF2.out.below hb3, hf3, World.ownsRow_nil _ _ _ _, (fun p hp => by cases hp), bstep HL2.out hb3, HG2.out.next hb3, fun x hx => (by have := HS2.out; simp [FB.l] at hx; omega), h4w⟩
  clear hf3 hb3 HL2 HG2 HF2 HS2
  go_wp2_with fail
  generalize w1.heap.size = M at HT ⊢
  generalize w2.heap.size = g at HT ⊢
  refine wp_loop_ghost_k (PFr o w (.slice v1 acts.length c1) (.slice v2 anyl.length c2) hh g) 50 ?_ ?_
  · exact ⟨rfl, rfl, rfl, rfl, rfl, rfl, rfl, 0, _, [], _, 0, 0, by omega, rfl, rfl, rfl, by simp, by omega, by omega, HT.out⟩
  · refine hround g _ _ ?_
    intro a W hs hd hb
    rename_i KK hKK
    apply hKK
    obtain ⟨u, hu, ha⟩ := frame284 a hs hd
    rw [ha]
    clear hs hd hu ha HT hround
    go_wp2_with fail
    go_ret
    exact ⟨rfl, hb⟩
end Go.Proofs.YtpekbnkmnellpaaDoor
namespace Go.Proofs.YtpekbnkmnellpaaDoor
open Go.RowKit Go.Maps
set_option linter.unusedVariables false
/-- the frame at a round's end -/
def PEnd (o : Bool) (w : World) (V1 V2 : Value) (hh : Int) (g j : Nat) (a : Act) (W : World) : Prop :=
  a.tmps.size = 284 ∧ a.defers = [] ∧ a.tmps.getD 0 undef = .bool o ∧ a.tmps.getD 1 undef = V1 ∧ a.tmps.getD 2 undef = V2 ∧ a.tmps.getD 3 undef = .int .u64 hh ∧ a.tmps.getD 11 undef = .pointer (some ⟨g, 0, none⟩) ∧ a.tmps.getD 13 undef = .int .i64 (j : Int) ∧
    ∃ (B : FB) (ps : List Pk) (s : Fl) (m n : Nat), a.tmps.getD 10 undef = .pointer (some ⟨B.f, 0, none⟩) ∧ ps.length ≤ j + 1 ∧ m ≤ j + 1 ∧ n ≤ j + 1 ∧ PW w B g (a.tmps.getD 12 undef) ps s s m n W
/-- the frame ahead of the switch -/
def PMid (o : Bool) (w : World) (V1 V2 : Value) (hh : Int) (g j : Nat) (B : FB) (ps : List Pk) (s : Fl) (m n : Nat) (x : ActR) (a : Act) (W : World) : Prop :=
  a.tmps.size = 284 ∧ a.defers = [] ∧ a.tmps.getD 0 undef = .bool o ∧ a.tmps.getD 1 undef = V1 ∧ a.tmps.getD 2 undef = V2 ∧ a.tmps.getD 3 undef = .int .u64 hh ∧ a.tmps.getD 11 undef = .pointer (some ⟨g, 0, none⟩) ∧ a.tmps.getD 13 undef = .int .i64 (j : Int) ∧
    a.tmps.getD 10 undef = .pointer (some ⟨B.f, 0, none⟩) ∧ ∃ (X Y : Nat) (p : Pk), a.tmps.getD 14 undef = .pointer (some ⟨X, 0, none⟩) ∧ a.tmps.getD 15 undef = .pointer (some ⟨Y, 0, none⟩) ∧
      PW w B g (a.tmps.getD 12 undef) ps s s m n W ∧ Blk W X 48 (acC x.what x.which x.later x.data) ∧ Blk W Y 24 p.cs ∧ p.ok ∧ w.heap.size ≤ Y ∧ (∀ z, (a.tmps.getD 12 undef).ownBlock = some z → z ≠ Y)
/-- region 11: a packet out of an act -/
def r11S (W0 : World) (p : Pk) (n : Nat) (vs : List Value) (W : World) : Prop := match n with
  | 0 => W = W0
  | 1 => W = W0.alloc (.cells Pk.zero.cs 24)
  | 2 => Blk W W0.heap.size 24 p.cs ∧ Below W0.heap.size W0 W
  | _ => False
theorem r11_le {W0 : World} {p : Pk} (n : Nat) (vs : List Value) (W : World) (h : r11S W0 p n vs W) : n ≤ 2 := by
  rcases n with _ | _ | _ | n
  · omega
  · omega
  · omega
  · exact absurd h id
theorem r11_below {W0 : World} {p : Pk} (n : Nat) (vs : List Value) (W : World) (h : r11S W0 p n vs W) : Below W0.heap.size W0 W := by
  rcases n with _ | _ | _ | n
  · rw [show W = W0 from h]; exact Below.refl _ _
  · rw [show W = _ from h]; exact balloc (Below.refl _ W0) _
  · exact h.2
  · exact absurd h id
theorem ld_i {g i : Nat} {W : World} {x : Int} (h : W.cell? ⟨g, i, none⟩ = some (.int .i64 x)) : (Instr.loadAt 3 (.pointer (some ⟨g, i, none⟩))).run Tryd.prog W = .ok (.int .i64 x) W := by go_simp
theorem conv_iu (x : Int) (h0 : 0 ≤ x) (h1 : x ≤ 9223372036854775807) (W : World) : (convert 3 22 (.int .i64 x)).run Tryd.prog W = .ok (.int .u64 x) W := by
  have : IntKind.u64.wrap x = x := by rw [IntKind.wrap_u64]; omega
  simp [go_sem, this]
theorem bld_pk03 (q : Int) (x : ByteArray) (W : World) : (Instr.build 24 #[(0, .int .u64 q), (3, .string x)]).run Tryd.prog W = .ok (.agg #[.int .u64 q, .int .u64 0, .int .u64 0, .string x, .int .u64 0]) W := by go_simp
theorem r11_fin (W0 : World) (p : Pk) : Blk (setC5 (W0.alloc (.cells Pk.zero.cs 24)) W0.heap.size (.int .u64 p.seq) (.int .u64 p.src) (.int .u64 p.dst) (.string p.data) (.int .u64 p.timeout)) W0.heap.size 24 p.cs ∧ Below W0.heap.size W0 (setC5 (W0.alloc (.cells Pk.zero.cs 24)) W0.heap.size (.int .u64 p.seq) (.int .u64 p.src) (.int .u64 p.dst) (.string p.data) (.int .u64 p.timeout)) :=
  ⟨(Blk.new W0 _ _).set5 _ _ _ _ _, (balloc (Below.refl _ W0) _).trans ((only_set5 _ _ _ _ _ _ _).below (by simp) (by simp))⟩
def r11V (X Y : Nat) (which a6 : Int) (dt : ByteArray) (i : Nat) (v : Value) : Prop := match i with
  | 0 => v = .pointer (some ⟨X, 1, none⟩)
  | 1 => v = .int .i64 which
  | 2 => v = .int .i64 a6
  | 3 => v = .int .u64 a6
  | 4 => v = .pointer (some ⟨X, 3, none⟩)
  | 5 => v = .string dt
  | 6 => v = .agg #[.int .u64 a6, .int .u64 0, .int .u64 0, .string dt, .int .u64 0]
  | 7 => v = .pointer (some ⟨Y, 0, none⟩)
  | _ => True
structure PlayMid where
  c : Code
  h : ∀ (w : World) (o : Bool) (v1 : Option Addr) (c1 : Nat) (acts : List ActR) (A1 : ActsAt w (.slice v1 acts.length c1) acts) (v2 : Option Addr) (c2 : Nat) (anyl : List Pk) (A2 : PksAt w (.slice v2 anyl.length c2) anyl) (hh : Int) (g : Nat) (K2 : Act → World → Prop) (Q2 : Exit → Act → World → Prop) (hK2 : ∀ (a : Act) (W : World), a.tmps.size = 284 → a.defers = [] → Below w.heap.size w W → K2 a W) (gk : Nat) (a0 : Act) (wr : World) (J : Nat → Act → World → Prop) (K : Act → World → Prop)
    (hJ : ∀ k a' w', PFr o w (.slice v1 acts.length c1) (.slice v2 anyl.length c2) hh g k a' w' → J k a' w') (hK : ∀ a' w', Handed J gk a' w' → K a' w')
    (hs : a0.tmps.size = 284) (hd : a0.defers = []) (e0 : a0.tmps.getD 0 undef = .bool o) (e1 : a0.tmps.getD 1 undef = .slice v1 acts.length c1) (e2 : a0.tmps.getD 2 undef = .slice v2 anyl.length c2) (e3 : a0.tmps.getD 3 undef = .int .u64 hh) (e11 : a0.tmps.getD 11 undef = .pointer (some ⟨g, 0, none⟩))
    (j : Nat) (B : FB) (ps : List Pk) (s : Fl) (m n : Nat) (hj : j ≤ 50) (hk : gk = 50 - j) (e10 : a0.tmps.getD 10 undef = .pointer (some ⟨B.f, 0, none⟩)) (e13 : a0.tmps.getD 13 undef = .int .i64 (j : Int)) (hpl : ps.length ≤ j) (hm : m ≤ j) (hn : n ≤ j) (hW : PW w B g (a0.tmps.getD 12 undef) ps s s m n wr) (hj1 : j < acts.length) (hj3 : j < 50), (∀ K9 : Act → World → Prop, (∀ a W, PEnd o w (.slice v1 acts.length c1) (.slice v2 anyl.length c2) hh g j a W → K9 a W) → ∀ a W, PMid o w (.slice v1 acts.length c1) (.slice v2 anyl.length c2) hh g j B ps s m n acts[j] a W → c.wp Tryd.prog (Exit.inBlock 1 (Exit.then K9 (Exit.then K (Exit.inBlock 0 (Exit.then K2 Q2))))) a W) → playCut.c.wp Tryd.prog (Exit.then K (Exit.inBlock 0 (Exit.then K2 Q2))) a0 wr
set_option maxRecDepth 100000 in
set_option maxHeartbeats 32000000 in
noncomputable def playMid : PlayMid := by
  apply PlayMid.mk
  intro w o v1 c1 acts A1 v2 c2 anyl A2 hh g K2 Q2 hK2 gk a0 wr J K hJ hK hs hd e0 e1 e2 e3 e11 j B ps s m n hj hk e10 e13 hpl hm hn hW hj1 hj3 hround
  obtain ⟨v1', c1', e1', m1, hc1⟩ := A1
  cases e1'
  have HC := Lib.hid hc1
  clear hc1
  obtain ⟨v2', c2', e2', m2, hc2⟩ := A2
  cases e2'
  have HC2 := Lib.hid hc2
  clear hc2
  unfold playCut
  dsimp only
  obtain ⟨u, hu, ha⟩ := frame284 a0 hs hd
  rw [hu] at e0 e1 e2 e3 e10 e11 e13
  rw [hu] at hW
  obtain ⟨ao, cp, h12, _⟩ := hW.row.at_
  rw [h12] at hW
  rw [ha, e0, e1, e2, e3, e10, e11, e13, h12]
  clear hs hd hu ha e0 e1 e2 e3 e10 e11 e13 h12
  clear a0
  have HK := Lib.hid hk
  have HW := Lib.hid hW
  clear hk hW
  obtain ⟨ba, oa, hva, hb, k0, k1, k2, k3, hok⟩ := HC.out j hj1
  have hv1 := hva
  subst hva
  have hw0 := HW.out.bel
  have d0 := (hw0.cell (p := ⟨ba, oa + j * 4, none⟩) hb).trans k0
  have d1 := (hw0.cell (p := ⟨ba, oa + j * 4 + 1, none⟩) hb).trans k1
  have d2 := (hw0.cell (p := ⟨ba, oa + j * 4 + 2, none⟩) hb).trans k2
  have d3 := (hw0.cell (p := ⟨ba, oa + j * 4 + 3, none⟩) hb).trans k3
  clear k0 k1 k2 k3 hw0 hv1
  obtain ⟨x, hx⟩ : ∃ x, acts[j] = x := ⟨_, rfl⟩
  rw [hx] at d0 d1 d2 d3 hok
  have HX0 := Lib.hid hx
  clear hx
  obtain ⟨what, which, later, dt⟩ := x
  have oh : i64r which := hok.which
  have ol : i64r later := hok.later
  have od : dt.size ≤ 140737488351232 := hok.data
  have ow : i64r what := hok.what
  simp only at d0 d1 d2 d3
  clear hok
  go_upto_region 11 with fail
  clear d0 d1 d2 d3
  have HX := Lib.hid (Blk.new wr 48 (acC what which later dt))
  have HW3 := Lib.hid (HW.out.below (balloc (Below.refl _ wr) (.cells (acC what which later dt) 48)))
  clear HW
  change Code.wp _ _ _ _ (wr.alloc (.cells (acC what which later dt) 48))
  generalize wr.alloc (.cells (acC what which later dt) 48) = w3 at HX HW3 ⊢
  generalize wr.heap.size = X at HX ⊢
  have HPk6 := Lib.hid (fun W => pick_is which 6 W oh.1 oh.2 (by omega) (by omega))
  have hp6 := pickI_r which 6 (by omega)
  generalize pickI which 6 = a6 at HPk6 hp6
  obtain ⟨p60, p61⟩ := hp6
  have HXd : Hid (Blk w3.drew X 48 (acC what which later dt)) := Lib.hid HX.out
  refine wp_abs fun a0 hA => ?_
  have h14 : a0.eval (.tmp 14) = .pointer (some ⟨X, 0, none⟩) := by rw [hA]; rfl
  have hz : a0.tmps.size = 284 := by rw [hA]; rfl
  refine wp_region_K [some 60, some 61, some 62, some 63, some 64, some 65, some 66, some 15, none] 284 (CJ (r11V X w3.drew.heap.size which a6 dt) (fun _ _ => True) [7, 8] (r11S w3.drew ⟨a6, 0, 0, dt, 0⟩)) (by kernel_rfl) (by kernel_rfl) (by kernel_rfl) rfl (by kernel_rfl) hz (CJ.start (fun i => trivial) rfl) ?_ ⟨?_, ?_, ?_, ?_, ?_, ?_, ?_, ?_, ?_, trivial⟩
  · intro d u W hd hJ
    have hS : r11S w3.drew ⟨a6, 0, 0, dt, 0⟩ 2 _ W := hJ.fin 2 rfl (fun k hk => by simp at hk; rcases hk with rfl | rfl <;> exact hd _ (by decide)) r11_le
    have e7 : u 7 = .pointer (some ⟨w3.drew.heap.size, 0, none⟩) := hJ.vals 7 (hd 7 (by decide))
    have HX5 := Lib.hid ((show Blk w3.drew X _ _ from HX.out).below hS.2)
    have HW5 := Lib.hid (HW3.out.below (bstep (Below.refl _ w3).drew hS.2))
    have HY5 : Hid (Blk W w3.drew.heap.size 24 (Pk.mk a6 0 0 dt 0).cs) := Lib.hid hS.1
    have HP : Hid (Pk.mk a6 0 0 dt 0).ok := Lib.hid ⟨⟨by show 0 ≤ a6; omega, by show a6 ≤ _; omega⟩, ⟨by show (0 : Int) ≤ 0; omega, by show (0 : Int) ≤ _; omega⟩, ⟨by show (0 : Int) ≤ 0; omega, by show (0 : Int) ≤ _; omega⟩, ⟨by show (0 : Int) ≤ 0; omega, by show (0 : Int) ≤ _; omega⟩, od⟩
    rw [hA]
    simp only [putAll, Act.put, List.setIfInBounds_toArray, List.set_cons_zero, List.set_cons_succ]
    clear hJ hd h14 hz hA
    clear a0
    rw [e7]
    clear e7 hS HX HXd HPk6
    have HYw : Hid (w.heap.size ≤ w3.drew.heap.size ∧ ∀ z, (Value.slice ao ps.length cp).ownBlock = some z → z ≠ w3.drew.heap.size) := Lib.hid ⟨HW3.out.bel.size, fun z hz => by have := (World.ownsRow.lt HW3.out.row z hz).2; show z ≠ w3.heap.size; omega⟩
    generalize w3.drew.heap.size = Y at HY5 HYw ⊢
    clear HW3
    generalize W = w5 at HX5 HW5 HY5 ⊢
    rename_i K9 hK9c Kr hKr
    apply hKr
    clear hKr
    go_upto_region 12 with fail
    rename_i Kb hKb Kz hKz
    have hK9 : Hid (∀ a W, PEnd o w (.slice (some ⟨ba, oa, none⟩) acts.length c1) (.slice v2 anyl.length c2) hh g j a W → K9 a W) := Lib.hid (by
      intro a W hE
      apply hK9c
      obtain ⟨hs, hd, e0, e1, e2, e3, e11, e13, B', ps', s', m', n', e10, h1, h2, h3, hW'⟩ := hE
      obtain ⟨u, hu, ha⟩ := frame284 a hs hd
      rw [hu] at e0 e1 e2 e3 e11 e13 e10
      rw [hu] at hW'
      rw [ha, e0, e1, e2, e3, e10, e11, e13]
      have HW' := Lib.hid hW'
      clear hs hd hu ha e0 e1 e2 e3 e11 e13 e10 hW' hKb hKz hK9c
      go_wp2_with fail
      exact Handed.intro (50 - (j + 1)) (by rw [HK.out]; omega) (hJ _ _ _ ⟨rfl, rfl, rfl, rfl, rfl, rfl, rfl, j + 1, B', ps', s', m', n', by omega, rfl, rfl, congrArg (Value.int .i64) (show (j : Int) + 1 = ((j + 1 : Nat) : Int) by omega), by omega, by omega, by omega, HW'.out⟩))
    clear hK9c
    have hb : Hid (∀ a W, PMid o w (.slice (some ⟨ba, oa, none⟩) acts.length c1) (.slice v2 anyl.length c2) hh g j B ps s m n ⟨what, which, later, dt⟩ a W → Kb a W) := Lib.hid (by
      clear hKz
      intro a W hE
      apply hKb
      clear hKb HX5 HW5 HY5 HP HYw
      obtain ⟨hs, hd, e0, e1, e2, e3, e11, e13, e10, X, Y, p, e14, e15, hW5, hX5, hY5, hp, hyw⟩ := hE
      obtain ⟨u, hu, ha⟩ := frame284 a hs hd
      rw [hu] at e0 e1 e2 e3 e11 e13 e10 e14 e15
      rw [hu] at hW5 hyw
      obtain ⟨ao, cp, h12, _⟩ := hW5.row.at_
      rw [h12] at hW5 hyw
      rw [ha, e0, e1, e2, e3, e10, e11, e13, e14, e15, h12]
      have HX5 := Lib.hid hX5
      have HW5 := Lib.hid hW5
      have HY5 := Lib.hid hY5
      have HP := Lib.hid hp
      have HYw := Lib.hid hyw
      clear hs hd hu ha e0 e1 e2 e3 e11 e13 e10 hW5 hX5 hY5 hp hyw h12 e14 e15
      go_upto_region 14 with fail
      rename_i Kc hKc Kz hKz
      have hc : Hid (∀ a W, PMid o w (.slice (some ⟨ba, oa, none⟩) acts.length c1) (.slice v2 anyl.length c2) hh g j B ps s m n ⟨what, which, later, dt⟩ a W → Kc a W) := Lib.hid (by
        intro a W hE
        apply hKc
        exact hround K9 hK9.out a W (by rw [HX0.out]; exact hE))
      clear hKc
      have hjm : (j : Int).tmod 7 = ((j % 7 : Nat) : Int) := by rw [Int.natCast_emod]; exact Int.tmod_eq_emod_of_nonneg (by omega)
      have hjd : (j : Int).tdiv 7 = ((j / 7 : Nat) : Int) := by rw [Int.natCast_ediv]; exact Int.tdiv_eq_ediv_of_nonneg (by omega)
      clear hround
      by_cases h7 : j % 7 = 6
      · have tq : ((j : Int).tmod 7 == 6) = true := by rw [hjm, h7]; rfl
        by_cases ha : j / 7 < anyl.length
        · have td : decide ((j : Int).tdiv 7 < (anyl.length : Int)) = true := by rw [hjd]; simp; omega
          obtain ⟨k, hk7⟩ : ∃ k, j / 7 = k := ⟨_, rfl⟩
          rw [hk7] at hjd ha
          clear hk7
          obtain ⟨bb, ob, hv2, hb2, q0, q1, q2, q3, q4, hpa⟩ := HC2.out k ha
          subst hv2
          have hw0 := HW5.out.bel
          have d0 := (hw0.cell (p := ⟨bb, ob + k * 5, none⟩) hb2).trans q0
          have d1 := (hw0.cell (p := ⟨bb, ob + k * 5 + 1, none⟩) hb2).trans q1
          have d2 := (hw0.cell (p := ⟨bb, ob + k * 5 + 2, none⟩) hb2).trans q2
          have d3 := (hw0.cell (p := ⟨bb, ob + k * 5 + 3, none⟩) hb2).trans q3
          have d4 := (hw0.cell (p := ⟨bb, ob + k * 5 + 4, none⟩) hb2).trans q4
          have HPa := Lib.hid hpa
          clear q0 q1 q2 q3 q4 hw0 hpa
          generalize anyl[k] = pa at d0 d1 d2 d3 d4 HPa
          have haI : ((k : Nat) : Int) < (anyl.length : Int) := by omega
          have y0 : W.cell? ⟨Y, 0, none⟩ = some (.int .u64 p.seq) := HY5.out.cell 0
          have y1 : W.cell? ⟨Y, 1, none⟩ = some (.int .u64 p.src) := HY5.out.cell 1
          have y2 : W.cell? ⟨Y, 2, none⟩ = some (.int .u64 p.dst) := HY5.out.cell 2
          have y3 : W.cell? ⟨Y, 3, none⟩ = some (.string p.data) := HY5.out.cell 3
          have y4 : W.cell? ⟨Y, 4, none⟩ = some (.int .u64 p.timeout) := HY5.out.cell 4
          have f0 := HY5.out.frozen 0
          have f1 := HY5.out.frozen 1
          have f2 := HY5.out.frozen 2
          have f3 := HY5.out.frozen 3
          have f4 := HY5.out.frozen 4
          have HW6 := Lib.hid (HW5.out.setY HY5.out HYw.out.2 HYw.out.1 (.int .u64 pa.seq) (.int .u64 pa.src) (.int .u64 pa.dst) (.string pa.data) (.int .u64 pa.timeout))
          have HX6 := Lib.hid (HX5.out.only (only_set5 W Y (.int .u64 pa.seq) (.int .u64 pa.src) (.int .u64 pa.dst) (.string pa.data) (.int .u64 pa.timeout)) (fun hm => by
            rw [show X = Y by simpa using hm] at HX5
            have h1 := HX5.out
            have h2 := HY5.out
            unfold Blk at h1 h2
            rw [h1] at h2
            simp at h2))
          have HY6 : Hid (Blk (setC5 W Y (.int .u64 pa.seq) (.int .u64 pa.src) (.int .u64 pa.dst) (.string pa.data) (.int .u64 pa.timeout)) Y 24 pa.cs) := Lib.hid (HY5.out.set5 _ _ _ _ _)
          go_wp2_with fail
          exact hc.out _ _ ⟨rfl, rfl, rfl, rfl, rfl, rfl, rfl, rfl, rfl, X, Y, pa, rfl, rfl, HW6.out, HX6.out, HY6.out, HPa.out, HYw.out⟩
        · have td : decide ((j : Int).tdiv 7 < (anyl.length : Int)) = false := by rw [hjd]; simp; omega
          go_wp2_with fail
          exact hc.out _ _ ⟨rfl, rfl, rfl, rfl, rfl, rfl, rfl, rfl, rfl, X, Y, p, rfl, rfl, HW5.out, HX5.out, HY5.out, HP.out, HYw.out⟩
      · have tq : ((j : Int).tmod 7 == 6) = false := by rw [hjm]; simp; omega
        go_wp2_with fail
        exact hc.out _ _ ⟨rfl, rfl, rfl, rfl, rfl, rfl, rfl, rfl, rfl, X, Y, p, rfl, rfl, HW5.out, HX5.out, HY5.out, HP.out, HYw.out⟩)
    clear hKb hround
    by_cases hz : ps.length = 0
    · have tz : decide (0 < (ps.length : Int)) = false := decide_eq_false (by omega)
      go_wp2_with fail
      exact hb.out _ _ ⟨rfl, rfl, rfl, rfl, rfl, rfl, rfl, rfl, rfl, X, Y, _, rfl, rfl, HW5.out, HX5.out, HY5.out, HP.out, HYw.out⟩
    · have hz0 : 0 < ps.length := by omega
      have tz : decide (0 < (ps.length : Int)) = true := decide_eq_true (by omega)
      have x1 : w5.cell? ⟨X, 1, none⟩ = some (.int .i64 which) := HX5.out.cell 1
      have x2 : w5.cell? ⟨X, 2, none⟩ = some (.int .i64 later) := HX5.out.cell 2
      clear hz
      cases hl : (later.tmod 3 != 0) with
      | false =>
        go_wp2_with fail
        exact hb.out _ _ ⟨rfl, rfl, rfl, rfl, rfl, rfl, rfl, rfl, rfl, X, Y, _, rfl, rfl, HW5.out, HX5.out, HY5.out, HP.out, HYw.out⟩
      | true =>
        go_wp2_with fail
        refine (pick_is which ps.length w5 oh.1 oh.2 (by omega) (by omega)).mono ?_
        rintro e w5' ⟨rfl, rfl⟩
        have hpk := pickI_r which ps.length (by omega)
        generalize pickI which ps.length = kk at hpk ⊢
        obtain ⟨k, rfl⟩ : ∃ k : Nat, kk = k := ⟨kk.toNat, by omega⟩
        have hk : k < ps.length := by omega
        clear hpk
        have haI : ((k : Nat) : Int) < (ps.length : Int) := by omega
        obtain ⟨bb, hv2, d0, d1, d2, d3, d4⟩ := HW5.out.p_at k hk rfl
        subst hv2
        have HPa := Lib.hid (HW5.out.ok ps[k] (List.getElem_mem hk))
        generalize ps[k] = pa at d0 d1 d2 d3 d4 HPa
        generalize (Pk.mk a6 0 0 dt 0) = p at HY5 HP
        have y0 : w5.cell? ⟨Y, 0, none⟩ = some (.int .u64 p.seq) := HY5.out.cell 0
        have y1 : w5.cell? ⟨Y, 1, none⟩ = some (.int .u64 p.src) := HY5.out.cell 1
        have y2 : w5.cell? ⟨Y, 2, none⟩ = some (.int .u64 p.dst) := HY5.out.cell 2
        have y3 : w5.cell? ⟨Y, 3, none⟩ = some (.string p.data) := HY5.out.cell 3
        have y4 : w5.cell? ⟨Y, 4, none⟩ = some (.int .u64 p.timeout) := HY5.out.cell 4
        have f0 := HY5.out.frozen 0
        have f1 := HY5.out.frozen 1
        have f2 := HY5.out.frozen 2
        have f3 := HY5.out.frozen 3
        have f4 := HY5.out.frozen 4
        have HW6 := Lib.hid (HW5.out.setY HY5.out HYw.out.2 HYw.out.1 (.int .u64 pa.seq) (.int .u64 pa.src) (.int .u64 pa.dst) (.string pa.data) (.int .u64 pa.timeout))
        have HX6 := Lib.hid (HX5.out.only (only_set5 w5 Y (.int .u64 pa.seq) (.int .u64 pa.src) (.int .u64 pa.dst) (.string pa.data) (.int .u64 pa.timeout)) (fun hm => by
          rw [show X = Y by simpa using hm] at HX5
          have h1 := HX5.out
          have h2 := HY5.out
          unfold Blk at h1 h2
          rw [h1] at h2
          simp at h2))
        have HY6 : Hid (Blk (setC5 w5 Y (.int .u64 pa.seq) (.int .u64 pa.src) (.int .u64 pa.dst) (.string pa.data) (.int .u64 pa.timeout)) Y 24 pa.cs) := Lib.hid (HY5.out.set5 _ _ _ _ _)
        go_wp2_with fail
        exact hb.out _ _ ⟨rfl, rfl, rfl, rfl, rfl, rfl, rfl, rfl, rfl, X, Y, pa, rfl, rfl, HW6.out, HX6.out, HY6.out, HPa.out, HYw.out⟩
  · exact KStep.plain rfl fun ρ d u W he hc hdi hd hJ => swp_val (run_fieldAddr (he.o h14 rfl) (by go_simp)) (hJ.pure 0 rfl rfl)
  · exact KStep.plain rfl fun ρ d u W he hc hdi hd hJ => swp_val (run_load (he.i hz (hJ.vals 0 (hd 0 (by kernel_rfl))) (j := 0) (d := 60) rfl (by decide)) (ld_i ((HXd.out.below (hJ.inv r11_below)).cell 1))) (hJ.pure 1 rfl rfl)
  · exact KStep.plain rfl fun ρ d u W he hc hdi hd hJ => swp_call (run_call #[.int .i64 which, .int .i64 6] (he.func _) (by kernel_rfl) (map2 (he.i hz (hJ.vals 1 (hd 1 (by kernel_rfl))) (j := 1) (d := 61) rfl (by decide)) (he.const _))) (HPk6.out W) (fun e W' h => ⟨_, h.1, h.2 ▸ hJ.pure 2 rfl rfl⟩)
  · exact KStep.plain rfl fun ρ d u W he hc hdi hd hJ => swp_val (run_convert (he.i hz (hJ.vals 2 (hd 2 (by kernel_rfl))) (j := 2) (d := 62) rfl (by decide)) (conv_iu _ (by omega) (by omega) W)) (hJ.pure 3 rfl rfl)
  · exact KStep.plain rfl fun ρ d u W he hc hdi hd hJ => swp_val (run_fieldAddr (he.o h14 rfl) (by go_simp)) (hJ.pure 4 rfl rfl)
  · exact KStep.plain rfl fun ρ d u W he hc hdi hd hJ => swp_val (run_load (he.i hz (hJ.vals 4 (hd 4 (by kernel_rfl))) (j := 4) (d := 64) rfl (by decide)) (ld_s ((HXd.out.below (hJ.inv r11_below)).cell 3))) (hJ.pure 5 rfl rfl)
  · exact KStep.plain rfl fun ρ d u W he hc hdi hd hJ => swp_val (run_build #[(0, .int .u64 a6), (3, .string dt)] (pairs2 (he.i hz (hJ.vals 3 (hd 3 (by kernel_rfl))) (j := 3) (d := 63) rfl (by decide)) (he.i hz (hJ.vals 5 (hd 5 (by kernel_rfl))) (j := 5) (d := 65) rfl (by decide))) (bld_pk03 _ _ W)) (hJ.pure 6 rfl rfl)
  · refine KStep.plain rfl fun ρ d u W he hc hdi hd hJ => ?_
    have hW : W = _ := hJ.at_ 0 rfl hdi (fun j h => by omega)
    subst hW
    exact swp_val (run_alc (alc_pk _)) (hJ.go 0 rfl hdi (by decide) (fun j h => by omega) rfl rfl)
  · refine KStep.plain rfl fun ρ d u W he hc hdi hd hJ => ?_
    have hW : W = _ := hJ.at_ 1 rfl hdi (fun j h => by cases h; exact ⟨7, rfl, hd 7 (by kernel_rfl)⟩)
    subst hW
    have hB : Blk (w3.drew.alloc (.cells Pk.zero.cs 24)) w3.drew.heap.size 24 Pk.zero.cs := Blk.new _ _ _
    exact swp_skip (run_store (he.i hz (hJ.vals 7 (hd 7 (by kernel_rfl))) (j := 7) (d := 15) rfl (by decide)) (he.i hz (hJ.vals 6 (hd 6 (by kernel_rfl))) (j := 6) (d := 66) rfl (by decide)) (st_pk ⟨a6, 0, 0, dt, 0⟩ Pk.zero hB)) (hJ.go 1 rfl hdi (by decide) (fun j h => by cases h; exact ⟨7, rfl, hd 7 (by kernel_rfl)⟩) trivial (r11_fin w3.drew ⟨a6, 0, 0, dt, 0⟩))
end Go.Proofs.YtpekbnkmnellpaaDoor
