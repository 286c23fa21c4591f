/-
  The walk of sha's mix.
-/
import Derived.Test.YtichklplcpkjdaaDoorShaSpec
import Derived.Test.YtichklplcpkjdaaDoorShaFrame
import Derived.ScopeJumps
import Derived.Outline
import Derived.IntWalk
import Derived.Deep.QuietTactic
import Derived.BigQuiet
import Derived.StillTailTactics
namespace Go.Proofs.YtichklplcpkjdaaDoor
open Go.RowKit
set_option linter.unusedVariables false

theorem Blk.new_eq (w : World) (t : TypeId) {cs cs' : Array Value} (h : cs = cs') : Blk (w.alloc (.cells cs t)) w.heap.size t cs' := h ▸ Blk.new w t cs
theorem wC_lit : #[Value.int .u32 0, Value.int .u32 0, Value.int .u32 0, Value.int .u32 0, Value.int .u32 0, Value.int .u32 0, Value.int .u32 0, Value.int .u32 0, Value.int .u32 0, Value.int .u32 0, Value.int .u32 0, Value.int .u32 0, Value.int .u32 0, Value.int .u32 0, Value.int .u32 0, Value.int .u32 0, Value.int .u32 0, Value.int .u32 0, Value.int .u32 0, Value.int .u32 0, Value.int .u32 0, Value.int .u32 0, Value.int .u32 0, Value.int .u32 0, Value.int .u32 0, Value.int .u32 0, Value.int .u32 0, Value.int .u32 0, Value.int .u32 0, Value.int .u32 0, Value.int .u32 0, Value.int .u32 0, Value.int .u32 0, Value.int .u32 0, Value.int .u32 0, Value.int .u32 0, Value.int .u32 0, Value.int .u32 0, Value.int .u32 0, Value.int .u32 0, Value.int .u32 0, Value.int .u32 0, Value.int .u32 0, Value.int .u32 0, Value.int .u32 0, Value.int .u32 0, Value.int .u32 0, Value.int .u32 0, Value.int .u32 0, Value.int .u32 0, Value.int .u32 0, Value.int .u32 0, Value.int .u32 0, Value.int .u32 0, Value.int .u32 0, Value.int .u32 0, Value.int .u32 0, Value.int .u32 0, Value.int .u32 0, Value.int .u32 0, Value.int .u32 0, Value.int .u32 0, Value.int .u32 0, Value.int .u32 0] = wC [] := by kernel_rfl
def kA : Array Value := (kL.map fun x => Value.int .u32 x).toArray
/-- what the walks use of the package's variables -/
structure Glob (w : World) : Prop where
  k : ∃ t fr, w.heap[2]? = some (.cells kA t fr)
  first : ∃ t fr, w.heap[1]? = some (.cells (stC firstS.l) t fr)
theorem lt_of_some {w : World} {i : Nat} {o : Obj} (h : w.heap[i]? = some o) : i < w.heap.size := by
  rcases Nat.lt_or_ge i w.heap.size with hl | hl
  · exact hl
  · rw [Array.getElem?_eq_none hl] at h; cases h
theorem Glob.of_blocks {w w' : World} (G : Glob w) (h : ∀ i, i < 3 → w'.heap[i]? = w.heap[i]?) : Glob w' := by
  obtain ⟨⟨t, fr, hk⟩, ⟨t2, fr2, h2⟩⟩ := G
  exact ⟨⟨t, fr, by rw [h _ (by decide)]; exact hk⟩, ⟨t2, fr2, by rw [h _ (by decide)]; exact h2⟩⟩
theorem Glob.two {w : World} (G : Glob w) : 3 ≤ w.heap.size := by
  obtain ⟨⟨t, fr, hk⟩, ⟨t2, fr2, h2⟩⟩ := G
  exact lt_of_some hk
theorem Glob.below {w w' : World} {B : Nat} (G : Glob w) (hb : Below B w w') (h2 : 3 ≤ B) : Glob w' := G.of_blocks fun i hi => hb.block i (by omega)
theorem kA_get (i : Nat) (h : i < 64) : kA[i]? = some (.int .u32 (kL.getD i 0)) := by
  have hl : i < kL.length := h
  simp only [kA, List.getElem?_toArray, List.getElem?_map, getD_at _ i 0 hl, List.getElem?_eq_getElem hl]
  rfl
theorem Glob.kcell {w : World} (G : Glob w) (i : Nat) (h : i < 64) : w.cell? ⟨2, i, none⟩ = some (.int .u32 (kL.getD i 0)) := by
  obtain ⟨t, fr, hk⟩ := G.k
  rw [cell_of_row w _ i kA t fr hk, kA_get i h]

theorem word_x (s : ByteArray) (w : World) (v : Int) (hv : wordL s.data.toList = v) (hs : 4 ≤ s.size) (h2 : s.size ≤ maxLen) :
    Calls Tryd.prog 54 #[.string s] w fun e w' => e = .returned (.int .u32 v) ∧ Below w.heap.size w w' := hv ▸ word_l s w hs h2
/-- the row of words, as far as it is reckoned -/
def SchedRel (B : ByteArray) (w : World) (c : Nat) (i : Value) (wr : World) : Prop :=
  ∃ j : Nat, j ≤ 64 ∧ c = 64 - j ∧ i = .int .i64 j ∧ Blk wr w.heap.size 94 (wC (schedL B.data.toList j)) ∧ Below w.heap.size w wr
def sch (B : ByteArray) : List Int := schedL B.data.toList 64
theorem mix_fin (s : St) (B : ByteArray) : mixS s B.data.toList = addS s (rnds s (sch B) 64) := rfl
theorem sch_len (B : ByteArray) : (sch B).length = 64 := schedL_len _ _
/-- what stands at every jump -/
def MixJ (g : Nat) (s : St) (W : List Int) (w : World) (a : Act) (w' : World) : Prop :=
  ∃ (u : List Value) (X i : Nat), a = { tmps := u.toArray, defers := [] } ∧ u.length = 91 ∧ u[0]? = some (.pointer (some ⟨g, 0, none⟩)) ∧ u[4]? = some (.pointer (some ⟨w.heap.size, 0, none⟩)) ∧ u[8]? = some (.pointer (some ⟨X, 0, none⟩)) ∧
    u[9]? = some (.int .i64 (i : Int)) ∧ 1 ≤ i ∧ i < 64 ∧ w.heap.size < X ∧ Blk w' w.heap.size 94 (wC W) ∧ Blk w' X 84 (stC (rnds s W i).l) ∧ Below w.heap.size w w'
theorem SchedRel.drewN {B : ByteArray} {w wr : World} {c j : Nat} {i v : Value} (h : SchedRel B w c i (wr.setCell ⟨w.heap.size, j, none⟩ v)) (n : Nat) : SchedRel B w c i ((wr.drewN n).setCell ⟨w.heap.size, j, none⟩ v) := by
  obtain ⟨j, h1, h2, h3, h4, h5⟩ := h
  exact ⟨j, h1, h2, h3, h4, ⟨h5.os, h5.tape, h5.output, h5.size, h5.block⟩⟩
theorem drop_size (B : ByteArray) (j : Nat) (hs : B.size = 64) (h : j < 16) : 4 ≤ (B.extract (4 * j) B.size).size ∧ (B.extract (4 * j) B.size).size ≤ maxLen := by
  rw [ByteArray.size_extract, hs]; unfold maxLen; omega
theorem sched_word (B : ByteArray) (j : Nat) (hs : B.size = 64) (h : j < 16) : nextW B.data.toList (schedL B.data.toList j) = wordL (B.extract (4 * j) B.size).data.toList := by
  unfold nextW
  rw [schedL_len, if_pos h]
  congr 1
  simp [ByteArray.data_extract, Array.toList_extract]
  rw [List.take_of_length_le (by simp [hs])]
theorem sched_next (B : List UInt8) (j : Nat) (h : 16 ≤ j) : nextW B (schedL B j) = schedV ((schedL B j).getD (j - 16) 0) ((schedL B j).getD (j - 15) 0) ((schedL B j).getD (j - 7) 0) ((schedL B j).getD (j - 2) 0) := by
  unfold nextW
  rw [schedL_len, if_neg (by omega)]
theorem sched_store {B : ByteArray} {w wr w1 : World} {j : Nat} {x : Int} (hj : j < 64) (hb : Blk w1 w.heap.size 94 (wC (schedL B.data.toList j))) (hbel : Below w.heap.size w w1) (hx : nextW B.data.toList (schedL B.data.toList j) = x) :
    SchedRel B w (64 - (j + 1)) (.int .i64 ((j + 1 : Nat) : Int)) (w1.setCell ⟨w.heap.size, j, none⟩ (.int .u32 x)) := by
  refine ⟨j + 1, by omega, rfl, rfl, ?_, hbel.setCell (Nat.le_refl _) _⟩
  have := hb.set_ j (.int .u32 x)
  have e := wC_set (schedL B.data.toList j) x (by rw [schedL_len]; exact hj)
  rw [schedL_len] at e
  rw [e] at this
  rw [schedL, hx]
  exact this

theorem round_s (g : Nat) (s : St) (kw : Int) (w : World) (hb : Blk w g 84 (stC s.l)) :
    Calls Tryd.prog 56 #[.pointer (some ⟨g, 0, none⟩), .int .u32 kw] w fun e w' => e = .returned (.tuple #[]) ∧ Below g w w' ∧ Blk w' g 84 (stC (stepS s kw).l) :=
  round_is g s.a s.b s.c s.d s.e s.f s.g s.h kw w hb
theorem Blk.drew {w : World} {g : Nat} {t : TypeId} {cs : Array Value} (h : Blk w g t cs) : Blk w.drew g t cs := h
theorem Blk.below_lt {w w' : World} {g B : Nat} {t : TypeId} {cs : Array Value} (h : Blk w g t cs) (hb : Below B w w') (hl : g < B) : Blk w' g t cs := (hb.block g hl).trans h
def AddRel (g : Nat) (s XS : St) (X : Nat) (w : World) (c : Nat) (i : Value) (wr : World) : Prop :=
  ∃ j : Nat, j ≤ 8 ∧ c = 8 - j ∧ i = .int .i64 j ∧ Blk wr g 84 (stC (addK s.l XS.l j)) ∧ Blk wr X 84 (stC XS.l) ∧ Below g w wr
theorem add_store {g X j : Nat} {s XS : St} {w wr : World} (hj : j < 8) (hv : Blk wr g 84 (stC (addK s.l XS.l j))) (hx : Blk wr X 84 (stC XS.l)) (hb : Below g w wr) (hgX : g < X) :
    AddRel g s XS X w (8 - (j + 1)) (.int .i64 ((j + 1 : Nat) : Int)) (wr.setCell ⟨g, j, none⟩ (.int .u32 ((s.l.getD j 0 + XS.l.getD j 0) % 4294967296))).drew := by
  refine ⟨j + 1, by omega, rfl, rfl, ?_, (hx.other g j _ (by omega)).drew, (hb.setCell (p := ⟨g, j, none⟩) (Nat.le_refl _) _).drew⟩
  rw [addK, ← stC_set]
  exact (hv.set_ j _).drew
set_option maxRecDepth 100000 in
theorem MixJ.spread {g : Nat} {s : St} {W : List Int} {w w' : World} {a : Act} (h : MixJ g s W w a w') :
    ∃ (t : Nat → Value) (X i : Nat), a = { tmps := #[.pointer (some ⟨g, 0, none⟩), t 1, t 2, t 3, .pointer (some ⟨w.heap.size, 0, none⟩), t 5, t 6, t 7, .pointer (some ⟨X, 0, none⟩), .int .i64 (i : Int), t 10, t 11, t 12, t 13, t 14, t 15, t 16, t 17, t 18, t 19, t 20, t 21, t 22, t 23, t 24, t 25, t 26, t 27, t 28, t 29, t 30, t 31, t 32, t 33, t 34, t 35, t 36, t 37, t 38, t 39, t 40, t 41, t 42, t 43, t 44, t 45, t 46, t 47, t 48, t 49, t 50, t 51, t 52, t 53, t 54, t 55, t 56, t 57, t 58, t 59, t 60, t 61, t 62, t 63, t 64, t 65, t 66, t 67, t 68, t 69, t 70, t 71, t 72, t 73, t 74, t 75, t 76, t 77, t 78, t 79, t 80, t 81, t 82, t 83, t 84, t 85, t 86, t 87, t 88, t 89, t 90], defers := [] } ∧ 1 ≤ i ∧ i < 64 ∧ w.heap.size < X ∧ Blk w' w.heap.size 94 (wC W) ∧ Blk w' X 84 (stC (rnds s W i).l) ∧ Below w.heap.size w w' := by
  obtain ⟨u, X, i, ha, hl, e0, e4, e8, e9, hr⟩ := h
  refine ⟨fun k => u.getD k undef, X, i, ?_, hr⟩
  rw [ha]
  congr 1
  clear ha hr
  revert e0 e4 e8 e9
  refine elim91 (P := fun u => u[0]? = some (Value.pointer (some ⟨g, 0, none⟩)) → u[4]? = some (Value.pointer (some ⟨w.heap.size, 0, none⟩)) → u[8]? = some (Value.pointer (some ⟨X, 0, none⟩)) → u[9]? = some (Value.int .i64 (i : Int)) → u.toArray = #[.pointer (some ⟨g, 0, none⟩), u.getD 1 undef, u.getD 2 undef, u.getD 3 undef, .pointer (some ⟨w.heap.size, 0, none⟩), u.getD 5 undef, u.getD 6 undef, u.getD 7 undef, .pointer (some ⟨X, 0, none⟩), .int .i64 (i : Int), u.getD 10 undef, u.getD 11 undef, u.getD 12 undef, u.getD 13 undef, u.getD 14 undef, u.getD 15 undef, u.getD 16 undef, u.getD 17 undef, u.getD 18 undef, u.getD 19 undef, u.getD 20 undef, u.getD 21 undef, u.getD 22 undef, u.getD 23 undef, u.getD 24 undef, u.getD 25 undef, u.getD 26 undef, u.getD 27 undef, u.getD 28 undef, u.getD 29 undef, u.getD 30 undef, u.getD 31 undef, u.getD 32 undef, u.getD 33 undef, u.getD 34 undef, u.getD 35 undef, u.getD 36 undef, u.getD 37 undef, u.getD 38 undef, u.getD 39 undef, u.getD 40 undef, u.getD 41 undef, u.getD 42 undef, u.getD 43 undef, u.getD 44 undef, u.getD 45 undef, u.getD 46 undef, u.getD 47 undef, u.getD 48 undef, u.getD 49 undef, u.getD 50 undef, u.getD 51 undef, u.getD 52 undef, u.getD 53 undef, u.getD 54 undef, u.getD 55 undef, u.getD 56 undef, u.getD 57 undef, u.getD 58 undef, u.getD 59 undef, u.getD 60 undef, u.getD 61 undef, u.getD 62 undef, u.getD 63 undef, u.getD 64 undef, u.getD 65 undef, u.getD 66 undef, u.getD 67 undef, u.getD 68 undef, u.getD 69 undef, u.getD 70 undef, u.getD 71 undef, u.getD 72 undef, u.getD 73 undef, u.getD 74 undef, u.getD 75 undef, u.getD 76 undef, u.getD 77 undef, u.getD 78 undef, u.getD 79 undef, u.getD 80 undef, u.getD 81 undef, u.getD 82 undef, u.getD 83 undef, u.getD 84 undef, u.getD 85 undef, u.getD 86 undef, u.getD 87 undef, u.getD 88 undef, u.getD 89 undef, u.getD 90 undef]) u hl ?_
  intro t0 t1 t2 t3 t4 t5 t6 t7 t8 t9 t10 t11 t12 t13 t14 t15 t16 t17 t18 t19 t20 t21 t22 t23 t24 t25 t26 t27 t28 t29 t30 t31 t32 t33 t34 t35 t36 t37 t38 t39 t40 t41 t42 t43 t44 t45 t46 t47 t48 t49 t50 t51 t52 t53 t54 t55 t56 t57 t58 t59 t60 t61 t62 t63 t64 t65 t66 t67 t68 t69 t70 t71 t72 t73 t74 t75 t76 t77 t78 t79 t80 t81 t82 t83 t84 t85 t86 t87 t88 t89 t90 e0 e4 e8 e9
  have f0 := Option.some.inj e0
  have f4 := Option.some.inj e4
  have f8 := Option.some.inj e8
  have f9 := Option.some.inj e9
  subst f0 f4 f8 f9
  rfl
set_option maxRecDepth 100000 in
set_option maxHeartbeats 4000000 in
theorem mix_is (g : Nat) (s : St) (B : ByteArray) (w : World) (G : Glob w) (hs : B.size = 64) (hb : Blk w g 84 (stC s.l)) :
    Calls Tryd.prog 44 #[.pointer (some ⟨g, 0, none⟩), .string B] w fun e w' => e = .returned (.tuple #[]) ∧ Below g w w' ∧ Blk w' g 84 (stC (mixS s B.data.toList).l) := by
  have HS := Lib.hid hs
  have h64 : B.size ≤ 64 := by omega
  have h65 : 64 ≤ B.size := by omega
  clear hs
  have HB := Lib.hid hb
  clear hb
  have HG := Lib.hid G
  clear G
  obtain ⟨x0, x1, x2, x3, x4, x5, x6, x7⟩ := s
  go_enter Tryd.func44, Tryd.ntmps44
  go_wp2
  refine wp_scope_jumps 0 (MixJ g ⟨x0, x1, x2, x3, x4, x5, x6, x7⟩ (sch B) w) (fun a' _ => 64 - (intOf (a'.tmps.getD 9 undef)).toNat) rfl ?_ ?_
  · go_wp2_with fail
    go_loopg [11] 64 (fun c i wr => SchedRel B w c i wr)
    case atStart =>
      refine ⟨0, by omega, rfl, rfl, ?_, (Below.refl _ _).alloc (Nat.le_refl _) _⟩
      exact Blk.new_eq _ _ wC_lit
    case round =>
      obtain ⟨j, hj, hc, rfl, hblk, hbel⟩ := hrel
      have HC := Lib.hid hc
      have HK := Lib.hid hblk
      have HL := Lib.hid hbel
      clear hc hblk hbel
      by_cases h16 : j < 16
      · obtain ⟨d4, dm⟩ := drop_size B j HS.out h16
        obtain ⟨v, hv⟩ : ∃ v, nextW B.data.toList (schedL B.data.toList j) = v := ⟨_, rfl⟩
        have HV := Lib.hid hv
        clear hv
        go_wp2_with fail
        refine (word_x _ _ v ((sched_word B j HS.out h16).symm.trans HV.out) d4 dm).mono ?_
        rintro e w1 ⟨rfl, hb1⟩
        have K1 := Lib.hid (HK.out.below hb1)
        have L1 := Lib.hid (bstep HL.out hb1)
        clear hb1
        have c0 := K1.out.cell j
        rw [wC_zero _ j (by rw [schedL_len]; omega) (by omega)] at c0
        have f0 := K1.out.frozen j
        go_wp2_with fail
        go_roundg (64 - (j + 1))
        case measure => rw [HC.out]; omega
        case rel => exact sched_store (wr := w) (by omega) K1.out L1.out HV.out
      · by_cases h64 : j < 64
        · obtain ⟨a, ha⟩ : ∃ a, (schedL B.data.toList j).getD (j - 16) 0 = a := ⟨_, rfl⟩
          obtain ⟨x, hx⟩ : ∃ a, (schedL B.data.toList j).getD (j - 15) 0 = a := ⟨_, rfl⟩
          obtain ⟨b, hb⟩ : ∃ a, (schedL B.data.toList j).getD (j - 7) 0 = a := ⟨_, rfl⟩
          obtain ⟨y, hy⟩ : ∃ a, (schedL B.data.toList j).getD (j - 2) 0 = a := ⟨_, rfl⟩
          have HN := Lib.hid (sched_next B.data.toList j (by omega))
          rw [ha, hx, hb, hy] at HN
          have c16 := HK.out.cell (j - 16)
          have c15 := HK.out.cell (j - 15)
          have c7 := HK.out.cell (j - 7)
          have c2 := HK.out.cell (j - 2)
          have c0 := HK.out.cell j
          rw [wC_get _ _ (by rw [schedL_len]; omega), ha] at c16
          rw [wC_get _ _ (by rw [schedL_len]; omega), hx] at c15
          rw [wC_get _ _ (by rw [schedL_len]; omega), hb] at c7
          rw [wC_get _ _ (by rw [schedL_len]; omega), hy] at c2
          rw [wC_zero _ j (by rw [schedL_len]; omega) (by omega)] at c0
          have f0 := HK.out.frozen j
          clear ha hx hb hy
          have e16 : IntKind.i64.wrap ((j : Int) - 16) = (j : Int) - 16 := IntWalk.i64_in _ (by omega)
          have e7 : IntKind.i64.wrap ((j : Int) - 7) = (j : Int) - 7 := IntWalk.i64_in _ (by omega)
          have n16 : ((j : Int) - 16).toNat = j - 16 := by omega
          have n7 : ((j : Int) - 7).toNat = j - 7 := by omega
          have p16 : (16 : Int) ≤ (j : Int) := by omega
          have p7 : (7 : Int) ≤ (j : Int) := by omega
          have q16 : (j : Int) - 16 < 64 := by omega
          have q7 : (j : Int) - 7 < 64 := by omega
          have r16 : 0 ≤ (j : Int) - 16 := by omega
          have r7 : 0 ≤ (j : Int) - 7 := by omega
          have i0 : (j : Int) < 64 := by omega
          have HNE : Hid (((⟨w.heap.size, j, none⟩ : Addr) ≠ ⟨w.heap.size, j - 16, none⟩) ∧ ((⟨w.heap.size, j, none⟩ : Addr) ≠ ⟨w.heap.size, j - 7, none⟩)) := Lib.hid ⟨fun h => by injection h; omega, fun h => by injection h; omega⟩
          go_upto_region 6 with fail
          go_quiet (fail)
          go_upto_region 7 with fail
          go_region_held3 (fun w' => w'.cell? ⟨w.heap.size, j - 16, none⟩ = some (.int .u32 a) ∧ w'.cell? ⟨w.heap.size, j - 7, none⟩ = some (.int .u32 b)) (first | go_keep | exact ⟨(by rw [World.cell?_setCell_other _ _ _ _ HNE.out.1]; exact c16), (by rw [World.cell?_setCell_other _ _ _ _ HNE.out.2]; exact c7)⟩)
            (first | (go_at_call 55; refine (right_is x 7 _ (by omega) (by omega)).mono ?_; rintro e w' ⟨rfl, rfl⟩) | (go_at_call 55; refine (right_is x 18 _ (by omega) (by omega)).mono ?_; rintro e w' ⟨rfl, rfl⟩) | (go_at_call 55; refine (right_is y 17 _ (by omega) (by omega)).mono ?_; rintro e w' ⟨rfl, rfl⟩) | (go_at_call 55; refine (right_is y 19 _ (by omega) (by omega)).mono ?_; rintro e w' ⟨rfl, rfl⟩))
          have HS1 := Lib.hid (sched_store (wr := w) (x := schedV a x b y) h64 HK.out HL.out HN.out)
          clear c16 c15 c7 c2 c0 f0 e16 e7 n16 n7 HNE HN HK HL
          go_wp2_with fail
          go_roundg (64 - (j + 1))
          case measure => rw [HC.out]; omega
          case rel => exact HS1.out.drewN _
        · obtain rfl : j = 64 := by omega
          clear HC h16 h64 hj
          have HG1 := Lib.hid (HG.out.below HL.out HG.out.two)
          have HB1 := Lib.hid (HB.out.below HL.out)
          have v0 : wr.cell? ⟨g, 0, none⟩ = some (.int .u32 x0) := HB1.out.cell 0
          have v1 : wr.cell? ⟨g, 1, none⟩ = some (.int .u32 x1) := HB1.out.cell 1
          have v2 : wr.cell? ⟨g, 2, none⟩ = some (.int .u32 x2) := HB1.out.cell 2
          have v3 : wr.cell? ⟨g, 3, none⟩ = some (.int .u32 x3) := HB1.out.cell 3
          have v4 : wr.cell? ⟨g, 4, none⟩ = some (.int .u32 x4) := HB1.out.cell 4
          have v5 : wr.cell? ⟨g, 5, none⟩ = some (.int .u32 x5) := HB1.out.cell 5
          have v6 : wr.cell? ⟨g, 6, none⟩ = some (.int .u32 x6) := HB1.out.cell 6
          have v7 : wr.cell? ⟨g, 7, none⟩ = some (.int .u32 x7) := HB1.out.cell 7
          go_wp2_with fail
          go_step3
          go_upto_region 11 with fail
          have hK2 : Blk _ _ _ (wC (sch B)) := HK.out.alloc (.cells #[.int .u32 x0, .int .u32 x1, .int .u32 x2, .int .u32 x3, .int .u32 x4, .int .u32 x5, .int .u32 x6, .int .u32 x7] 84)
          have hX2 : Blk _ _ _ (stC (rnds ⟨x0, x1, x2, x3, x4, x5, x6, x7⟩ (sch B) 0).l) := Blk.new wr 84 #[.int .u32 x0, .int .u32 x1, .int .u32 x2, .int .u32 x3, .int .u32 x4, .int .u32 x5, .int .u32 x6, .int .u32 x7]
          have hL2 := balloc HL.out (.cells #[.int .u32 x0, .int .u32 x1, .int .u32 x2, .int .u32 x3, .int .u32 x4, .int .u32 x5, .int .u32 x6, .int .u32 x7] 84)
          have hXl := HK.out.lt
          generalize wr.alloc (.cells #[.int .u32 x0, .int .u32 x1, .int .u32 x2, .int .u32 x3, .int .u32 x4, .int .u32 x5, .int .u32 x6, .int .u32 x7] 84) = w2 at hK2 hX2 hL2 ⊢
          generalize wr.heap.size = X at hX2 hXl ⊢
          clear v0 v1 v2 v3 v4 v5 v6 v7 HB1 HG1 HK HL
          have HK := Lib.hid hK2
          have HX := Lib.hid hX2
          have HL := Lib.hid hL2
          have HXl := Lib.hid hXl
          clear hK2 hX2 hL2 hXl
          have k0 := (HG.out.below HL.out HG.out.two).kcell 0 (by omega)
          have w0 := HK.out.cell 0
          rw [wC_get _ _ (by rw [sch_len]; omega)] at w0
          have HR : Hid (rnds ⟨x0, x1, x2, x3, x4, x5, x6, x7⟩ (sch B) 1 = stepS (rnds ⟨x0, x1, x2, x3, x4, x5, x6, x7⟩ (sch B) 0) ((kL.getD 0 0 + (sch B).getD 0 0) % 4294967296)) := Lib.hid rfl
          generalize kL.getD 0 0 = kk at k0 HR
          generalize (sch B).getD 0 0 = ww at w0 HR
          go_still_tail 7, (by kernel_rfl)
          change wpList _ _ _ _ _ w2.drew
          go_wp2_with fail
          refine (round_s X _ _ w2.drew HX.out).mono ?_
          rintro e w3 ⟨rfl, hb3, hx3⟩
          rw [← HR.out] at hx3
          have HX3 := Lib.hid hx3
          have HK3 := Lib.hid (HK.out.drew.below_lt hb3 HXl.out)
          have HL3 := Lib.hid (HL.out.drew.trans (hb3.mono (Nat.le_of_lt HXl.out)))
          clear hb3 hx3 k0 w0
          go_wp2_with fail
          go_step3
          exact ⟨rfl, _, X, 1, rfl, rfl, rfl, rfl, rfl, rfl, by omega, by omega, HXl.out, HK3.out, HX3.out, HL3.out⟩
  · intro a' w2 hJ
    obtain ⟨t, X, i, rfl, hi1, hi2, hXl, hK, hX, hL⟩ := hJ.spread
    clear hJ
    have k0 := (HG.out.below hL HG.out.two).kcell i hi2
    have w0 := hK.cell i
    rw [wC_get _ _ (by rw [sch_len]; exact hi2)] at w0
    have HR : Hid (rnds ⟨x0, x1, x2, x3, x4, x5, x6, x7⟩ (sch B) (i + 1) = stepS (rnds ⟨x0, x1, x2, x3, x4, x5, x6, x7⟩ (sch B) i) ((kL.getD i 0 + (sch B).getD i 0) % 4294967296)) := Lib.hid rfl
    have HK := Lib.hid hK
    have HX := Lib.hid hX
    have HL := Lib.hid hL
    have HXl := Lib.hid hXl
    clear hK hX hL hXl
    generalize kL.getD i 0 = kk at k0 HR
    generalize (sch B).getD i 0 = ww at w0 HR
    have ii : (i : Int) < 64 := by omega
    go_upto_region 11 with fail
    go_still_tail 7, (by kernel_rfl)
    change wpList _ _ _ _ _ w2.drew
    go_wp2_with fail
    refine (round_s X _ _ w2.drew HX.out).mono ?_
    rintro e w3 ⟨rfl, hb3, hx3⟩
    rw [← HR.out] at hx3
    have HX3 := Lib.hid hx3
    have HK3 := Lib.hid (HK.out.drew.below_lt hb3 HXl.out)
    have HL3 := Lib.hid (HL.out.drew.trans (hb3.mono (Nat.le_of_lt HXl.out)))
    clear hb3 hx3 k0 w0 HR HX HK
    by_cases h63 : i < 63
    · go_wp2_with fail
      go_step3
      refine ⟨rfl, ⟨_, X, i + 1, rfl, rfl, rfl, rfl, rfl, rfl, by omega, by omega, HXl.out, HK3.out, HX3.out, HL3.out⟩, ?_⟩
      simp [intOf]
      omega
    · have H63 : Hid (i = 63) := Lib.hid (by omega)
      have t63 : (64 : Int) ≤ (i : Int) + 1 := by omega
      clear hi1 h63
      have hgX : g < w.heap.size := HB.out.lt
      have HB3 := Lib.hid (HB.out.below_lt HL3.out hgX)
      have HLg := Lib.hid (HL3.out.mono (Nat.le_of_lt hgX))
      obtain ⟨XS, hXS⟩ : ∃ x, rnds ⟨x0, x1, x2, x3, x4, x5, x6, x7⟩ (sch B) (i + 1) = x := ⟨_, rfl⟩
      rw [hXS] at HX3
      have HXS := Lib.hid hXS
      clear hXS HK3 HL3 HL
      go_wp2_with fail
      go_loopg [76] 8 (fun c i wr => AddRel g ⟨x0, x1, x2, x3, x4, x5, x6, x7⟩ XS X w c i wr)
      case atStart => exact ⟨0, by omega, rfl, rfl, HB3.out, HX3.out, HLg.out⟩
      case round =>
        obtain ⟨j, hj, hc, rfl, hv, hx, hb⟩ := hrel
        have HC := Lib.hid hc
        have HV := Lib.hid hv
        have HXr := Lib.hid hx
        have HBr := Lib.hid hb
        have HgX : Hid (g < X) := Lib.hid (Nat.lt_trans hgX HXl.out)
        clear hc hv hx hb HB3 HX3 HLg
        by_cases h8 : j < 8
        · have j8 : (j : Int) < 8 := by omega
          have c0 := HV.out.cell j
          have c1 := HXr.out.cell j
          rw [stC_getK _ _ _ (by exact h8)] at c0
          rw [stC_get _ _ (by exact h8)] at c1
          have f0 := HV.out.frozen j
          have HA := Lib.hid (add_store (s := ⟨x0, x1, x2, x3, x4, x5, x6, x7⟩) (XS := XS) h8 HV.out HXr.out HBr.out HgX.out)
          generalize (St.l ⟨x0, x1, x2, x3, x4, x5, x6, x7⟩).getD j 0 = va at c0 HA
          generalize XS.l.getD j 0 = vb at c1 HA
          clear HV HXr HBr HgX
          go_upto_region 17 with fail
          go_region
          go_wp2_with fail
          go_roundg (8 - (j + 1))
          case measure => rw [HC.out]; omega
          case rel => exact HA.out
        · obtain rfl : j = 8 := by omega
          clear HC h8 hj
          have HM : Hid (stC (addK (St.l ⟨x0, x1, x2, x3, x4, x5, x6, x7⟩) XS.l 8) = stC (mixS ⟨x0, x1, x2, x3, x4, x5, x6, x7⟩ B.data.toList).l) := Lib.hid (by rw [addK_all, ← HXS.out, H63.out, mix_fin])
          have HR := Lib.hid (show Blk wr g 84 (stC (mixS ⟨x0, x1, x2, x3, x4, x5, x6, x7⟩ B.data.toList).l) from by rw [← HM.out]; exact HV.out)
          clear HM HXS H63 HV
          go_wp2_with fail
          simp only [Exit.jump]
          go_end0
          exact ⟨rfl, HBr.out, HR.out⟩
end Go.Proofs.YtichklplcpkjdaaDoor
