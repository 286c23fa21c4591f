/-
  Acts that came in, the loops over them; the walk of StoreStill.
-/
import Derived.Test.YtichklplcpkjdaaDoorStoI
namespace Go.Proofs.YtichklplcpkjdaaDoor
open Go.RowKit
set_option linter.unusedVariables false

structure GlobS (w : World) : Prop where
  glob : Glob w
  forms : FormsAt w
theorem GlobS.below {w w' : World} (h : GlobS w) (hb : Below w.heap.size w w') : GlobS w' := ⟨h.glob.next hb, h.forms.below hb⟩
/-- a raw path -/
structure RPa where
  (c a b : Int)
def RPa.v (p : RPa) : Value := .agg #[.int .i64 p.c, .int .u64 p.a, .int .u64 p.b]
structure RPa.ok (x : RPa) : Prop where
  c0 : -9223372036854775808 ≤ x.c
  c1 : x.c ≤ 9223372036854775807
  a0 : 0 ≤ x.a
  a1 : x.a ≤ 18446744073709551615
  b0 : 0 ≤ x.b
  b1 : x.b ≤ 18446744073709551615
theorem RPa.path {x : RPa} (hx : x.ok) (w : World) : Calls Tryd.prog 11 #[.agg #[.int .i64 x.c, .int .u64 x.a, .int .u64 x.b]] w fun e w' => e = .returned (fitP x.c x.a x.b).v ∧ Below w.heap.size w w' := path9_is x.c x.a x.b hx.c0 hx.c1 hx.a0 hx.a1 hx.b0 hx.b1 w
/-- a slice of acts that came in -/
def SActsAt (W : World) (v : Value) (l : List SAct) : Prop := ∃ ao cap, v = .slice ao l.length cap ∧ l.length ≤ 9223372036854775807 ∧
  ∀ i (h : i < l.length), ∃ b off, ao = some ⟨b, off, none⟩ ∧ b < W.heap.size ∧ W.cell? ⟨b, off + i * 5, none⟩ = some (.int .i64 l[i].what) ∧ W.cell? ⟨b, off + i * 5 + 1, none⟩ = some (.int .i64 l[i].c) ∧
    W.cell? ⟨b, off + i * 5 + 2, none⟩ = some (.int .u64 l[i].a) ∧ W.cell? ⟨b, off + i * 5 + 3, none⟩ = some (.int .u64 l[i].b) ∧ W.cell? ⟨b, off + i * 5 + 4, none⟩ = some (.string l[i].v) ∧ l[i].ok
theorem Kp.cell {Z : Nat → Prop} {w w' : World} (h : Kp Z w w') {a : Addr} (ha : Z a.block) : w'.cell? a = w.cell? a := World.cell?_of_block (h.block a.block ha)
/-- the acts' loop: as many rounds as are left; the store after j acts -/
def LoopSt (Z : Nat → Prop) (w0 : World) (s N L : Nat) (P : PM → List PM → Prop) (c : Nat) (vi : Value) (wr : World) : Prop :=
  ∃ (j t n : Nat) (f : PM) (l : List PM), j ≤ 30 ∧ c = 30 - j ∧ vi = .int .i64 j ∧ n ≤ N + j ∧ l.length ≤ L + j ∧ P f l ∧ StAt wr Z s t n f l ∧ Kp Z w0 wr
theorem stepF_len (x : SAct) (f : PM) (l : List PM) : (stepF x f l).2.length ≤ l.length + 1 := by
  unfold stepF
  split
  · simp
  · split
    · simp
    · split
      · simp
      · simp
theorem stepF_cnt (x : SAct) (f : PM) (l : List PM) : (stepF x f l).2.length = if pickN x.what 8 = 5 ∨ pickN x.what 8 = 6 then l.length + 1 else l.length := by
  have h8 := pickN_lt x.what 8 (by omega)
  unfold stepF
  split
  · rw [if_neg (by omega)]
  · split
    · rw [if_neg (by omega)]
    · split
      · rw [if_pos (by omega)]; simp
      · rw [if_neg (by omega)]
theorem stepF_pre {l0 : List PM} (x : SAct) (f : PM) (l : List PM) (h : ∃ m, l = l0 ++ m) : ∃ m, (stepF x f l).2 = l0 ++ m := by
  obtain ⟨m, rfl⟩ := h
  unfold stepF
  split
  · exact ⟨m, rfl⟩
  · split
    · exact ⟨m, rfl⟩
    · split
      · exact ⟨m ++ [f], by simp⟩
      · exact ⟨m, rfl⟩
theorem root_at (i : Nat) (I : Int) (hI : I = (i : Int)) (g : PM) (Z : Nat → Prop) (s t n : Nat) (hn : n ≤ 4194304) (f : PM) (l : List PM) (w : World) (h : StAt w Z s t n f l) (hl : l.length ≤ 1000) (hg : l[i]? = some g) :
    Calls Tryd.prog 13 #[.pointer (some ⟨s, 0, none⟩), .int .i64 I] w fun e w' => e = .returned (.tuple #[.string (rootP g), .int .i64 0]) ∧ Below w.heap.size w w' := by
  obtain ⟨hi, rfl⟩ := List.getElem?_eq_some_iff.1 hg
  subst hI
  exact root_is i Z s t n hn f l w h hl hi
theorem value_at (i : Nat) (I : Int) (hI : I = (i : Int)) (g : PM) (p : Pa) (hp : p.ok) (Z : Nat → Prop) (s t n : Nat) (f : PM) (l : List PM) (w : World) (h : StAt w Z s t n f l) (hl : l.length ≤ 1000) (hg : l[i]? = some g) :
    Calls Tryd.prog 12 #[.pointer (some ⟨s, 0, none⟩), .int .i64 I, p.v] w fun e w' => e = .returned (.tuple #[.string (valF g p), .bool (hasF g p)]) ∧ Below w.heap.size w w' := by
  obtain ⟨hi, rfl⟩ := List.getElem?_eq_some_iff.1 hg
  subst hI
  exact value_is i p hp Z s t n f l w h hl hi
theorem height_at (I : Int) (Z : Nat → Prop) (s t n : Nat) (f : PM) (l : List PM) (w : World) (h : StAt w Z s t n f l) (hl : l.length ≤ 1000) (hI : I = (l.length : Int) - 1) :
    Calls Tryd.prog 15 #[.pointer (some ⟨s, 0, none⟩)] w fun e w' => e = .returned (.int .i64 I) ∧ w = w' := by
  subst hI
  exact height_is Z s t n f l w h hl
theorem commit_at (I : Int) (Z : Nat → Prop) (s t n : Nat) (hn : n ≤ 4194304) (f : PM) (l : List PM) (w : World) (h : StAt w Z s t n f l) (hl : l.length ≤ 900) (hI : I = (l.length : Int)) :
    Calls Tryd.prog 10 #[.pointer (some ⟨s, 0, none⟩)] w fun e w' => e = .returned (.int .i64 I) ∧ StAt w' Z s t n f (l ++ [f]) ∧ Kp Z w w' := by
  subst hI
  exact commit_is Z s t n hn f l w h hl
def StillRel (Z : Nat → Prop) (w0 : World) (s : Nat) (c : Nat) (v7 v8 : Value) (wr : World) : Prop :=
  ∃ h : Nat, v7 = .int .i64 (h : Int) ∧ LoopSt Z w0 s 0 1 (fun _ l => l.length = h + 1) c v8 wr
set_option maxRecDepth 100000 in
set_option maxHeartbeats 4000000 in
theorem still_walk (w : World) (G : GlobS w) (V : Value) (acts : List SAct) (raw : RPa) (A1 : SActsAt w V acts) (hr : raw.ok) :
    Calls Tryd.prog 5 #[V, raw.v] w fun e w' => e = .returned (.bool true) ∧ Below w.heap.size w w' := by
  obtain ⟨v1, c1, rfl, m1, hc1⟩ := A1
  have HC := Lib.hid hc1
  obtain ⟨w0, hw0⟩ : ∃ w0, w0 = w.alloc (.cells #[.int .i64 raw.c, .int .u64 raw.a, .int .u64 raw.b] 25) := ⟨_, rfl⟩
  have hb0 : Below w.heap.size w w0 := hw0 ▸ balloc (Below.refl _ w) _
  have HP : Hid (Blk w0 w.heap.size 25 #[.int .i64 raw.c, .int .u64 raw.a, .int .u64 raw.b]) := Lib.hid (hw0 ▸ Blk.new w _ _)
  have hG0 := G.below hb0
  obtain ⟨Z, hZ⟩ : ∃ Z : Nat → Prop, Z = fun i => i < w0.heap.size := ⟨_, rfl⟩
  have HZ : Hid (∀ i, Z i ↔ i < w0.heap.size) := Lib.hid (fun i => by rw [hZ])
  have HN : Hid (∀ w1, Below w0.heap.size w0 w1 → Calls Tryd.prog 8 #[] w1 fun e w' => ∃ s t, e = .returned (.pointer (some ⟨s, 0, none⟩)) ∧ StAt w' Z s t 0 (fun _ => none) [fun _ => none] ∧ Below w1.heap.size w1 w') := Lib.hid (fun w1 hb => new_is w1 (hG0.below hb).glob (hG0.below hb).forms Z (fun i hi => by rw [hZ] at hi; exact Nat.lt_of_lt_of_le hi hb.size) (fun i hi => by rw [hZ]; exact Nat.lt_of_lt_of_le hi hG0.glob.two))
  have HAw := Lib.hid (awake_is w0 hG0.glob hG0.forms)
  have HB0 := Lib.hid hb0
  have HW0 : Hid (w0.heap.size = w.heap.size + 1) := Lib.hid (by rw [hw0]; simp)
  have HPath := Lib.hid (fun W => RPa.path hr W)
  have HOk : Hid ((fitP raw.c raw.a raw.b).ok) := Lib.hid (fitP_ok _ _ _ hr.a0 hr.b0)
  obtain ⟨rc, ra, rb⟩ := raw
  simp only [RPa.v] at HP HPath hw0 ⊢
  generalize fitP rc ra rb = q at HPath HOk
  obtain ⟨qk, qa, qb⟩ := q
  simp only [Pa.v] at HPath
  have HW := Lib.hid hw0
  clear hc1 G hb0 hG0 hZ hw0 hr
  go_enter Tryd.func5, Tryd.ntmps5
  go_upto_region 1 with fail
  change Code.wp _ _ _ _ (w.alloc (.cells #[.int .i64 rc, .int .u64 ra, .int .u64 rb] 25))
  rw [← HW.out]
  clear HW
  go_wp2_with fail
  refine HAw.out.mono ?_
  rintro e w1 ⟨rfl, hb1⟩
  have HN1 := Lib.hid (HN.out w1 hb1)
  have HB1 := Lib.hid hb1
  clear hb1 HN HAw
  go_wp2_with fail
  refine HN1.out.mono ?_
  rintro e w2 ⟨s, t, rfl, hs2, hb2⟩
  have HT : Hid (StillRel Z w0 s 30 (.int .i64 0) (.int .i64 0) w2) := Lib.hid ⟨0, rfl, 0, t, 0, _, _, by omega, rfl, rfl, by omega, by simp, rfl, hs2, (Kp.of_below (bstep HB1.out hb2) (fun i hi => (HZ.out i).1 hi))⟩
  clear hs2 hb2 HN1 HB1
  go_wp2_with fail
  go_loopg [7, 8] 30 (fun c v7 v8 wr => StillRel Z w0 s c v7 v8 wr)
  case atStart => exact HT.out
  case round =>
    clear HT
    obtain ⟨h, rfl, j, t, n, f, l, hj, hk, rfl, hn, hl, hP, hS, hK⟩ := hrel
    have HS := Lib.hid hS
    have HK := Lib.hid hK
    have HL := Lib.hid hP
    have HLt := Lib.hid hl
    have HNt := Lib.hid hn
    have HKj := Lib.hid hk
    have hh : h ≤ 30 := by have := hP; omega
    clear hS hK hP hl hn hk
    by_cases hlt : j < acts.length ∧ j < 30
    · obtain ⟨hj1, hj3⟩ := hlt
      obtain ⟨b, off, rfl, hb, k0, k1, k2, k3, k4, hok⟩ := HC.out j hj1
      have hzb : Z b := (HZ.out b).2 (by have := HB0.out.size; omega)
      have hcw : ∀ (wx : World) (i : Nat), Kp Z w0 wx → wx.cell? ⟨b, i, none⟩ = w.cell? ⟨b, i, none⟩ := fun wx i hk => (hk.cell (a := ⟨b, i, none⟩) hzb).trans (HB0.out.cell (p := ⟨b, i, none⟩) hb)
      have d0 := (hcw wr _ HK.out).trans k0
      have d1 := (hcw wr _ HK.out).trans k1
      have d2 := (hcw wr _ HK.out).trans k2
      have d3 := (hcw wr _ HK.out).trans k3
      have d4 := (hcw wr _ HK.out).trans k4
      have HD := Lib.hid (fun wx hk => (hcw wx _ hk).trans k0)
      clear k0 k1 k2 k3 k4 hcw hzb
      generalize acts[j] = x at d0 d1 d2 d3 d4 hok HD
      have HDo := Lib.hid (does_is x hok Z s t n (by have := HNt.out; omega) f l (by have := HLt.out; omega) wr HS.out)
      have HCn := Lib.hid (stepF_cnt x f l)
      have HLe := Lib.hid (stepF_len x f l)
      have hpk := fun W => pick9_is x.what 8 hok.w0 hok.w1 (by omega) (by omega) W
      have HPk := Lib.hid hpk
      clear hpk hok
      generalize (stepF x f l).1 = f' at HDo
      generalize (stepF x f l).2 = l' at HDo HCn HLe
      generalize pickN x.what 8 = p at HPk HCn
      obtain ⟨what, rc, ra, rb, va⟩ := x
      simp only [SAct.cs] at HDo
      simp only at d0 d1 d2 d3 d4 HD HPk
      go_wp2_with fail
      refine HDo.out.mono ?_
      rintro e w4 ⟨rfl, t', hs4, hk4⟩
      have HS4 := Lib.hid hs4
      have HK4 := Lib.hid (HK.out.trans hk4)
      have g0 := HD.out w4 HK4.out
      clear hs4 hk4 HDo HS HK
      clear d0 d1 d2 d3 d4
      go_wp2_with fail
      refine (HPk.out _).mono ?_
      rintro e w5 ⟨rfl, rfl⟩
      by_cases h5 : p = 5 ∨ p = 6
      · have hln : Hid (l'.length = h + 2) := Lib.hid (by rw [HCn.out, if_pos h5, HL.out])
        have HH := Lib.hid (height_at ((h : Int) + 1) Z s t' (n + 1) f' l' w4 HS4.out (by rw [hln.out]; omega) (by rw [hln.out]; omega))
        rcases h5 with rfl | rfl
        all_goals (
          go_wp2_with fail
          refine HH.out.mono ?_
          rintro e w6 ⟨rfl, rfl⟩
          go_wp2_with fail
          go_roundg (30 - (j + 1))
          case measure => rw [HKj.out]; omega
          case rel => exact ⟨h + 1, by go_num, j + 1, t', n + 1, f', l', by omega, rfl, by go_num, by have := HNt.out; omega, by have := HLe.out; have := HLt.out; omega, hln.out, HS4.out, HK4.out⟩)
      · have hln : Hid (l'.length = h + 1) := Lib.hid (by rw [HCn.out, if_neg h5, HL.out])
        have HH := Lib.hid (height_at (h : Int) Z s t' (n + 1) f' l' w4 HS4.out (by rw [hln.out]; omega) (by rw [hln.out]; omega))
        have n5 : ((p : Int) == 5) = false := by rw [beq_eq_false_iff_ne]; omega
        have n6 : ((p : Int) == 6) = false := by rw [beq_eq_false_iff_ne]; omega
        clear h5
        go_wp2_with fail
        refine HH.out.mono ?_
        rintro e w6 ⟨rfl, rfl⟩
        go_wp2_with fail
        go_roundg (30 - (j + 1))
        case measure => rw [HKj.out]; omega
        case rel => exact ⟨h, rfl, j + 1, t', n + 1, f', l', by omega, rfl, by go_num, by have := HNt.out; omega, by have := HLe.out; have := HLt.out; omega, hln.out, HS4.out, HK4.out⟩
    · have HTst : Hid (¬ (j < acts.length ∧ j < 30)) := Lib.hid hlt
      clear hlt
      go_upto_region 7 with fail
      go_cut [38] (fun v wx => v = .bool false ∧ wr = wx)
      case first =>
        by_cases ha : j < acts.length
        · have hc : ¬ j < 30 := fun h => HTst.out ⟨ha, h⟩
          go_wp2_with fail
          go_meet
          case rel => exact ⟨by rw [decide_eq_false (by omega)], rfl⟩
        · go_wp2_with fail
          go_meet
          case rel => exact ⟨rfl, rfl⟩
      case rest =>
        obtain ⟨rfl, rfl⟩ := hcut
        clear HTst HKj HC
        have hnn : n ≤ 30 := by have := HNt.out; omega
        have HC1 := Lib.hid (commit_at ((h : Int) + 1) Z s t n (by omega) f l wr HS.out (by rw [HL.out]; omega) (by rw [HL.out]; rfl))
        go_wp2_with fail
        refine HC1.out.mono ?_
        rintro e w3 ⟨rfl, hs3, hk3⟩
        have HS3 := Lib.hid hs3
        have HK3 := Lib.hid (HK.out.trans hk3)
        clear hs3 hk3 HC1 HS HK
        have HC2 := Lib.hid (commit_at ((h : Int) + 2) Z s t n (by omega) f (l ++ [f]) w3 HS3.out (by simp [HL.out]; omega) (by simp [HL.out]; omega))
        go_wp2_with fail
        refine HC2.out.mono ?_
        rintro e w4 ⟨rfl, hs4, hk4⟩
        have HS4 := Lib.hid hs4
        have HK4 := Lib.hid (HK3.out.trans hk4)
        clear hs4 hk4 HC2 HS3 HK3
        have HD4 := Lib.hid (discard_is Z s t n (by omega) f f (l ++ [f] ++ [f]) w4 HS4.out (by simp [HL.out]; omega) (by simp))
        go_wp2_with fail
        refine HD4.out.mono ?_
        rintro e w5 ⟨rfl, t5, hs5, hk5⟩
        have HS5 := Lib.hid hs5
        have HK5 := Lib.hid (HK4.out.trans hk5)
        clear hs5 hk5 HD4 HS4 HK4
        have HC3 := Lib.hid (commit_at ((h : Int) + 3) Z s t5 n (by omega) f (l ++ [f] ++ [f]) w5 HS5.out (by simp [HL.out]; omega) (by simp [HL.out]; omega))
        go_wp2_with fail
        refine HC3.out.mono ?_
        rintro e w6 ⟨rfl, hs6, hk6⟩
        obtain ⟨l3, hl3⟩ : ∃ l3, l3 = l ++ [f] ++ [f] ++ [f] := ⟨_, rfl⟩
        rw [← hl3] at hs6
        have HS6 := Lib.hid hs6
        have HK6 := Lib.hid (HK5.out.trans hk6)
        have q1 : l3[h + 1]? = some f := by rw [hl3]; simp [HL.out]
        have q2 : l3[h + 2]? = some f := by rw [hl3]; simp [HL.out]
        have q3 : l3[h + 3]? = some f := by rw [hl3]; simp [HL.out]
        have q4 : l3.length = h + 4 := by rw [hl3]; simp [HL.out]
        have HR1 := Lib.hid (fun W hb => root_at (h + 1) ((h : Int) + 1) (by omega) f Z s t5 n (by omega) f l3 W (HS6.out.below hb) (by omega) q1)
        have HR2 := Lib.hid (fun W hb => root_at (h + 2) ((h : Int) + 2) (by omega) f Z s t5 n (by omega) f l3 W (HS6.out.below hb) (by omega) q2)
        have HR3 := Lib.hid (fun W hb => root_at (h + 3) ((h : Int) + 3) (by omega) f Z s t5 n (by omega) f l3 W (HS6.out.below hb) (by omega) q3)
        have HV1 := Lib.hid (fun W hb => value_bad ((h : Int) + 3 + 1) (by omega) (by omega) ⟨qk, qa, qb⟩ Z s t5 n f l3 W (HS6.out.below hb) (by omega) (by omega))
        have HV2 := Lib.hid (fun W hb => value_bad (-1) (by omega) (by omega) ⟨qk, qa, qb⟩ Z s t5 n f l3 W (HS6.out.below hb) (by omega) (by omega))
        simp only [Pa.v] at HV1 HV2
        generalize rootP f = R at HR1 HR2 HR3
        clear hs6 hk6 HC3 HS5 HK5 q1 q2 q3 q4 hl3
        go_wp2_with fail
        refine (HR1.out w6 (Below.refl _ _)).mono ?_
        rintro e w7 ⟨rfl, hb7⟩
        have HB7 := Lib.hid hb7
        clear hb7
        go_wp2_with fail
        refine (HR2.out w7 HB7.out).mono ?_
        rintro e w8 ⟨rfl, hb8⟩
        have HB8 := Lib.hid (bstep HB7.out hb8)
        clear hb8 HB7
        go_wp2_with fail
        refine (HR3.out w8 HB8.out).mono ?_
        rintro e w9 ⟨rfl, hb9⟩
        have HB9 := Lib.hid (bstep HB8.out hb9)
        clear hb9 HB8
        have hp9 := HP.out
        have HP9 : Hid (Blk w9 w.heap.size 25 #[.int .i64 rc, .int .u64 ra, .int .u64 rb]) := Lib.hid ((HK6.out.trans (Kp.of_below HB9.out HS6.out.zlt)).blk ((HZ.out _).2 (by have := HW0.out; omega)) HP.out)
        clear hp9
        have c0 := HP9.out.cell 0
        have c1 := HP9.out.cell 1
        have c2 := HP9.out.cell 2
        go_wp2_with fail
        refine (HPath.out _).mono ?_
        rintro e w10 ⟨rfl, hb10⟩
        have HP10 := Lib.hid (HP9.out.below hb10)
        have HB10 := Lib.hid (bstep HB9.out hb10)
        clear hb10 HB9 HP9 c0 c1 c2
        go_wp2_with fail
        refine (HV1.out w10 HB10.out).mono ?_
        rintro e w11 ⟨rfl, hb11⟩
        have HP11 := Lib.hid (HP10.out.below hb11)
        have HB11 := Lib.hid (bstep HB10.out hb11)
        clear hb11 HB10 HP10
        have c0 := HP11.out.cell 0
        have c1 := HP11.out.cell 1
        have c2 := HP11.out.cell 2
        go_wp2_with fail
        refine (HPath.out _).mono ?_
        rintro e w12 ⟨rfl, hb12⟩
        have HB12 := Lib.hid (bstep HB11.out hb12)
        clear hb12 HB11 HP11 c0 c1 c2
        go_wp2_with fail
        refine (HV2.out w12 HB12.out).mono ?_
        rintro e w13 ⟨rfl, hb13⟩
        have HB13 := Lib.hid (bstep HB12.out hb13)
        clear hb13 HB12
        go_wp2_with fail
        go_ret
        exact ⟨rfl, HB0.out.trans (((HK6.out.trans (Kp.of_below HB13.out HS6.out.zlt)).below (fun i hi => (HZ.out i).2 hi)).mono HB0.out.size)⟩
end Go.Proofs.YtichklplcpkjdaaDoor
