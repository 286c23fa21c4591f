/-
  The walk of StoreKeeps (printed by gen_stok.py).
-/
import Derived.Test.YtichklplcpkjdaaDoorStoJ
namespace Go.Proofs.YtichklplcpkjdaaDoor
open Go.RowKit
set_option linter.unusedVariables false

def kpV13 (s t pb qk qa qb : Nat) (va : ByteArray) (ha : Bool) (i : Nat) (v : Value) : Prop := match i with
  | 0 => v = .pointer (some ⟨s, 0, none⟩)
  | 1 => v = .pointer (some ⟨s, 0, none⟩)
  | 2 => v = .pointer (some ⟨s, 0, none⟩)
  | 3 => v = .agg #[ptr t]
  | 4 => v = .agg #[.int .i64 (qk : Int), .int .u64 (qa : Int), .int .u64 (qb : Int)]
  | 5 => v = .tuple #[.string va, .bool ha]
  | 6 => v = .tuple #[.string va, .bool ha]
  | 7 => v = .string va
  | 8 => v = .bool ha
  | 9 => v = .string va
  | 10 => v = .bool ha
  | _ => True
set_option maxRecDepth 100000 in
set_option maxHeartbeats 8000000 in
theorem keeps_walk (w : World) (G : GlobS w) (V1 : Value) (acts1 : List SAct) (V2 : Value) (acts2 : List SAct) (raw : RPa) (A1 : SActsAt w V1 acts1) (A2 : SActsAt w V2 acts2) (hraw : raw.ok) :
    Calls Tryd.prog 3 #[V1, V2, raw.v] w fun e w' => e = .returned (.bool true) ∧ Below w.heap.size w w' := by
  obtain ⟨v1, c1, rfl, m1, hc1⟩ := A1
  have HC1 := Lib.hid hc1
  obtain ⟨v2, c2, rfl, m2, hc2⟩ := A2
  have HC2 := Lib.hid hc2
  obtain ⟨w0, hw0⟩ : ∃ w0, w0 = (w.alloc (.cells #[.int .i64 raw.c, .int .u64 raw.a, .int .u64 raw.b] 25)) := ⟨_, rfl⟩
  have hb0 : Below w.heap.size w w0 := hw0 ▸ balloc (Below.refl _ w) _
  have HP0 : Hid (Blk w0 (w.heap.size) 25 #[.int .i64 raw.c, .int .u64 raw.a, .int .u64 raw.b]) := Lib.hid (hw0 ▸ Blk.new w _ _)
  have hG0 := G.below hb0
  obtain ⟨Z, hZ⟩ : ∃ Z : Nat → Prop, Z = fun i => i < w0.heap.size := ⟨_, rfl⟩
  have HZ : Hid (∀ i, Z i ↔ i < w0.heap.size) := Lib.hid (fun i => by rw [hZ])
  have HN : Hid (∀ w1, Below w0.heap.size w0 w1 → Calls Tryd.prog 8 #[] w1 fun e w' => ∃ s t, e = .returned (.pointer (some ⟨s, 0, none⟩)) ∧ StAt w' Z s t 0 (fun _ => none) [fun _ => none] ∧ Below w1.heap.size w1 w') := Lib.hid (fun w1 hb => new_is w1 (hG0.below hb).glob (hG0.below hb).forms Z (fun i hi => by rw [hZ] at hi; exact Nat.lt_of_lt_of_le hi hb.size) (fun i hi => by rw [hZ]; exact Nat.lt_of_lt_of_le hi hG0.glob.two))
  have HAw := Lib.hid (awake_is w0 hG0.glob hG0.forms)
  have HB0 := Lib.hid hb0
  have HW0 : Hid (w0.heap.size = w.heap.size + 1) := Lib.hid (by rw [hw0]; simp)
  have HPath0 := Lib.hid (fun W => RPa.path hraw W)
  have HOk0 : Hid ((fitP raw.c raw.a raw.b).ok) := Lib.hid (fitP_ok _ _ _ hraw.a0 hraw.b0)
  obtain ⟨rc, ra, rb⟩ := raw
  simp only at HP0 HPath0 HOk0 hw0
  generalize fitP rc ra rb = q at HPath0 HOk0
  obtain ⟨qk, qa, qb⟩ := q
  simp only [Pa.v] at HPath0
  simp only [RPa.v]
  have HW := Lib.hid hw0
  clear hc1 hc2 G hb0 hG0 hZ hw0 hraw
  go_enter Tryd.func3, Tryd.ntmps3
  go_upto_region 1 with fail
  change Code.wp _ _ _ _ (w.alloc (.cells #[.int .i64 rc, .int .u64 ra, .int .u64 rb] 25))
  rw [← HW.out]
  clear HW
  go_wp2_with fail
  refine HAw.out.mono ?_
  rintro e w1 ⟨rfl, hb1⟩
  have HN1 := Lib.hid (HN.out w1 hb1)
  have HB1 := Lib.hid hb1
  clear hb1 HN HAw
  go_wp2_with fail
  refine HN1.out.mono ?_
  rintro e w2 ⟨s, t, rfl, hs2, hb2⟩
  have HT : Hid (LoopSt Z w0 s 0 1 (fun _ _ => True) 30 (.int .i64 0) w2) := Lib.hid ⟨0, t, 0, _, _, by omega, rfl, rfl, by omega, by simp, trivial, hs2, (Kp.of_below (bstep HB1.out hb2) (fun i hi => (HZ.out i).1 hi))⟩
  clear hs2 hb2 HN1 HB1
  clear t
  go_wp2_with fail
  go_loopg [9] 30 (fun c vi wr => LoopSt Z w0 s 0 1 (fun _ _ => True) c vi wr)
  case atStart => exact HT.out
  case round =>
    clear HT
    obtain ⟨j, t, n, f, l, hj, hk, rfl, hn, hl, hP, hS, hK⟩ := hrel
    have hK0 : Kp Z w0 wr := hK
    have HK0 := Lib.hid hK0
    have HS := Lib.hid hS
    have HK := Lib.hid hK
    have HPc := Lib.hid hP
    have HLt := Lib.hid hl
    have HNt := Lib.hid hn
    have HKj := Lib.hid hk
    clear hS hK hP hl hn hk hK0
    by_cases hlt : j < acts1.length ∧ j < 30
    · obtain ⟨hj1, hj3⟩ := hlt
      obtain ⟨b, off, rfl, hb, k0, k1, k2, k3, k4, hok⟩ := HC1.out j hj1
      have hzb : Z b := (HZ.out b).2 (by have := HB0.out.size; omega)
      have hcw : ∀ (wx : World) (i : Nat), Kp Z w0 wx → wx.cell? ⟨b, i, none⟩ = w.cell? ⟨b, i, none⟩ := fun wx i hk => (hk.cell (a := ⟨b, i, none⟩) hzb).trans (HB0.out.cell (p := ⟨b, i, none⟩) hb)
      have d0 := (hcw wr _ HK0.out).trans k0
      have d1 := (hcw wr _ HK0.out).trans k1
      have d2 := (hcw wr _ HK0.out).trans k2
      have d3 := (hcw wr _ HK0.out).trans k3
      have d4 := (hcw wr _ HK0.out).trans k4
      clear k0 k1 k2 k3 k4 hcw hzb
      generalize acts1[j] = x at d0 d1 d2 d3 d4 hok
      have HDo := Lib.hid (does_is x hok Z s t n (by have := HNt.out; omega) f l (by have := HLt.out; omega) wr HS.out)
      have HPs : Hid ((fun _ _ => True) (stepF x f l).1 (stepF x f l).2) := Lib.hid (trivial)
      have HLe := Lib.hid (stepF_len x f l)
      clear hok
      generalize (stepF x f l).1 = f' at HDo HPs
      generalize (stepF x f l).2 = l' at HDo HPs HLe
      obtain ⟨what, xc, xa, xb, va⟩ := x
      simp only [SAct.cs] at HDo
      simp only at d0 d1 d2 d3 d4
      go_wp2_with fail
      refine HDo.out.mono ?_
      rintro e w4 ⟨rfl, t', hs4, hk4⟩
      have HS4 := Lib.hid hs4
      have HK4 := Lib.hid (HK.out.trans hk4)
      clear hs4 hk4 HDo HS HK HK0 d0 d1 d2 d3 d4
      go_wp2_with fail
      go_roundg (30 - (j + 1))
      case measure => rw [HKj.out]; omega
      case rel => exact ⟨j + 1, t', n + 1, f', l', by omega, rfl, by go_num, by have := HNt.out; omega, by have := HLe.out; have := HLt.out; omega, HPs.out, HS4.out, HK4.out⟩
    · have HTst : Hid (¬ (j < acts1.length ∧ j < 30)) := Lib.hid hlt
      clear hlt
      go_upto_region 6 with fail
      go_cut [38] (fun v wx => v = .bool false ∧ wr = wx)
      case first =>
        by_cases ha : j < acts1.length
        · have hc : ¬ j < 30 := fun h => HTst.out ⟨ha, h⟩
          go_wp2_with fail
          go_meet
          case rel => exact ⟨by rw [decide_eq_false (by omega)], rfl⟩
        · go_wp2_with fail
          go_meet
          case rel => exact ⟨rfl, rfl⟩
      case rest =>
        obtain ⟨rfl, rfl⟩ := hcut
        clear HTst HKj HC1
        have hnn : n ≤ 0 + 30 := by have := HNt.out; omega
        have hll : l.length ≤ 1 + 30 := by have := HLt.out; omega
        clear HNt HLt
        obtain ⟨h, hh⟩ : ∃ h, l.length = h := ⟨_, rfl⟩
        have HC1 := Lib.hid (commit_at (h : Int) Z s t n (by omega) f l wr HS.out (by omega) (by rw [hh]))
        obtain ⟨l0, hl0⟩ : ∃ l0, l0 = l ++ [f] := ⟨_, rfl⟩
        rw [← hl0] at HC1
        have HQ1 : Hid (l0[h]? = some f) := Lib.hid (by rw [hl0]; simp [← hh])
        have HL0 : Hid (l0.length = h + 1) := Lib.hid (by rw [hl0]; simp [hh])
        have hh31 : h ≤ 31 := by omega
        go_wp2_with fail
        refine HC1.out.mono ?_
        rintro e w3 ⟨rfl, hs3, hk3⟩
        have HS3 := Lib.hid hs3
        have HK3 := Lib.hid (HK.out.trans hk3)
        clear hs3 hk3 HC1 HS HK HK0 HPc hl0 hll hh
        clear l
        have HPr := Lib.hid (HK3.out.blk ((HZ.out _).2 (by have := HW0.out; omega)) HP0.out)
        have c0 := HPr.out.cell 0
        have c1 := HPr.out.cell 1
        have c2 := HPr.out.cell 2
        go_wp2_with fail
        refine (HPath0.out _).mono ?_
        rintro e w4 ⟨rfl, hb4⟩
        clear HPr c0 c1 c2
        go_upto_region 11 with fail
        obtain ⟨X, hX⟩ : ∃ X, w4.heap.size = X := ⟨_, rfl⟩
        have hl4 := balloc (Below.refl _ w4) (.cells #[.int .i64 (qk : Int), .int .u64 (qa : Int), .int .u64 (qb : Int)] 25)
        have hP4 := Blk.new w4 25 #[.int .i64 (qk : Int), .int .u64 (qa : Int), .int .u64 (qb : Int)]
        obtain ⟨Z2, hZ2⟩ : ∃ Z2 : Nat → Prop, Z2 = fun i => Z i ∨ i = X := ⟨_, rfl⟩
        have HZ2 : Hid ((∀ i, Z i → Z2 i) ∧ Z2 X) := Lib.hid (by rw [hZ2]; exact ⟨fun i hi => .inl hi, .inr rfl⟩)
        have hS5 : StAt (w4.alloc (.cells #[.int .i64 (qk : Int), .int .u64 (qa : Int), .int .u64 (qb : Int)] 25)) Z2 s t n f l0 := (HS3.out.below hb4).pin hl4 (fun i hi => by
          rw [hZ2] at hi
          rcases hi with hi | hi
          · exact ⟨Nat.lt_of_lt_of_le (HS3.out.zlt i hi) (Nat.le_trans hb4.size hl4.size), .inl hi⟩
          · simp only [World.size_alloc]
            omega) (fun i hi => (HZ2.out.1 i (HS3.out.zg i hi)))
        have hk5 : Kp Z w0 (w4.alloc (.cells #[.int .i64 (qk : Int), .int .u64 (qa : Int), .int .u64 (qb : Int)] 25)) := HK3.out.trans ((Kp.of_below hb4 HS3.out.zlt).trans (Kp.of_below hl4 (HS3.out.below hb4).zlt) |>.mono (fun i hi => hi))
        change Code.wp _ _ _ _ (w4.alloc (.cells #[.int .i64 (qk : Int), .int .u64 (qa : Int), .int .u64 (qb : Int)] 25))
        rw [hX] at hP4 ⊢
        clear hZ2 hX hl4 hb4 HS3
        generalize w4.alloc (.cells #[.int .i64 (qk : Int), .int .u64 (qa : Int), .int .u64 (qb : Int)] 25) = w5 at hP4 hS5 hk5 ⊢
        clear w4
        have HS := Lib.hid hS5
        have HKP := Lib.hid hk5
        have HPb := Lib.hid hP4
        clear hS5 hk5 hP4
        obtain ⟨va, hva⟩ : ∃ va, valF f ⟨qk, qa, qb⟩ = va := ⟨_, rfl⟩
        obtain ⟨ha, hha⟩ : ∃ ha, hasF f ⟨qk, qa, qb⟩ = ha := ⟨_, rfl⟩
        obtain ⟨R, hR⟩ : ∃ R, rootP f = R := ⟨_, rfl⟩
        have HVal : Hid (∀ (Zc : Nat → Prop) (W : World) (t n : Nat) (g : PM) (l : List PM), StAt W Zc s t n g l → l.length ≤ 1000 → l[h]? = some f → Calls Tryd.prog 12 #[.pointer (some ⟨s, 0, none⟩), .int .i64 (h : Int), .agg #[.int .i64 (qk : Int), .int .u64 (qa : Int), .int .u64 (qb : Int)]] W fun e w' => e = .returned (.tuple #[.string va, .bool ha]) ∧ Below W.heap.size W w') := Lib.hid (fun Zc W t n g l hS h1 h2 => by
          have := value_at h (h : Int) rfl f ⟨qk, qa, qb⟩ HOk0.out Zc s t n g l W hS h1 h2
          rw [hva, hha] at this
          exact this)
        have HRoot : Hid (∀ (Zc : Nat → Prop) (W : World) (t n : Nat) (g : PM) (l : List PM) (I : Int) (i : Nat), StAt W Zc s t n g l → n ≤ 1000 → l.length ≤ 1000 → I = (i : Int) → l[i]? = some f → Calls Tryd.prog 13 #[.pointer (some ⟨s, 0, none⟩), .int .i64 I] W fun e w' => e = .returned (.tuple #[.string R, .int .i64 0]) ∧ Below W.heap.size W w') := Lib.hid (fun Zc W t n g l I i hS hn h1 hI h2 => by
          have := root_at i I hI f Zc s t n (by omega) g l W hS h1 h2
          rw [hR] at this
          exact this)
        have HGet : Hid (∀ (Zc : Nat → Prop) (W : World) (t n : Nat) (l : List PM), StAt W Zc s t n f l → Calls Tryd.prog 14 #[.agg #[ptr t], .agg #[.int .i64 (qk : Int), .int .u64 (qa : Int), .int .u64 (qb : Int)]] W fun e w' => e = .returned (.tuple #[.string va, .bool ha]) ∧ Below W.heap.size W w') := Lib.hid (fun Zc W t n l hS => by
          have := get_st hS HOk0.out
          rw [hva, hha] at this
          exact this)
        clear hva hha hR
        have c0 := HPb.out.cell 0
        have c1 := HPb.out.cell 1
        have c2 := HPb.out.cell 2
        go_wp2_with fail
        refine (HVal.out Z2 w5 t n f l0 HS.out (by rw [HL0.out]; omega) HQ1.out).mono ?_
        rintro e w7 ⟨rfl, hb7⟩
        have HPb1 := Lib.hid (HPb.out.below hb7)
        have HS1 := Lib.hid (HS.out.below hb7)
        have HK1 := Lib.hid (HKP.out.trans (Kp.of_below hb7 (fun i hi => HS.out.zlt i (HZ2.out.1 i hi))))
        clear hb7 HPb HS HKP
        have HPb := HPb1
        have HS := HS1
        have HKP := HK1
        clear HPb1 HS1 HK1
        clear c0 c1 c2
        go_wp2_with fail
        refine (HRoot.out Z2 w7 t n f l0 (h : Int) h HS.out (by omega) (by rw [HL0.out]; omega) rfl HQ1.out).mono ?_
        rintro e w8 ⟨rfl, hb7⟩
        have HPb1 := Lib.hid (HPb.out.below hb7)
        have HS1 := Lib.hid (HS.out.below hb7)
        have HK1 := Lib.hid (HKP.out.trans (Kp.of_below hb7 (fun i hi => HS.out.zlt i (HZ2.out.1 i hi))))
        clear hb7 HPb HS HKP
        have HPb := HPb1
        have HS := HS1
        have HKP := HK1
        clear HPb1 HS1 HK1
        go_upto_region 13 with fail
        have HSt := Lib.hid (HS.out.below (Below.refl _ w8).drew)
        have HPb0 := Lib.hid HPb.out
        have HPb : Hid (Blk w8.drew X 25 #[.int .i64 (qk : Int), .int .u64 (qa : Int), .int .u64 (qb : Int)]) := Lib.hid HPb.out
        have HOp : Hid (∀ W, Below w8.drew.heap.size w8.drew W → Calls Tryd.prog 14 #[.agg #[ptr t], .agg #[.int .i64 (qk : Int), .int .u64 (qa : Int), .int .u64 (qb : Int)]] W fun e w' => e = .returned (.tuple #[.string va, .bool ha]) ∧ Below W.heap.size W w') := Lib.hid (fun W hb => HGet.out _ W _ _ _ (HSt.out.below hb))
        refine wp_abs fun a0 hA => ?_
        have h8 : a0.eval (.tmp 8) = .pointer (some ⟨s, 0, none⟩) := by rw [hA]; rfl
        have h11 : a0.eval (.tmp 11) = .pointer (some ⟨X, 0, none⟩) := by rw [hA]; rfl
        have hz : a0.tmps.size = 137 := by rw [hA]; rfl
        refine wp_region_K [some 65, some 66, some 67, some 68, some 69, some 70, some 64, some 71, some 72, some 16, some 17] 137 (CJ (kpV13 s t X qk qa qb va ha) (fun _ _ => True) [5] (bwS w8.drew)) (by kernel_rfl) (by kernel_rfl) (by kernel_rfl) rfl (by kernel_rfl) hz (CJ.start (fun i => trivial) ⟨Nat.zero_le 1, Below.refl _ _⟩) ?_ ⟨?_, ?_, ?_, ?_, ?_, ?_, ?_, ?_, ?_, ?_, ?_, trivial⟩
        · intro d ug Wg hd hJ
          have HW : Hid (Below w8.heap.size w8 Wg) := Lib.hid (bstep (Below.refl _ w8).drew (bwS_inv hJ))
          have e9 : ug 9 = .string va := hJ.vals 9 (hd 9 (by decide))
          have e10 : ug 10 = .bool ha := hJ.vals 10 (hd 10 (by decide))
          rw [hA]
          simp only [putAll, Act.put, List.setIfInBounds_toArray, List.set_cons_zero, List.set_cons_succ]
          clear hJ hd h8 h11 hz hA
          clear a0
          rw [e9, e10]
          clear e9 e10
          clear HOp HSt HPb
          have HPb := Lib.hid (HPb0.out.below HW.out)
          have HS1 := Lib.hid (HS.out.below HW.out)
          have HK1 := Lib.hid (HKP.out.trans (Kp.of_below HW.out (fun i hi => HS.out.zlt i (HZ2.out.1 i hi))))
          clear HW HPb0 HS HKP
          have HS := HS1
          have HKP := HK1
          clear HS1 HK1
          have HH := Lib.hid (height_at (h : Int) Z2 s t n f l0 _ HS.out (by rw [HL0.out]; omega) (by rw [HL0.out]; omega))
          go_wp2_with fail
          refine HH.out.mono ?_
          rintro e _ ⟨rfl, rfl⟩
          clear HH
          have HT : Hid (LoopSt Z2 Wg s 30 (h + 1) (fun _ l => ∃ m, l = l0 ++ m) 30 (.int .i64 0) Wg) := Lib.hid ⟨0, t, n, f, l0, by omega, rfl, rfl, by omega, by rw [HL0.out]; omega, ⟨[], by simp⟩, HS.out, Kp.refl _ _⟩
          have hh := hh31
          clear HS hnn hh31
          obtain ⟨f0, hf0⟩ : ∃ f0, f0 = f := ⟨_, rfl⟩
          rw [← hf0] at HVal HRoot HGet HQ1
          clear hf0
          clear f t n
          go_wp2_with fail
          go_loopg [18] 30 (fun c vi wr => LoopSt Z2 Wg s 30 (h + 1) (fun _ l => ∃ m, l = l0 ++ m) c vi wr)
          case atStart => exact HT.out
          case round =>
            clear HT
            obtain ⟨j, t, n, f, l, hj, hk, rfl, hn, hl, hP, hS, hK⟩ := hrel
            have hK0 : Kp Z w0 wr := HKP.out.trans (hK.mono HZ2.out.1)
            have HK0 := Lib.hid hK0
            have HS := Lib.hid hS
            have HK := Lib.hid hK
            have HPc := Lib.hid hP
            have HLt := Lib.hid hl
            have HNt := Lib.hid hn
            have HKj := Lib.hid hk
            clear hS hK hP hl hn hk hK0
            by_cases hlt : j < acts2.length ∧ j < 30
            · obtain ⟨hj1, hj3⟩ := hlt
              obtain ⟨b, off, rfl, hb, k0, k1, k2, k3, k4, hok⟩ := HC2.out j hj1
              have hzb : Z b := (HZ.out b).2 (by have := HB0.out.size; omega)
              have hcw : ∀ (wx : World) (i : Nat), Kp Z w0 wx → wx.cell? ⟨b, i, none⟩ = w.cell? ⟨b, i, none⟩ := fun wx i hk => (hk.cell (a := ⟨b, i, none⟩) hzb).trans (HB0.out.cell (p := ⟨b, i, none⟩) hb)
              have d0 := (hcw wr _ HK0.out).trans k0
              have d1 := (hcw wr _ HK0.out).trans k1
              have d2 := (hcw wr _ HK0.out).trans k2
              have d3 := (hcw wr _ HK0.out).trans k3
              have d4 := (hcw wr _ HK0.out).trans k4
              clear k0 k1 k2 k3 k4 hcw hzb
              generalize acts2[j] = x at d0 d1 d2 d3 d4 hok
              have HDo := Lib.hid (does_is x hok Z2 s t n (by have := HNt.out; omega) f l (by have := HLt.out; omega) wr HS.out)
              have HPs : Hid ((fun _ l => ∃ m, l = l0 ++ m) (stepF x f l).1 (stepF x f l).2) := Lib.hid (stepF_pre x f l HPc.out)
              have HLe := Lib.hid (stepF_len x f l)
              clear hok
              generalize (stepF x f l).1 = f' at HDo HPs
              generalize (stepF x f l).2 = l' at HDo HPs HLe
              obtain ⟨what, xc, xa, xb, va⟩ := x
              simp only [SAct.cs] at HDo
              simp only at d0 d1 d2 d3 d4
              go_wp2_with fail
              refine HDo.out.mono ?_
              rintro e w4 ⟨rfl, t', hs4, hk4⟩
              have HS4 := Lib.hid hs4
              have HK4 := Lib.hid (HK.out.trans hk4)
              clear hs4 hk4 HDo HS HK HK0 d0 d1 d2 d3 d4
              go_wp2_with fail
              go_roundg (30 - (j + 1))
              case measure => rw [HKj.out]; omega
              case rel => exact ⟨j + 1, t', n + 1, f', l', by omega, rfl, by go_num, by have := HNt.out; omega, by have := HLe.out; have := HLt.out; omega, HPs.out, HS4.out, HK4.out⟩
            · have HTst : Hid (¬ (j < acts2.length ∧ j < 30)) := Lib.hid hlt
              clear hlt
              go_upto_region 17 with fail
              go_cut [98] (fun v wx => v = .bool false ∧ wr = wx)
              case first =>
                by_cases ha : j < acts2.length
                · have hc : ¬ j < 30 := fun h => HTst.out ⟨ha, h⟩
                  go_wp2_with fail
                  go_meet
                  case rel => exact ⟨by rw [decide_eq_false (by omega)], rfl⟩
                · go_wp2_with fail
                  go_meet
                  case rel => exact ⟨rfl, rfl⟩
              case rest =>
                obtain ⟨rfl, rfl⟩ := hcut
                clear HTst HKj HC2
                have hnn : n ≤ 30 + 30 := by have := HNt.out; omega
                have hll : l.length ≤ (h + 1) + 30 := by have := HLt.out; omega
                clear HNt HLt
                have hl2 : l[h]? = some f0 := by
                  obtain ⟨m, hm⟩ := HPc.out
                  rw [hm, List.getElem?_append_left (by rw [HL0.out]; omega)]
                  exact HQ1.out
                have hl3 := Lib.hid hl2
                clear hl2
                have HKf := Lib.hid HK0.out
                have HPb1 : Hid (Blk wr X 25 #[.int .i64 (qk : Int), .int .u64 (qa : Int), .int .u64 (qb : Int)]) := Lib.hid (HK.out.blk HZ2.out.2 HPb.out)
                clear HPb
                have HPb := HPb1
                clear HPb1 HK0 HPc
                clear HKP
                have HKP := HKf
                clear HKf
                have c0 := HPb.out.cell 0
                have c1 := HPb.out.cell 1
                have c2 := HPb.out.cell 2
                go_wp2_with fail
                refine (HVal.out Z2 wr t n f l HS.out (by omega) hl3.out).mono ?_
                rintro e w7 ⟨rfl, hb7⟩
                have HPb1 := Lib.hid (HPb.out.below hb7)
                have HS1 := Lib.hid (HS.out.below hb7)
                have HK1 := Lib.hid (HKP.out.trans (Kp.of_below hb7 (fun i hi => HS.out.zlt i (HZ2.out.1 i hi))))
                clear hb7 HPb HS HKP
                have HPb := HPb1
                have HS := HS1
                have HKP := HK1
                clear HPb1 HS1 HK1
                clear c0 c1 c2
                go_wp2_with fail
                refine (HRoot.out Z2 w7 t n f l (h : Int) h HS.out (by omega) (by omega) rfl hl3.out).mono ?_
                rintro e w8 ⟨rfl, hb7⟩
                have HPb1 := Lib.hid (HPb.out.below hb7)
                have HS1 := Lib.hid (HS.out.below hb7)
                have HK1 := Lib.hid (HKP.out.trans (Kp.of_below hb7 (fun i hi => HS.out.zlt i (HZ2.out.1 i hi))))
                clear hb7 HPb HS HKP
                have HPb := HPb1
                have HS := HS1
                have HKP := HK1
                clear HPb1 HS1 HK1
                go_wp2_with fail
                go_ret
                exact ⟨rfl, HB0.out.trans ((HKP.out.below (fun i hi => (HZ.out i).2 hi)).mono HB0.out.size)⟩
        · exact KStep.plain rfl fun ρ d u W he hc hdi hd hJ => swp_val (run_move (he.o h8 rfl)) (hJ.pure 0 rfl rfl)
        · exact KStep.plain rfl fun ρ d u W he hc hdi hd hJ => swp_val (run_nilCheck (he.i hz (hJ.vals 0 (hd 0 (by kernel_rfl))) (j := 0) (d := 65) rfl (by decide))) (hJ.pure 1 rfl rfl)
        · exact KStep.plain rfl fun ρ d u W he hc hdi hd hJ => swp_val (run_fieldAddr (he.i hz (hJ.vals 1 (hd 1 (by kernel_rfl))) (j := 1) (d := 66) rfl (by decide)) (by go_simp)) (hJ.pure 2 rfl rfl)
        · exact KStep.plain rfl fun ρ d u W he hc hdi hd hJ => swp_val (run_load (he.i hz (hJ.vals 2 (hd 2 (by kernel_rfl))) (j := 2) (d := 67) rfl (by decide)) ((HSt.out.below (bwS_inv hJ)).ld)) (hJ.pure 3 rfl rfl)
        · exact KStep.plain rfl fun ρ d u W he hc hdi hd hJ => swp_val (run_load (he.o h11 rfl) (ld_pa (HPb.out.below (bwS_inv hJ)))) (hJ.pure 4 rfl rfl)
        · exact KStep.plain rfl fun ρ d u W he hc hdi hd hJ => swp_call (run_call #[.agg #[ptr t], .agg #[.int .i64 ((qk : Nat) : Int), .int .u64 ((qa : Nat) : Int), .int .u64 ((qb : Nat) : Int)]] (he.func _) (by kernel_rfl) (map2 (he.i hz (hJ.vals 3 (hd 3 (by kernel_rfl))) (j := 3) (d := 68) rfl (by decide)) (he.i hz (hJ.vals 4 (hd 4 (by kernel_rfl))) (j := 4) (d := 69) rfl (by decide)))) (HOp.out W (bwS_inv hJ)) (fun e W' h => ⟨_, h.1, hJ.go 0 rfl hdi (by decide) (fun j h => by omega) rfl ⟨Nat.le_refl 1, bstep (bwS_inv hJ) h.2⟩⟩)
        · exact KStep.plain rfl fun ρ d u W he hc hdi hd hJ => swp_val (run_move (he.i hz (hJ.vals 5 (hd 5 (by kernel_rfl))) (j := 5) (d := 70) rfl (by decide))) (hJ.pure 6 rfl rfl)
        · exact KStep.plain rfl fun ρ d u W he hc hdi hd hJ => swp_val (run_extract (he.i hz (hJ.vals 6 (hd 6 (by kernel_rfl))) (j := 6) (d := 64) rfl (by decide)) (tx0 _ _ W)) (hJ.pure 7 rfl rfl)
        · exact KStep.plain rfl fun ρ d u W he hc hdi hd hJ => swp_val (run_extract (he.i hz (hJ.vals 6 (hd 6 (by kernel_rfl))) (j := 6) (d := 64) rfl (by decide)) (tx1 _ _ W)) (hJ.pure 8 rfl rfl)
        · exact KStep.plain rfl fun ρ d u W he hc hdi hd hJ => swp_val (run_assign (he.i hz (hJ.vals 7 (hd 7 (by kernel_rfl))) (j := 7) (d := 71) rfl (by decide))) (hJ.pure 9 rfl rfl)
        · exact KStep.plain rfl fun ρ d u W he hc hdi hd hJ => swp_val (run_assign (he.i hz (hJ.vals 8 (hd 8 (by kernel_rfl))) (j := 8) (d := 72) rfl (by decide))) (hJ.pure 10 rfl rfl)
end Go.Proofs.YtichklplcpkjdaaDoor
