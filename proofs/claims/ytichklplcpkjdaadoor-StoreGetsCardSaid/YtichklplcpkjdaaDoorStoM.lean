/-
  The walk of StoreGets (printed by gen_stok.py).
-/
import Derived.Test.YtichklplcpkjdaaDoorStoJ
import Derived.Test.YtichklplcpkjdaaDoorStoQ
namespace Go.Proofs.YtichklplcpkjdaaDoor
open Go.RowKit
set_option linter.unusedVariables false

theorem rpp_is (p : Pa) (h : p.ok) (w : World) :
    Calls Tryd.prog 20 #[p.v] w fun e w' => e = .returned (.tuple #[.string p.key, .int .i64 0]) ∧ Below w.heap.size w w' := by
  obtain ⟨h1, h2, h3, h4, h5⟩ := h
  refine (rpprint_good p.k p.a p.b w h1 h2 (by omega) (by omega) (by omega) (by omega)).mono ?_
  rintro e w' ⟨he, hb⟩
  refine ⟨?_, hb⟩
  rcases he with ⟨_, he⟩ | ⟨hn, _⟩
  · rw [he]; rfl
  · refine absurd ?_ hn
    cases hf : (Pth.fm p.k).2.2
    · right; rw [h5 hf]; rfl
    · left; rfl
theorem same_no {a b : ByteArray} {x y : Bool} (h : ¬ (a = b ∧ x = y)) (e : a.toList = b.toList) : (x == y) = false := by
  rw [ByteArray.toList_eq, ByteArray.toList_eq] at e
  exact beq_eq_false_iff_ne.2 fun e2 => h ⟨ByteArray.ext (Array.toList_inj.1 e), e2⟩
theorem inp_inj {k1 k2 : ByteArray} (h1 : k1.size ≤ 1000) (h2 : k2.size ≤ 1000) (h : inpL 6 [k1] = inpL 6 [k2]) : k1 = k2 := by
  have e := congrArg (List.drop 5) h
  simp [inpL, partL, w4] at e
  exact ByteArray.ext (by simpa using e)
theorem not_noclash {k1 k2 : ByteArray} (h1 : k1 ≠ k2) (h : pathP k1 = pathP k2) (z1 : k1.size ≤ 83) (z2 : k2.size ≤ 83) : ¬ NoClash [⟨(inpL 6 [k1]).toArray⟩, ⟨(inpL 6 [k2]).toArray⟩] 2 := by
  intro hn
  have := hn 1 0 (by simp) (by simp) (by decide) (by decide) (by
    simp only [List.getElem_cons_succ, List.getElem_cons_zero]
    rw [← pathP_str, ← pathP_str, h])
  simp only [List.getElem_cons_succ, List.getElem_cons_zero] at this
  exact h1 (inp_inj (by omega) (by omega) (by
    have := congrArg (fun x : ByteArray => x.data.toList) this
    simpa using this.symm))
def gtV12 (s t pb qk qa qb : Nat) (va : ByteArray) (ha : Bool) (i : Nat) (v : Value) : Prop := match i with
  | 0 => v = .pointer (some ⟨s, 0, none⟩)
  | 1 => v = .pointer (some ⟨s, 0, none⟩)
  | 2 => v = .pointer (some ⟨s, 0, none⟩)
  | 3 => v = .agg #[ptr t]
  | 4 => v = .agg #[.int .i64 (qk : Int), .int .u64 (qa : Int), .int .u64 (qb : Int)]
  | 5 => v = .tuple #[.string va, .bool ha]
  | 6 => v = .tuple #[.string va, .bool ha]
  | 7 => v = .string va
  | 8 => v = .bool ha
  | 9 => v = .string va
  | 10 => v = .bool ha
  | _ => True
def gtV16 (s t pb qk qa qb : Nat) (i : Nat) (v : Value) : Prop := match i with
  | 0 => v = .pointer (some ⟨s, 0, none⟩)
  | 1 => v = .pointer (some ⟨s, 0, none⟩)
  | 2 => v = .pointer (some ⟨s, 0, none⟩)
  | 3 => v = .agg #[ptr t]
  | 4 => v = .agg #[.int .i64 (qk : Int), .int .u64 (qa : Int), .int .u64 (qb : Int)]
  | 5 => v = .int .i64 0
  | 6 => v = .int .i64 0
  | _ => True
def gtV18T (s t pb qk qa qb : Nat) (va : ByteArray) (ha : Bool) (i : Nat) (v : Value) : Prop := match i with
  | 0 => v = .pointer (some ⟨s, 0, none⟩)
  | 1 => v = .pointer (some ⟨s, 0, none⟩)
  | 2 => v = .pointer (some ⟨s, 0, none⟩)
  | 3 => v = .agg #[ptr t]
  | 4 => v = .agg #[.int .i64 (qk : Int), .int .u64 (qa : Int), .int .u64 (qb : Int)]
  | 5 => v = .tuple #[.string va, .bool ha]
  | 6 => v = .tuple #[.string va, .bool ha]
  | 7 => v = .string va
  | 8 => v = .bool ha
  | 9 => v = .string va
  | 10 => v = .bool ha
  | _ => True
def gtV22T (s t pb qk qa qb : Nat) (va : ByteArray) (ha : Bool) (i : Nat) (v : Value) : Prop := match i with
  | 0 => v = .pointer (some ⟨s, 0, none⟩)
  | 1 => v = .pointer (some ⟨s, 0, none⟩)
  | 2 => v = .pointer (some ⟨s, 0, none⟩)
  | 3 => v = .agg #[ptr t]
  | 4 => v = .agg #[.int .i64 (qk : Int), .int .u64 (qa : Int), .int .u64 (qb : Int)]
  | 5 => v = .tuple #[.string va, .bool ha]
  | 6 => v = .tuple #[.string va, .bool ha]
  | 7 => v = .string va
  | 8 => v = .bool ha
  | 9 => v = .string va
  | 10 => v = .bool ha
  | _ => True
def gtV17 (s t pb qk qa qb : Nat) (value : ByteArray) (i : Nat) (v : Value) : Prop := match i with
  | 0 => v = .pointer (some ⟨s, 0, none⟩)
  | 1 => v = .pointer (some ⟨s, 0, none⟩)
  | 2 => v = .pointer (some ⟨s, 0, none⟩)
  | 3 => v = .agg #[ptr t]
  | 4 => v = .agg #[.int .i64 (qk : Int), .int .u64 (qa : Int), .int .u64 (qb : Int)]
  | 5 => v = .string value
  | 6 => v = .int .i64 0
  | 7 => v = .int .i64 0
  | _ => True
def gtV18F (s t pb qk qa qb : Nat) (va : ByteArray) (ha : Bool) (i : Nat) (v : Value) : Prop := match i with
  | 0 => v = .pointer (some ⟨s, 0, none⟩)
  | 1 => v = .pointer (some ⟨s, 0, none⟩)
  | 2 => v = .pointer (some ⟨s, 0, none⟩)
  | 3 => v = .agg #[ptr t]
  | 4 => v = .agg #[.int .i64 (qk : Int), .int .u64 (qa : Int), .int .u64 (qb : Int)]
  | 5 => v = .tuple #[.string va, .bool ha]
  | 6 => v = .tuple #[.string va, .bool ha]
  | 7 => v = .string va
  | 8 => v = .bool ha
  | 9 => v = .string va
  | 10 => v = .bool ha
  | _ => True
def gtV22F (s t pb qk qa qb : Nat) (va : ByteArray) (ha : Bool) (i : Nat) (v : Value) : Prop := match i with
  | 0 => v = .pointer (some ⟨s, 0, none⟩)
  | 1 => v = .pointer (some ⟨s, 0, none⟩)
  | 2 => v = .pointer (some ⟨s, 0, none⟩)
  | 3 => v = .agg #[ptr t]
  | 4 => v = .agg #[.int .i64 (qk : Int), .int .u64 (qa : Int), .int .u64 (qb : Int)]
  | 5 => v = .tuple #[.string va, .bool ha]
  | 6 => v = .tuple #[.string va, .bool ha]
  | 7 => v = .string va
  | 8 => v = .bool ha
  | 9 => v = .string va
  | 10 => v = .bool ha
  | _ => True
set_option maxRecDepth 100000 in
set_option maxHeartbeats 8000000 in
theorem gets_walk (w : World) (G : GlobS w) (V1 : Value) (acts1 : List SAct) (one two : RPa) (value : ByteArray) (gone : Bool) (A1 : SActsAt w V1 acts1) (hone : one.ok) (htwo : two.ok) (hvalue : value.size ≤ 140737488351232) :
    Calls Tryd.prog 6 #[V1, one.v, two.v, .string value, .bool gone] w fun e w' => e = .returned (.bool true) ∧ Below w.heap.size w w' := by
  obtain ⟨v1, c1, rfl, m1, hc1⟩ := A1
  have HC1 := Lib.hid hc1
  obtain ⟨w0, hw0⟩ : ∃ w0, w0 = ((w.alloc (.cells #[.int .i64 one.c, .int .u64 one.a, .int .u64 one.b] 25)).alloc (.cells #[.int .i64 two.c, .int .u64 two.a, .int .u64 two.b] 25)) := ⟨_, rfl⟩
  have hb0 : Below w.heap.size w w0 := hw0 ▸ balloc (balloc (Below.refl _ w) _) _
  have HP0 : Hid (Blk w0 (w.heap.size) 25 #[.int .i64 one.c, .int .u64 one.a, .int .u64 one.b]) := Lib.hid (hw0 ▸ (Blk.new w _ _).alloc _)
  have HP1 : Hid (Blk w0 (w.heap.size + 1) 25 #[.int .i64 two.c, .int .u64 two.a, .int .u64 two.b]) := Lib.hid (by rw [hw0]; have := Blk.new (w.alloc (.cells #[.int .i64 one.c, .int .u64 one.a, .int .u64 one.b] 25)) 25 #[.int .i64 two.c, .int .u64 two.a, .int .u64 two.b]; simpa using this)
  have hG0 := G.below hb0
  obtain ⟨Z, hZ⟩ : ∃ Z : Nat → Prop, Z = fun i => i < w0.heap.size := ⟨_, rfl⟩
  have HZ : Hid (∀ i, Z i ↔ i < w0.heap.size) := Lib.hid (fun i => by rw [hZ])
  have HN : Hid (∀ w1, Below w0.heap.size w0 w1 → Calls Tryd.prog 8 #[] w1 fun e w' => ∃ s t, e = .returned (.pointer (some ⟨s, 0, none⟩)) ∧ StAt w' Z s t 0 (fun _ => none) [fun _ => none] ∧ Below w1.heap.size w1 w') := Lib.hid (fun w1 hb => new_is w1 (hG0.below hb).glob (hG0.below hb).forms Z (fun i hi => by rw [hZ] at hi; exact Nat.lt_of_lt_of_le hi hb.size) (fun i hi => by rw [hZ]; exact Nat.lt_of_lt_of_le hi hG0.glob.two))
  have HAw := Lib.hid (awake_is w0 hG0.glob hG0.forms)
  have HB0 := Lib.hid hb0
  have HW0 : Hid (w0.heap.size = w.heap.size + 2) := Lib.hid (by rw [hw0]; simp)
  have HPath0 := Lib.hid (fun W => RPa.path hone W)
  have HOk0 : Hid ((fitP one.c one.a one.b).ok) := Lib.hid (fitP_ok _ _ _ hone.a0 hone.b0)
  have HPath1 := Lib.hid (fun W => RPa.path htwo W)
  have HOk1 : Hid ((fitP two.c two.a two.b).ok) := Lib.hid (fitP_ok _ _ _ htwo.a0 htwo.b0)
  obtain ⟨rc, ra, rb⟩ := one
  simp only at HP0 HPath0 HOk0 hw0
  generalize fitP rc ra rb = q at HPath0 HOk0
  obtain ⟨qk, qa, qb⟩ := q
  simp only [Pa.v] at HPath0
  obtain ⟨sc, sa, sb⟩ := two
  simp only at HP1 HPath1 HOk1 hw0
  generalize fitP sc sa sb = q at HPath1 HOk1
  obtain ⟨ek, ea, eb⟩ := q
  simp only [Pa.v] at HPath1
  simp only [RPa.v]
  have HW := Lib.hid hw0
  clear hc1 G hb0 hG0 hZ hw0 hone htwo
  go_enter Tryd.func6, Tryd.ntmps6
  go_upto_region 1 with fail
  change Code.wp _ _ _ _ ((w.alloc (.cells #[.int .i64 rc, .int .u64 ra, .int .u64 rb] 25)).alloc (.cells #[.int .i64 sc, .int .u64 sa, .int .u64 sb] 25))
  rw [← HW.out]
  clear HW
  go_wp2_with fail
  refine HAw.out.mono ?_
  rintro e w1 ⟨rfl, hb1⟩
  have HN1 := Lib.hid (HN.out w1 hb1)
  have HB1 := Lib.hid hb1
  clear hb1 HN HAw
  go_wp2_with fail
  refine HN1.out.mono ?_
  rintro e w2 ⟨s, t, rfl, hs2, hb2⟩
  have HT : Hid (LoopSt Z w0 s 0 1 (fun _ _ => True) 30 (.int .i64 0) w2) := Lib.hid ⟨0, t, 0, _, _, by omega, rfl, rfl, by omega, by simp, trivial, hs2, (Kp.of_below (bstep HB1.out hb2) (fun i hi => (HZ.out i).1 hi))⟩
  clear hs2 hb2 HN1 HB1
  clear t
  go_wp2_with fail
  go_loopg [13] 30 (fun c vi wr => LoopSt Z w0 s 0 1 (fun _ _ => True) c vi wr)
  case atStart => exact HT.out
  case round =>
    clear HT
    obtain ⟨j, t, n, f, l, hj, hk, rfl, hn, hl, hP, hS, hK⟩ := hrel
    have hK0 : Kp Z w0 wr := hK
    have HK0 := Lib.hid hK0
    have HS := Lib.hid hS
    have HK := Lib.hid hK
    have HPc := Lib.hid hP
    have HLt := Lib.hid hl
    have HNt := Lib.hid hn
    have HKj := Lib.hid hk
    clear hS hK hP hl hn hk hK0
    by_cases hlt : j < acts1.length ∧ j < 30
    · obtain ⟨hj1, hj3⟩ := hlt
      obtain ⟨b, off, rfl, hb, k0, k1, k2, k3, k4, hok⟩ := HC1.out j hj1
      have hzb : Z b := (HZ.out b).2 (by have := HB0.out.size; omega)
      have hcw : ∀ (wx : World) (i : Nat), Kp Z w0 wx → wx.cell? ⟨b, i, none⟩ = w.cell? ⟨b, i, none⟩ := fun wx i hk => (hk.cell (a := ⟨b, i, none⟩) hzb).trans (HB0.out.cell (p := ⟨b, i, none⟩) hb)
      have d0 := (hcw wr _ HK0.out).trans k0
      have d1 := (hcw wr _ HK0.out).trans k1
      have d2 := (hcw wr _ HK0.out).trans k2
      have d3 := (hcw wr _ HK0.out).trans k3
      have d4 := (hcw wr _ HK0.out).trans k4
      clear k0 k1 k2 k3 k4 hcw hzb
      generalize acts1[j] = x at d0 d1 d2 d3 d4 hok
      have HDo := Lib.hid (does_is x hok Z s t n (by have := HNt.out; omega) f l (by have := HLt.out; omega) wr HS.out)
      have HPs : Hid ((fun _ _ => True) (stepF x f l).1 (stepF x f l).2) := Lib.hid (trivial)
      have HLe := Lib.hid (stepF_len x f l)
      clear hok
      generalize (stepF x f l).1 = f' at HDo HPs
      generalize (stepF x f l).2 = l' at HDo HPs HLe
      obtain ⟨what, xc, xa, xb, va⟩ := x
      simp only [SAct.cs] at HDo
      simp only at d0 d1 d2 d3 d4
      go_wp2_with fail
      refine HDo.out.mono ?_
      rintro e w4 ⟨rfl, t', hs4, hk4⟩
      have HS4 := Lib.hid hs4
      have HK4 := Lib.hid (HK.out.trans hk4)
      clear hs4 hk4 HDo HS HK HK0 d0 d1 d2 d3 d4
      go_wp2_with fail
      go_roundg (30 - (j + 1))
      case measure => rw [HKj.out]; omega
      case rel => exact ⟨j + 1, t', n + 1, f', l', by omega, rfl, by go_num, by have := HNt.out; omega, by have := HLe.out; have := HLt.out; omega, HPs.out, HS4.out, HK4.out⟩
    · have HTst : Hid (¬ (j < acts1.length ∧ j < 30)) := Lib.hid hlt
      clear hlt
      go_upto_region 6 with fail
      go_cut [47] (fun v wx => v = .bool false ∧ wr = wx)
      case first =>
        by_cases ha : j < acts1.length
        · have hc : ¬ j < 30 := fun h => HTst.out ⟨ha, h⟩
          go_wp2_with fail
          go_meet
          case rel => exact ⟨by rw [decide_eq_false (by omega)], rfl⟩
        · go_wp2_with fail
          go_meet
          case rel => exact ⟨rfl, rfl⟩
      case rest =>
        obtain ⟨rfl, rfl⟩ := hcut
        clear HTst HKj HC1
        have hnn : n ≤ 0 + 30 := by have := HNt.out; omega
        have hll : l.length ≤ 1 + 30 := by have := HLt.out; omega
        clear HNt HLt
        obtain ⟨h, hh⟩ : ∃ h, l.length = h + 1 := ⟨l.length - 1, by have := HS.out.pos; omega⟩
        obtain ⟨g, hg⟩ : ∃ g, l[h]? = some g := ⟨_, List.getElem?_eq_getElem (by omega)⟩
        have HQ1 := Lib.hid hg
        obtain ⟨va, hva⟩ : ∃ va, valF g ⟨qk, qa, qb⟩ = va := ⟨_, rfl⟩
        obtain ⟨ha, hha⟩ : ∃ ha, hasF g ⟨qk, qa, qb⟩ = ha := ⟨_, rfl⟩
        obtain ⟨vq, hvq⟩ : ∃ vq, valF f ⟨ek, ea, eb⟩ = vq := ⟨_, rfl⟩
        obtain ⟨iq, hiq⟩ : ∃ iq, hasF f ⟨ek, ea, eb⟩ = iq := ⟨_, rfl⟩
        have HVq := Lib.hid (And.intro hvq hiq)
        have HVal : Hid (∀ (Zc : Nat → Prop) (W : World) (t n : Nat) (g' : PM) (l : List PM), StAt W Zc s t n g' l → l.length ≤ 1000 → l[h]? = some g → Calls Tryd.prog 12 #[.pointer (some ⟨s, 0, none⟩), .int .i64 (h : Int), .agg #[.int .i64 (qk : Int), .int .u64 (qa : Int), .int .u64 (qb : Int)]] W fun e w' => e = .returned (.tuple #[.string va, .bool ha]) ∧ Below W.heap.size W w') := Lib.hid (fun Zc W t n g' l hS h1 h2 => by
          have := value_at h (h : Int) rfl g ⟨qk, qa, qb⟩ HOk0.out Zc s t n g' l W hS h1 h2
          rw [hva, hha] at this
          exact this)
        have HGq : Hid (∀ (Zc : Nat → Prop) (W : World) (t n : Nat) (l : List PM), StAt W Zc s t n f l → Calls Tryd.prog 14 #[.agg #[ptr t], .agg #[.int .i64 (ek : Int), .int .u64 (ea : Int), .int .u64 (eb : Int)]] W fun e w' => e = .returned (.tuple #[.string (vq), .bool (iq)]) ∧ Below W.heap.size W w') := Lib.hid (fun Zc W t n l hS => by
          have := get_st hS HOk1.out
          rw [hvq, hiq] at this
          exact this)
        clear hva hha hvq hiq hg HPc HK0
        have HPr := Lib.hid (HK.out.blk ((HZ.out _).2 (by have := HW0.out; omega)) HP0.out)
        have c0 := HPr.out.cell 0
        have c1 := HPr.out.cell 1
        have c2 := HPr.out.cell 2
        go_wp2_with fail
        refine (HPath0.out _).mono ?_
        rintro e w4 ⟨rfl, hb4⟩
        clear HPr c0 c1 c2
        go_upto_region 10 with fail
        obtain ⟨X, hX⟩ : ∃ X, w4.heap.size = X := ⟨_, rfl⟩
        have hl4 := balloc (Below.refl _ w4) (.cells #[.int .i64 (qk : Int), .int .u64 (qa : Int), .int .u64 (qb : Int)] 25)
        have hP4 := Blk.new w4 25 #[.int .i64 (qk : Int), .int .u64 (qa : Int), .int .u64 (qb : Int)]
        obtain ⟨Z2, hZ2⟩ : ∃ Zx : Nat → Prop, Zx = fun i => Z i ∨ i = X := ⟨_, rfl⟩
        have HZ2 : Hid ((∀ i, Z i → Z2 i) ∧ Z2 X) := Lib.hid (by rw [hZ2]; exact ⟨fun i hi => .inl hi, .inr rfl⟩)
        have hS5 : StAt (w4.alloc (.cells #[.int .i64 (qk : Int), .int .u64 (qa : Int), .int .u64 (qb : Int)] 25)) Z2 s t n f l := (HS.out.below hb4).pin hl4 (fun i hi => by
          rw [hZ2] at hi
          rcases hi with hi | hi
          · exact ⟨Nat.lt_of_lt_of_le (HS.out.zlt i hi) (Nat.le_trans hb4.size hl4.size), .inl hi⟩
          · simp only [World.size_alloc]
            omega) (fun i hi => (HZ2.out.1 i (HS.out.zg i hi)))
        have hk5 : Kp Z w0 (w4.alloc (.cells #[.int .i64 (qk : Int), .int .u64 (qa : Int), .int .u64 (qb : Int)] 25)) := HK.out.trans ((Kp.of_below hb4 HS.out.zlt).trans (Kp.of_below hl4 (HS.out.below hb4).zlt) |>.mono (fun i hi => hi))
        change Code.wp _ _ _ _ (w4.alloc (.cells #[.int .i64 (qk : Int), .int .u64 (qa : Int), .int .u64 (qb : Int)] 25))
        rw [hX] at hP4 ⊢
        clear hZ2 hX hl4 hb4 HS
        generalize w4.alloc (.cells #[.int .i64 (qk : Int), .int .u64 (qa : Int), .int .u64 (qb : Int)] 25) = w5 at hP4 hS5 hk5 ⊢
        clear w4
        have HS := Lib.hid hS5
        have HKP := Lib.hid hk5
        have HPb := Lib.hid hP4
        clear hS5 hk5 hP4
        have HPr := Lib.hid (HKP.out.blk ((HZ.out _).2 (by have := HW0.out; omega)) HP1.out)
        have c0 := HPr.out.cell 0
        have c1 := HPr.out.cell 1
        have c2 := HPr.out.cell 2
        go_wp2_with fail
        refine (HPath1.out _).mono ?_
        rintro e w4 ⟨rfl, hb4⟩
        clear HPr c0 c1 c2
        go_upto_region 11 with fail
        obtain ⟨Y, hX⟩ : ∃ X, w4.heap.size = X := ⟨_, rfl⟩
        have hl4 := balloc (Below.refl _ w4) (.cells #[.int .i64 (ek : Int), .int .u64 (ea : Int), .int .u64 (eb : Int)] 25)
        have hP4 := Blk.new w4 25 #[.int .i64 (ek : Int), .int .u64 (ea : Int), .int .u64 (eb : Int)]
        obtain ⟨Z3, hZ2⟩ : ∃ Zx : Nat → Prop, Zx = fun i => Z2 i ∨ i = Y := ⟨_, rfl⟩
        have HZ3 : Hid ((∀ i, Z2 i → Z3 i) ∧ Z3 Y) := Lib.hid (by rw [hZ2]; exact ⟨fun i hi => .inl hi, .inr rfl⟩)
        have hS5 : StAt (w4.alloc (.cells #[.int .i64 (ek : Int), .int .u64 (ea : Int), .int .u64 (eb : Int)] 25)) Z3 s t n f l := (HS.out.below hb4).pin hl4 (fun i hi => by
          rw [hZ2] at hi
          rcases hi with hi | hi
          · exact ⟨Nat.lt_of_lt_of_le (HS.out.zlt i hi) (Nat.le_trans hb4.size hl4.size), .inl hi⟩
          · simp only [World.size_alloc]
            omega) (fun i hi => (HZ3.out.1 i (HS.out.zg i hi)))
        have hk5 : Kp Z w0 (w4.alloc (.cells #[.int .i64 (ek : Int), .int .u64 (ea : Int), .int .u64 (eb : Int)] 25)) := HKP.out.trans ((Kp.of_below hb4 HS.out.zlt).trans (Kp.of_below hl4 (HS.out.below hb4).zlt) |>.mono (fun i hi => HZ2.out.1 i hi))
        change Code.wp _ _ _ _ (w4.alloc (.cells #[.int .i64 (ek : Int), .int .u64 (ea : Int), .int .u64 (eb : Int)] 25))
        rw [hX] at hP4 ⊢
        have hkp := (HPb.out.below hb4).alloc (.cells #[.int .i64 (ek : Int), .int .u64 (ea : Int), .int .u64 (eb : Int)] 25)
        clear hZ2 hX hl4 hb4 HS
        generalize w4.alloc (.cells #[.int .i64 (ek : Int), .int .u64 (ea : Int), .int .u64 (eb : Int)] 25) = w10 at hP4 hS5 hk5 hkp ⊢
        clear w4
        have HS := Lib.hid hS5
        have HKP := Lib.hid hk5
        have HPq := Lib.hid hP4
        clear HPb
        have HPb := Lib.hid hkp
        clear hS5 hk5 hP4 hkp
        have HH := Lib.hid (height_at (h : Int) Z3 s t n f l _ HS.out (by omega) (by omega))
        go_wp2_with fail
        refine HH.out.mono ?_
        rintro e _ ⟨rfl, rfl⟩
        clear HH
        go_upto_region 12 with fail
        have HSt := Lib.hid (HS.out.below (Below.refl _ w10).drew)
        have HPb0 := Lib.hid HPb.out
        have HPb : Hid (Blk w10.drew Y 25 #[.int .i64 (ek : Int), .int .u64 (ea : Int), .int .u64 (eb : Int)]) := Lib.hid HPq.out
        have HOp : Hid (∀ W, Below w10.drew.heap.size w10.drew W → Calls Tryd.prog 14 #[.agg #[ptr t], .agg #[.int .i64 (ek : Int), .int .u64 (ea : Int), .int .u64 (eb : Int)]] W fun e w' => e = .returned (.tuple #[.string (vq), .bool (iq)]) ∧ Below W.heap.size W w') := Lib.hid (fun W hb => HGq.out _ W _ _ _ (HSt.out.below hb))
        refine wp_abs fun a0 hA => ?_
        have h12 : a0.eval (.tmp 12) = .pointer (some ⟨s, 0, none⟩) := by rw [hA]; rfl
        have h15 : a0.eval (.tmp 15) = .pointer (some ⟨Y, 0, none⟩) := by rw [hA]; rfl
        have hz : a0.tmps.size = 174 := by rw [hA]; rfl
        refine wp_region_K [some 63, some 64, some 65, some 66, some 67, some 68, some 62, some 69, some 70, some 17, some 18] 174 (CJ (gtV12 s t Y ek ea eb vq  iq) (fun _ _ => True) [5] (bwS w10.drew)) (by kernel_rfl) (by kernel_rfl) (by kernel_rfl) rfl (by kernel_rfl) hz (CJ.start (fun i => trivial) ⟨Nat.zero_le 1, Below.refl _ _⟩) ?_ ⟨?_, ?_, ?_, ?_, ?_, ?_, ?_, ?_, ?_, ?_, ?_, trivial⟩
        · intro d ub Wb hd hJ
          have HW : Hid (Below w10.heap.size w10 Wb) := Lib.hid (bstep (Below.refl _ w10).drew (bwS_inv hJ))
          have e9 : ub 9 = .string (vq) := hJ.vals 9 (hd 9 (by decide))
          have e10 : ub 10 = .bool (iq) := hJ.vals 10 (hd 10 (by decide))
          rw [hA]
          simp only [putAll, Act.put, List.setIfInBounds_toArray, List.set_cons_zero, List.set_cons_succ]
          clear hJ hd h12 h15 hz hA
          clear a0
          rw [e9, e10]
          clear e9 e10
          clear HOp HSt HPb
          have HPb := Lib.hid HPb0.out
          clear HPb0
          have HPb1 := Lib.hid (HPb.out.below HW.out)
          have HPq1 := Lib.hid (HPq.out.below HW.out)
          have HS1 := Lib.hid (HS.out.below HW.out)
          have HK1 := Lib.hid (HKP.out.trans (Kp.of_below HW.out (fun i hi => HS.out.zlt i (HZ3.out.1 i (HZ2.out.1 i hi)))))
          clear HPb HPq HS HKP
          have HPb := HPb1
          have HPq := HPq1
          have HS := HS1
          have HKP := HK1
          clear HPb1 HPq1 HS1 HK1
          clear HW
          have c0 := HPb.out.cell 0
          have c1 := HPb.out.cell 1
          have c2 := HPb.out.cell 2
          go_wp2_with fail
          refine (HVal.out Z3 Wb t n f l HS.out (by omega) HQ1.out).mono ?_
          rintro e w11 ⟨rfl, hb7⟩
          have HPb1 := Lib.hid (HPb.out.below hb7)
          have HPq1 := Lib.hid (HPq.out.below hb7)
          have HS1 := Lib.hid (HS.out.below hb7)
          have HK1 := Lib.hid (HKP.out.trans (Kp.of_below hb7 (fun i hi => HS.out.zlt i (HZ3.out.1 i (HZ2.out.1 i hi)))))
          clear HPb HPq HS HKP
          have HPb := HPb1
          have HPq := HPq1
          have HS := HS1
          have HKP := HK1
          clear HPb1 HPq1 HS1 HK1
          clear hb7
          clear c0 c1 c2
          cases gone with
          | true =>
            obtain ⟨f1, hf1⟩ : ∃ f1, f1 = (updP f (pathP (Pa.key ⟨qk, qa, qb⟩)) none) := ⟨_, rfl⟩
            have hvp : valF f1 ⟨qk, qa, qb⟩ = ByteArray.empty ∧ hasF f1 ⟨qk, qa, qb⟩ = false := by unfold valF hasF; rw [hf1, updP_at]; exact ⟨rfl, rfl⟩
            obtain ⟨zq, hzq⟩ : ∃ zq, valF f1 ⟨ek, ea, eb⟩ = zq := ⟨_, rfl⟩
            obtain ⟨sq, hsq⟩ : ∃ sq, hasF f1 ⟨ek, ea, eb⟩ = sq := ⟨_, rfl⟩
            have HNe : Hid (¬ (qk = ek ∧ qa = ea ∧ qb = eb) → ¬ (vq = zq ∧ iq = sq) → Pa.key ⟨qk, qa, qb⟩ ≠ Pa.key ⟨ek, ea, eb⟩ ∧ pathP (Pa.key ⟨qk, qa, qb⟩) = pathP (Pa.key ⟨ek, ea, eb⟩)) := Lib.hid (fun h1 h2 => by
              refine ⟨fun e => h1 (by have := Pa.key_inj HOk0.out HOk1.out e; cases this; exact ⟨rfl, rfl, rfl⟩), ?_⟩
              refine Classical.byContradiction fun hP => h2 ?_
              rw [← HVq.out.1, ← HVq.out.2, ← hzq, ← hsq]
              unfold valF hasF
              rw [hf1, updP_ne _ _ (Ne.symm hP)]
              exact ⟨rfl, rfl⟩)
            have HGp1 : Hid (∀ (Zc : Nat → Prop) (W : World) (t n : Nat) (l : List PM), StAt W Zc s t n f1 l → Calls Tryd.prog 14 #[.agg #[ptr t], .agg #[.int .i64 (qk : Int), .int .u64 (qa : Int), .int .u64 (qb : Int)]] W fun e w' => e = .returned (.tuple #[.string (ByteArray.empty), .bool (false)]) ∧ Below W.heap.size W w') := Lib.hid (fun Zc W t n l hS => by
              have := get_st hS HOk0.out
              rw [hvp.1, hvp.2] at this
              exact this)
            have HGq1 : Hid (∀ (Zc : Nat → Prop) (W : World) (t n : Nat) (l : List PM), StAt W Zc s t n f1 l → Calls Tryd.prog 14 #[.agg #[ptr t], .agg #[.int .i64 (ek : Int), .int .u64 (ea : Int), .int .u64 (eb : Int)]] W fun e w' => e = .returned (.tuple #[.string (zq), .bool (sq)]) ∧ Below W.heap.size W w') := Lib.hid (fun Zc W t n l hS => by
              have := get_st hS HOk1.out
              rw [hzq, hsq] at this
              exact this)
            go_upto_region 16 with fail
            have HSt := Lib.hid (HS.out.below (Below.refl _ w11).drew)
            have HPb0 := Lib.hid HPb.out
            have HPb : Hid (Blk w11.drew X 25 #[.int .i64 (qk : Int), .int .u64 (qa : Int), .int .u64 (qb : Int)]) := Lib.hid HPb.out
            have HOp : Hid (∀ W, Below w11.drew.heap.size w11.drew W → Calls Tryd.prog 18 #[.agg #[ptr t], .agg #[.int .i64 (qk : Int), .int .u64 (qa : Int), .int .u64 (qb : Int)]] W fun e w' => e = .returned (.int .i64 0) ∧ (fun W => StAt W Z3 s t (n + 1) f1 l ∧ Kp Z3 w11 W) w') := Lib.hid (fun W hb => by
              have := sdel_is ⟨qk, qa, qb⟩ HOk0.out Z3 s t n f l W (HSt.out.below hb)
              rw [← hf1] at this
              exact this.mono fun e w' h => ⟨h.1, h.2.1.mono (by omega), (Kp.of_below (bstep (Below.refl _ w11).drew hb) HS.out.zlt).trans h.2.2⟩)
            clear hf1 hvp hzq hsq
            refine wp_abs fun a0 hA => ?_
            have h12 : a0.eval (.tmp 12) = .pointer (some ⟨s, 0, none⟩) := by rw [hA]; rfl
            have h14 : a0.eval (.tmp 14) = .pointer (some ⟨X, 0, none⟩) := by rw [hA]; rfl
            have hz : a0.tmps.size = 174 := by rw [hA]; rfl
            refine wp_region_K [some 79, some 80, some 81, some 82, some 83, some 84, some 21] 174 (CJ (gtV16 s t X qk qa qb) (fun _ _ => True) [5] (sgS w11.drew (fun W => StAt W Z3 s t (n + 1) f1 l ∧ Kp Z3 w11 W))) (by kernel_rfl) (by kernel_rfl) (by kernel_rfl) rfl (by kernel_rfl) hz (CJ.start (fun i => trivial) (Below.refl _ _)) ?_ ⟨?_, ?_, ?_, ?_, ?_, ?_, ?_, trivial⟩
            · intro d uc Wc hd hJ
              have HB : Hid ((fun W => StAt W Z3 s t (n + 1) f1 l ∧ Kp Z3 w11 W) Wc) := Lib.hid (show sgS w11.drew (fun W => StAt W Z3 s t (n + 1) f1 l ∧ Kp Z3 w11 W) 1 _ Wc from hJ.fin 1 rfl (fun k hk => by simp at hk; subst hk; exact hd _ (by decide)) sgS_le)
              have e6 : uc 6 = .int .i64 0 := hJ.vals 6 (hd 6 (by decide))
              rw [hA]
              simp only [putAll, Act.put, List.setIfInBounds_toArray, List.set_cons_zero, List.set_cons_succ]
              clear hJ hd h12 h14 hz hA
              clear a0
              rw [e6]
              clear e6
              clear HOp HSt HPb
              have HPb := Lib.hid (HB.out.2.blk (HZ3.out.1 _ HZ2.out.2) HPb0.out)
              have HPq1 := Lib.hid (HB.out.2.blk HZ3.out.2 HPq.out)
              have HS1 := Lib.hid HB.out.1
              have HK1 := Lib.hid (HKP.out.trans (HB.out.2.mono (fun i hi => HZ3.out.1 i (HZ2.out.1 i hi))))
              clear HPb0 HPq HS HKP HB
              have HPq := HPq1
              have HS := HS1
              have HKP := HK1
              clear HPq1 HS1 HK1
              go_upto_region 18 with fail
              have HSt := Lib.hid (HS.out.below (Below.refl _ Wc).drew)
              have HPb0 := Lib.hid HPb.out
              have HPb : Hid (Blk Wc.drew X 25 #[.int .i64 (qk : Int), .int .u64 (qa : Int), .int .u64 (qb : Int)]) := Lib.hid HPb.out
              have HOp : Hid (∀ W, Below Wc.drew.heap.size Wc.drew W → Calls Tryd.prog 14 #[.agg #[ptr t], .agg #[.int .i64 (qk : Int), .int .u64 (qa : Int), .int .u64 (qb : Int)]] W fun e w' => e = .returned (.tuple #[.string (ByteArray.empty), .bool (false)]) ∧ Below W.heap.size W w') := Lib.hid (fun W hb => HGp1.out _ W _ _ _ (HSt.out.below hb))
              refine wp_abs fun a0 hA => ?_
              have h12 : a0.eval (.tmp 12) = .pointer (some ⟨s, 0, none⟩) := by rw [hA]; rfl
              have h14 : a0.eval (.tmp 14) = .pointer (some ⟨X, 0, none⟩) := by rw [hA]; rfl
              have hz : a0.tmps.size = 174 := by rw [hA]; rfl
              refine wp_region_K [some 93, some 94, some 95, some 96, some 97, some 98, some 92, some 99, some 100, some 22, some 23] 174 (CJ (gtV18T s t X qk qa qb ByteArray.empty  false) (fun _ _ => True) [5] (bwS Wc.drew)) (by kernel_rfl) (by kernel_rfl) (by kernel_rfl) rfl (by kernel_rfl) hz (CJ.start (fun i => trivial) ⟨Nat.zero_le 1, Below.refl _ _⟩) ?_ ⟨?_, ?_, ?_, ?_, ?_, ?_, ?_, ?_, ?_, ?_, ?_, trivial⟩
              · intro d ud Wd hd hJ
                have HW : Hid (Below Wc.heap.size Wc Wd) := Lib.hid (bstep (Below.refl _ Wc).drew (bwS_inv hJ))
                have e9 : ud 9 = .string (ByteArray.empty) := hJ.vals 9 (hd 9 (by decide))
                have e10 : ud 10 = .bool (false) := hJ.vals 10 (hd 10 (by decide))
                rw [hA]
                simp only [putAll, Act.put, List.setIfInBounds_toArray, List.set_cons_zero, List.set_cons_succ]
                clear hJ hd h12 h14 hz hA
                clear a0
                rw [e9, e10]
                clear e9 e10
                clear HOp HSt HPb
                have HPb := Lib.hid HPb0.out
                clear HPb0
                have HPb1 := Lib.hid (HPb.out.below HW.out)
                have HPq1 := Lib.hid (HPq.out.below HW.out)
                have HS1 := Lib.hid (HS.out.below HW.out)
                have HK1 := Lib.hid (HKP.out.trans (Kp.of_below HW.out (fun i hi => HS.out.zlt i (HZ3.out.1 i (HZ2.out.1 i hi)))))
                clear HPb HPq HS HKP
                have HPb := HPb1
                have HPq := HPq1
                have HS := HS1
                have HKP := HK1
                clear HPb1 HPq1 HS1 HK1
                clear HW
                have c0 := HPb.out.cell 0
                have c1 := HPb.out.cell 1
                have c2 := HPb.out.cell 2
                go_wp2_with fail
                refine (HVal.out Z3 Wd t (n + 1) f1 l HS.out (by omega) HQ1.out).mono ?_
                rintro e we ⟨rfl, hb7⟩
                have HPb1 := Lib.hid (HPb.out.below hb7)
                have HPq1 := Lib.hid (HPq.out.below hb7)
                have HS1 := Lib.hid (HS.out.below hb7)
                have HK1 := Lib.hid (HKP.out.trans (Kp.of_below hb7 (fun i hi => HS.out.zlt i (HZ3.out.1 i (HZ2.out.1 i hi)))))
                clear HPb HPq HS HKP
                have HPb := HPb1
                have HPq := HPq1
                have HS := HS1
                have HKP := HK1
                clear HPb1 HPq1 HS1 HK1
                clear hb7
                clear c0 c1 c2
                go_upto_region 22 with fail
                have HSt := Lib.hid (HS.out.below (Below.refl _ we).drew)
                have HPb0 := Lib.hid HPb.out
                have HPb : Hid (Blk we.drew Y 25 #[.int .i64 (ek : Int), .int .u64 (ea : Int), .int .u64 (eb : Int)]) := Lib.hid HPq.out
                have HOp : Hid (∀ W, Below we.drew.heap.size we.drew W → Calls Tryd.prog 14 #[.agg #[ptr t], .agg #[.int .i64 (ek : Int), .int .u64 (ea : Int), .int .u64 (eb : Int)]] W fun e w' => e = .returned (.tuple #[.string (zq), .bool (sq)]) ∧ Below W.heap.size W w') := Lib.hid (fun W hb => HGq1.out _ W _ _ _ (HSt.out.below hb))
                refine wp_abs fun a0 hA => ?_
                have h12 : a0.eval (.tmp 12) = .pointer (some ⟨s, 0, none⟩) := by rw [hA]; rfl
                have h15 : a0.eval (.tmp 15) = .pointer (some ⟨Y, 0, none⟩) := by rw [hA]; rfl
                have hz : a0.tmps.size = 174 := by rw [hA]; rfl
                refine wp_region_K [some 135, some 136, some 137, some 138, some 139, some 140, some 134, some 141, some 142, some 26, some 27] 174 (CJ (gtV22T s t Y ek ea eb zq  sq) (fun _ _ => True) [5] (bwS we.drew)) (by kernel_rfl) (by kernel_rfl) (by kernel_rfl) rfl (by kernel_rfl) hz (CJ.start (fun i => trivial) ⟨Nat.zero_le 1, Below.refl _ _⟩) ?_ ⟨?_, ?_, ?_, ?_, ?_, ?_, ?_, ?_, ?_, ?_, ?_, trivial⟩
                · intro d uf Wf hd hJ
                  have HW : Hid (Below we.heap.size we Wf) := Lib.hid (bstep (Below.refl _ we).drew (bwS_inv hJ))
                  have e9 : uf 9 = .string (zq) := hJ.vals 9 (hd 9 (by decide))
                  have e10 : uf 10 = .bool (sq) := hJ.vals 10 (hd 10 (by decide))
                  rw [hA]
                  simp only [putAll, Act.put, List.setIfInBounds_toArray, List.set_cons_zero, List.set_cons_succ]
                  clear hJ hd h12 h15 hz hA
                  clear a0
                  rw [e9, e10]
                  clear e9 e10
                  clear HOp HSt HPb
                  have HPb := Lib.hid HPb0.out
                  clear HPb0
                  have HPb1 := Lib.hid (HPb.out.below HW.out)
                  have HPq1 := Lib.hid (HPq.out.below HW.out)
                  have HS1 := Lib.hid (HS.out.below HW.out)
                  have HK1 := Lib.hid (HKP.out.trans (Kp.of_below HW.out (fun i hi => HS.out.zlt i (HZ3.out.1 i (HZ2.out.1 i hi)))))
                  clear HPb HPq HS HKP
                  have HPb := HPb1
                  have HPq := HPq1
                  have HS := HS1
                  have HKP := HK1
                  clear HPb1 HPq1 HS1 HK1
                  clear HW
                  obtain ⟨cond, hcond⟩ : ∃ cond : Bool, (cond = true ∧ ((qk = ek ∧ qa = ea ∧ qb = eb) ∨ (vq = zq ∧ iq = sq))) ∨ (cond = false ∧ ¬ (qk = ek ∧ qa = ea ∧ qb = eb) ∧ ¬ (vq = zq ∧ iq = sq)) := by
                    by_cases h : (qk = ek ∧ qa = ea ∧ qb = eb) ∨ (vq = zq ∧ iq = sq)
                    · exact ⟨true, .inl ⟨rfl, h⟩⟩
                    · exact ⟨false, .inr ⟨rfl, fun h1 => h (.inl h1), fun h1 => h (.inr h1)⟩⟩
                  have HCd := Lib.hid hcond
                  have d0 := HPb.out.cell 0
                  have d1 := HPb.out.cell 1
                  have d2 := HPb.out.cell 2
                  have e0 := HPq.out.cell 0
                  have e1 := HPq.out.cell 1
                  have e2 := HPq.out.cell 2
                  go_upto_region 23 with fail
                  go_cut [155] (fun v wx => v = .bool cond ∧ Wf = wx)
                  case first =>
                    rcases hcond with ⟨rfl, h | h⟩ | ⟨rfl, h1, h2⟩
                    · obtain ⟨rfl, rfl, rfl⟩ := h
                      go_wp2_with fail
                      go_meet
                      case rel => exact ⟨by simp, rfl⟩
                    · obtain ⟨rfl, rfl⟩ := h
                      go_wp2_with fail
                      all_goals go_meet
                      all_goals exact ⟨rfl, rfl⟩
                    · go_wp2_with fail
                      all_goals go_meet
                      all_goals first
                        | exact ⟨rfl, rfl⟩
                        | exact ⟨congrArg Value.bool (same_no h2 (by assumption)), rfl⟩
                  case rest =>
                    obtain ⟨rfl, rfl⟩ := hcut
                    clear d0 d1 d2 e0 e1 e2
                    rcases HCd.out with ⟨rfl, _⟩ | ⟨rfl, h1, h2⟩
                    · clear HPb HPq
                      go_wp2_with fail
                      go_ret
                      exact ⟨rfl, HB0.out.trans ((HKP.out.below (fun i hi => (HZ.out i).2 hi)).mono HB0.out.size)⟩
                    · have hcl := HNe.out h1 h2
                      clear h1 h2
                      have HR1 := Lib.hid (fun W => rpp_is ⟨qk, qa, qb⟩ HOk0.out W)
                      have HR2 := Lib.hid (fun W => rpp_is ⟨ek, ea, eb⟩ HOk1.out W)
                      have hz1 := Pa.key_size HOk0.out
                      have hz2 := Pa.key_size HOk1.out
                      have HX := Lib.hid (not_noclash hcl.1 hcl.2 hz1 hz2)
                      have HSz := Lib.hid (And.intro hz1 hz2)
                      clear hz1 hz2 hcl
                      simp only [Pa.v] at HR1 HR2
                      generalize Pa.key ⟨qk, qa, qb⟩ = k1 at HR1 HX HSz
                      generalize Pa.key ⟨ek, ea, eb⟩ = k2 at HR2 HX HSz
                      have c0 := HPb.out.cell 0
                      have c1 := HPb.out.cell 1
                      have c2 := HPb.out.cell 2
                      go_wp2_with fail
                      refine (HR1.out Wf).mono ?_
                      rintro e wh ⟨rfl, hb7⟩
                      have HPb1 := Lib.hid (HPb.out.below hb7)
                      have HPq1 := Lib.hid (HPq.out.below hb7)
                      have HS1 := Lib.hid (HS.out.below hb7)
                      have HK1 := Lib.hid (HKP.out.trans (Kp.of_below hb7 (fun i hi => HS.out.zlt i (HZ3.out.1 i (HZ2.out.1 i hi)))))
                      clear HPb HPq HS HKP
                      have HPb := HPb1
                      have HPq := HPq1
                      have HS := HS1
                      have HKP := HK1
                      clear HPb1 HPq1 HS1 HK1
                      clear hb7
                      clear c0 c1 c2
                      have c0 := HPq.out.cell 0
                      have c1 := HPq.out.cell 1
                      have c2 := HPq.out.cell 2
                      go_wp2_with fail
                      refine (HR2.out wh).mono ?_
                      rintro e wi ⟨rfl, hb7⟩
                      have HPb1 := Lib.hid (HPb.out.below hb7)
                      have HPq1 := Lib.hid (HPq.out.below hb7)
                      have HS1 := Lib.hid (HS.out.below hb7)
                      have HK1 := Lib.hid (HKP.out.trans (Kp.of_below hb7 (fun i hi => HS.out.zlt i (HZ3.out.1 i (HZ2.out.1 i hi)))))
                      clear HPb HPq HS HKP
                      have HPb := HPb1
                      have HPq := HPq1
                      have HS := HS1
                      have HKP := HK1
                      clear HPb1 HPq1 HS1 HK1
                      clear hb7
                      clear c0 c1 c2 HPb HPq
                      go_wp2_with fail
                      refine (rinput_is 6 [k1] wi.heap.size 1 _ (by simp) (fun j hj => ?_) (by simp) (by have := HSz.out.1; simp [inpL, partL_len]; omega)).mono ?_
                      · have : j = 0 := by simp at hj; omega
                        subst this
                        exact (Blk.new wi 9 #[.string k1]).cell 0
                      rintro e wj ⟨rfl, hb8⟩
                      have HBj := Lib.hid (bstep (balloc (Below.refl _ wi) _) hb8)
                      clear hb8
                      go_wp2_with fail
                      refine (rinput_is 6 [k2] wj.heap.size 1 _ (by simp) (fun j hj => ?_) (by simp) (by have := HSz.out.2; simp [inpL, partL_len]; omega)).mono ?_
                      · have : j = 0 := by simp at hj; omega
                        subst this
                        exact (Blk.new wj 9 #[.string k2]).cell 0
                      rintro e wk ⟨rfl, hb9⟩
                      have HBk := Lib.hid (bstep HBj.out (bstep (balloc (Below.refl _ wj) _) hb9))
                      clear hb9 HBj
                      have HT1 : Hid ((inpL 6 [k1]).length ≤ 1000 ∧ (inpL 6 [k2]).length ≤ 1000) := Lib.hid (by have := HSz.out; simp [inpL, partL_len]; omega)
                      obtain ⟨t1, ht1⟩ : ∃ t1 : ByteArray, t1 = ⟨(inpL 6 [k1]).toArray⟩ := ⟨_, rfl⟩
                      obtain ⟨t2, ht2⟩ : ∃ t2 : ByteArray, t2 = ⟨(inpL 6 [k2]).toArray⟩ := ⟨_, rfl⟩
                      have HTz : Hid (t1.size ≤ 1000 ∧ t2.size ≤ 1000) := Lib.hid (by rw [ht1, ht2]; exact HT1.out)
                      rw [← ht1, ← ht2] at HX ⊢
                      clear ht1 ht2 HT1
                      go_wp2_with fail
                      refine (clash_is [t1, t2] wk.heap.size 2 _ (HS.out.glob.next (bstep HBk.out (balloc (Below.refl _ wk) _))) (by simp) (fun j hj => ?_) (by simp) (fun x hx => ?_) HX.out).mono ?_
                      · have h2 : j = 0 ∨ j = 1 := by simp at hj; omega
                        rcases h2 with rfl | rfl
                        · exact (Blk.new wk 9 #[.string t1, .string t2]).cell 0
                        · exact (Blk.new wk 9 #[.string t1, .string t2]).cell 1
                      · have := HTz.out
                        rcases List.mem_cons.1 hx with rfl | hx
                        · omega
                        · obtain rfl := List.mem_singleton.1 hx
                          omega
                      rintro e wl ⟨rfl, hb10⟩
                      have HKl := Lib.hid (HKP.out.trans (Kp.of_below (bstep HBk.out (bstep (balloc (Below.refl _ wk) _) hb10)) (fun i hi => HS.out.zlt i (HZ3.out.1 i (HZ2.out.1 i hi)))))
                      clear hb10 HBk
                      go_wp2_with fail
                      go_ret
                      exact ⟨rfl, HB0.out.trans ((HKl.out.below (fun i hi => (HZ.out i).2 hi)).mono HB0.out.size)⟩
                · exact KStep.plain rfl fun ρ d u W he hc hdi hd hJ => swp_val (run_move (he.o h12 rfl)) (hJ.pure 0 rfl rfl)
                · exact KStep.plain rfl fun ρ d u W he hc hdi hd hJ => swp_val (run_nilCheck (he.i hz (hJ.vals 0 (hd 0 (by kernel_rfl))) (j := 0) (d := 135) rfl (by decide))) (hJ.pure 1 rfl rfl)
                · exact KStep.plain rfl fun ρ d u W he hc hdi hd hJ => swp_val (run_fieldAddr (he.i hz (hJ.vals 1 (hd 1 (by kernel_rfl))) (j := 1) (d := 136) rfl (by decide)) (by go_simp)) (hJ.pure 2 rfl rfl)
                · exact KStep.plain rfl fun ρ d u W he hc hdi hd hJ => swp_val (run_load (he.i hz (hJ.vals 2 (hd 2 (by kernel_rfl))) (j := 2) (d := 137) rfl (by decide)) ((HSt.out.below (bwS_inv hJ)).ld)) (hJ.pure 3 rfl rfl)
                · exact KStep.plain rfl fun ρ d u W he hc hdi hd hJ => swp_val (run_load (he.o h15 rfl) (ld_pa (HPb.out.below (bwS_inv hJ)))) (hJ.pure 4 rfl rfl)
                · exact KStep.plain rfl fun ρ d u W he hc hdi hd hJ => swp_call (run_call #[.agg #[ptr t], .agg #[.int .i64 ((ek : Nat) : Int), .int .u64 ((ea : Nat) : Int), .int .u64 ((eb : Nat) : Int)]] (he.func _) (by kernel_rfl) (map2 (he.i hz (hJ.vals 3 (hd 3 (by kernel_rfl))) (j := 3) (d := 138) rfl (by decide)) (he.i hz (hJ.vals 4 (hd 4 (by kernel_rfl))) (j := 4) (d := 139) rfl (by decide)))) (HOp.out W (bwS_inv hJ)) (fun e W' h => ⟨_, h.1, hJ.go 0 rfl hdi (by decide) (fun j h => by omega) rfl ⟨Nat.le_refl 1, bstep (bwS_inv hJ) h.2⟩⟩)
                · exact KStep.plain rfl fun ρ d u W he hc hdi hd hJ => swp_val (run_move (he.i hz (hJ.vals 5 (hd 5 (by kernel_rfl))) (j := 5) (d := 140) rfl (by decide))) (hJ.pure 6 rfl rfl)
                · exact KStep.plain rfl fun ρ d u W he hc hdi hd hJ => swp_val (run_extract (he.i hz (hJ.vals 6 (hd 6 (by kernel_rfl))) (j := 6) (d := 134) rfl (by decide)) (tx0 _ _ W)) (hJ.pure 7 rfl rfl)
                · exact KStep.plain rfl fun ρ d u W he hc hdi hd hJ => swp_val (run_extract (he.i hz (hJ.vals 6 (hd 6 (by kernel_rfl))) (j := 6) (d := 134) rfl (by decide)) (tx1 _ _ W)) (hJ.pure 8 rfl rfl)
                · exact KStep.plain rfl fun ρ d u W he hc hdi hd hJ => swp_val (run_assign (he.i hz (hJ.vals 7 (hd 7 (by kernel_rfl))) (j := 7) (d := 141) rfl (by decide))) (hJ.pure 9 rfl rfl)
                · exact KStep.plain rfl fun ρ d u W he hc hdi hd hJ => swp_val (run_assign (he.i hz (hJ.vals 8 (hd 8 (by kernel_rfl))) (j := 8) (d := 142) rfl (by decide))) (hJ.pure 10 rfl rfl)
              · exact KStep.plain rfl fun ρ d u W he hc hdi hd hJ => swp_val (run_move (he.o h12 rfl)) (hJ.pure 0 rfl rfl)
              · exact KStep.plain rfl fun ρ d u W he hc hdi hd hJ => swp_val (run_nilCheck (he.i hz (hJ.vals 0 (hd 0 (by kernel_rfl))) (j := 0) (d := 93) rfl (by decide))) (hJ.pure 1 rfl rfl)
              · exact KStep.plain rfl fun ρ d u W he hc hdi hd hJ => swp_val (run_fieldAddr (he.i hz (hJ.vals 1 (hd 1 (by kernel_rfl))) (j := 1) (d := 94) rfl (by decide)) (by go_simp)) (hJ.pure 2 rfl rfl)
              · exact KStep.plain rfl fun ρ d u W he hc hdi hd hJ => swp_val (run_load (he.i hz (hJ.vals 2 (hd 2 (by kernel_rfl))) (j := 2) (d := 95) rfl (by decide)) ((HSt.out.below (bwS_inv hJ)).ld)) (hJ.pure 3 rfl rfl)
              · exact KStep.plain rfl fun ρ d u W he hc hdi hd hJ => swp_val (run_load (he.o h14 rfl) (ld_pa (HPb.out.below (bwS_inv hJ)))) (hJ.pure 4 rfl rfl)
              · exact KStep.plain rfl fun ρ d u W he hc hdi hd hJ => swp_call (run_call #[.agg #[ptr t], .agg #[.int .i64 ((qk : Nat) : Int), .int .u64 ((qa : Nat) : Int), .int .u64 ((qb : Nat) : Int)]] (he.func _) (by kernel_rfl) (map2 (he.i hz (hJ.vals 3 (hd 3 (by kernel_rfl))) (j := 3) (d := 96) rfl (by decide)) (he.i hz (hJ.vals 4 (hd 4 (by kernel_rfl))) (j := 4) (d := 97) rfl (by decide)))) (HOp.out W (bwS_inv hJ)) (fun e W' h => ⟨_, h.1, hJ.go 0 rfl hdi (by decide) (fun j h => by omega) rfl ⟨Nat.le_refl 1, bstep (bwS_inv hJ) h.2⟩⟩)
              · exact KStep.plain rfl fun ρ d u W he hc hdi hd hJ => swp_val (run_move (he.i hz (hJ.vals 5 (hd 5 (by kernel_rfl))) (j := 5) (d := 98) rfl (by decide))) (hJ.pure 6 rfl rfl)
              · exact KStep.plain rfl fun ρ d u W he hc hdi hd hJ => swp_val (run_extract (he.i hz (hJ.vals 6 (hd 6 (by kernel_rfl))) (j := 6) (d := 92) rfl (by decide)) (tx0 _ _ W)) (hJ.pure 7 rfl rfl)
              · exact KStep.plain rfl fun ρ d u W he hc hdi hd hJ => swp_val (run_extract (he.i hz (hJ.vals 6 (hd 6 (by kernel_rfl))) (j := 6) (d := 92) rfl (by decide)) (tx1 _ _ W)) (hJ.pure 8 rfl rfl)
              · exact KStep.plain rfl fun ρ d u W he hc hdi hd hJ => swp_val (run_assign (he.i hz (hJ.vals 7 (hd 7 (by kernel_rfl))) (j := 7) (d := 99) rfl (by decide))) (hJ.pure 9 rfl rfl)
              · exact KStep.plain rfl fun ρ d u W he hc hdi hd hJ => swp_val (run_assign (he.i hz (hJ.vals 8 (hd 8 (by kernel_rfl))) (j := 8) (d := 100) rfl (by decide))) (hJ.pure 10 rfl rfl)
            · exact KStep.plain rfl fun ρ d u W he hc hdi hd hJ => swp_val (run_move (he.o h12 rfl)) (hJ.pure 0 rfl rfl)
            · exact KStep.plain rfl fun ρ d u W he hc hdi hd hJ => swp_val (run_nilCheck (he.i hz (hJ.vals 0 (hd 0 (by kernel_rfl))) (j := 0) (d := 79) rfl (by decide))) (hJ.pure 1 rfl rfl)
            · exact KStep.plain rfl fun ρ d u W he hc hdi hd hJ => swp_val (run_fieldAddr (he.i hz (hJ.vals 1 (hd 1 (by kernel_rfl))) (j := 1) (d := 80) rfl (by decide)) (by go_simp)) (hJ.pure 2 rfl rfl)
            · exact KStep.plain rfl fun ρ d u W he hc hdi hd hJ => swp_val (run_load (he.i hz (hJ.vals 2 (hd 2 (by kernel_rfl))) (j := 2) (d := 81) rfl (by decide)) ((HSt.out.below (hJ.olds2T 0 rfl (hc.notyet [3] (by kernel_rfl) rfl hdi) sgS_lt)).ld)) (hJ.pure 3 rfl rfl)
            · exact KStep.plain rfl fun ρ d u W he hc hdi hd hJ => swp_val (run_load (he.o h14 rfl) (ld_pa (HPb.out.below (hJ.olds2T 0 rfl (hc.notyet [4] (by kernel_rfl) rfl hdi) sgS_lt)))) (hJ.pure 4 rfl rfl)
            · refine KStep.plain rfl fun ρ d u W he hc hdi hd hJ => ?_
              have hS : Below w11.drew.heap.size w11.drew W := hJ.at_ 0 rfl hdi (fun j h => by omega)
              exact swp_call (run_call #[.agg #[ptr t], .agg #[.int .i64 ((qk : Nat) : Int), .int .u64 ((qa : Nat) : Int), .int .u64 ((qb : Nat) : Int)]] (he.func _) (by kernel_rfl) (map2 (he.i hz (hJ.vals 3 (hd 3 (by kernel_rfl))) (j := 3) (d := 82) rfl (by decide)) (he.i hz (hJ.vals 4 (hd 4 (by kernel_rfl))) (j := 4) (d := 83) rfl (by decide)))) (HOp.out W hS) (fun e W' h => ⟨_, h.1, hJ.go 0 rfl hdi (by decide) (fun j h => by omega) rfl h.2⟩)
            · exact KStep.plain rfl fun ρ d u W he hc hdi hd hJ => swp_val (run_assign (he.i hz (hJ.vals 5 (hd 5 (by kernel_rfl))) (j := 5) (d := 84) rfl (by decide))) (hJ.pure 6 rfl rfl)
          | false =>
            obtain ⟨f1, hf1⟩ : ∃ f1, f1 = (updP f (pathP (Pa.key ⟨qk, qa, qb⟩)) (some value)) := ⟨_, rfl⟩
            have hvp : valF f1 ⟨qk, qa, qb⟩ = value ∧ hasF f1 ⟨qk, qa, qb⟩ = true := by unfold valF hasF; rw [hf1, updP_at]; exact ⟨rfl, rfl⟩
            obtain ⟨zq, hzq⟩ : ∃ zq, valF f1 ⟨ek, ea, eb⟩ = zq := ⟨_, rfl⟩
            obtain ⟨sq, hsq⟩ : ∃ sq, hasF f1 ⟨ek, ea, eb⟩ = sq := ⟨_, rfl⟩
            have HNe : Hid (¬ (qk = ek ∧ qa = ea ∧ qb = eb) → ¬ (vq = zq ∧ iq = sq) → Pa.key ⟨qk, qa, qb⟩ ≠ Pa.key ⟨ek, ea, eb⟩ ∧ pathP (Pa.key ⟨qk, qa, qb⟩) = pathP (Pa.key ⟨ek, ea, eb⟩)) := Lib.hid (fun h1 h2 => by
              refine ⟨fun e => h1 (by have := Pa.key_inj HOk0.out HOk1.out e; cases this; exact ⟨rfl, rfl, rfl⟩), ?_⟩
              refine Classical.byContradiction fun hP => h2 ?_
              rw [← HVq.out.1, ← HVq.out.2, ← hzq, ← hsq]
              unfold valF hasF
              rw [hf1, updP_ne _ _ (Ne.symm hP)]
              exact ⟨rfl, rfl⟩)
            have HGp1 : Hid (∀ (Zc : Nat → Prop) (W : World) (t n : Nat) (l : List PM), StAt W Zc s t n f1 l → Calls Tryd.prog 14 #[.agg #[ptr t], .agg #[.int .i64 (qk : Int), .int .u64 (qa : Int), .int .u64 (qb : Int)]] W fun e w' => e = .returned (.tuple #[.string (value), .bool (true)]) ∧ Below W.heap.size W w') := Lib.hid (fun Zc W t n l hS => by
              have := get_st hS HOk0.out
              rw [hvp.1, hvp.2] at this
              exact this)
            have HGq1 : Hid (∀ (Zc : Nat → Prop) (W : World) (t n : Nat) (l : List PM), StAt W Zc s t n f1 l → Calls Tryd.prog 14 #[.agg #[ptr t], .agg #[.int .i64 (ek : Int), .int .u64 (ea : Int), .int .u64 (eb : Int)]] W fun e w' => e = .returned (.tuple #[.string (zq), .bool (sq)]) ∧ Below W.heap.size W w') := Lib.hid (fun Zc W t n l hS => by
              have := get_st hS HOk1.out
              rw [hzq, hsq] at this
              exact this)
            go_upto_region 17 with fail
            have HSt := Lib.hid (HS.out.below (Below.refl _ w11).drew)
            have HPb0 := Lib.hid HPb.out
            have HPb : Hid (Blk w11.drew X 25 #[.int .i64 (qk : Int), .int .u64 (qa : Int), .int .u64 (qb : Int)]) := Lib.hid HPb.out
            have HOp : Hid (∀ W, Below w11.drew.heap.size w11.drew W → Calls Tryd.prog 19 #[.agg #[ptr t], .agg #[.int .i64 (qk : Int), .int .u64 (qa : Int), .int .u64 (qb : Int)], .string value] W fun e w' => e = .returned (.int .i64 0) ∧ (fun W => StAt W Z3 s t (n + 1) f1 l ∧ Kp Z3 w11 W) w') := Lib.hid (fun W hb => by
              have := sset_is ⟨qk, qa, qb⟩ HOk0.out value hvalue Z3 s t n (by unfold maxLen; omega) f l W (HSt.out.below hb)
              rw [← hf1] at this
              exact this.mono fun e w' h => ⟨h.1, h.2.1, (Kp.of_below (bstep (Below.refl _ w11).drew hb) HS.out.zlt).trans h.2.2⟩)
            clear hf1 hvp hzq hsq
            refine wp_abs fun a0 hA => ?_
            have h3 : a0.eval (.tmp 3) = .string value := by rw [hA]; rfl
            have h12 : a0.eval (.tmp 12) = .pointer (some ⟨s, 0, none⟩) := by rw [hA]; rfl
            have h14 : a0.eval (.tmp 14) = .pointer (some ⟨X, 0, none⟩) := by rw [hA]; rfl
            have hz : a0.tmps.size = 174 := by rw [hA]; rfl
            refine wp_region_K [some 85, some 86, some 87, some 88, some 89, some 90, some 91, some 21] 174 (CJ (gtV17 s t X qk qa qb value) (fun _ _ => True) [6] (sgS w11.drew (fun W => StAt W Z3 s t (n + 1) f1 l ∧ Kp Z3 w11 W))) (by kernel_rfl) (by kernel_rfl) (by kernel_rfl) rfl (by kernel_rfl) hz (CJ.start (fun i => trivial) (Below.refl _ _)) ?_ ⟨?_, ?_, ?_, ?_, ?_, ?_, ?_, ?_, trivial⟩
            · intro d uc Wc hd hJ
              have HB : Hid ((fun W => StAt W Z3 s t (n + 1) f1 l ∧ Kp Z3 w11 W) Wc) := Lib.hid (show sgS w11.drew (fun W => StAt W Z3 s t (n + 1) f1 l ∧ Kp Z3 w11 W) 1 _ Wc from hJ.fin 1 rfl (fun k hk => by simp at hk; subst hk; exact hd _ (by decide)) sgS_le)
              have e7 : uc 7 = .int .i64 0 := hJ.vals 7 (hd 7 (by decide))
              rw [hA]
              simp only [putAll, Act.put, List.setIfInBounds_toArray, List.set_cons_zero, List.set_cons_succ]
              clear hJ hd h3 h12 h14 hz hA
              clear a0
              rw [e7]
              clear e7
              clear HOp HSt HPb
              have HPb := Lib.hid (HB.out.2.blk (HZ3.out.1 _ HZ2.out.2) HPb0.out)
              have HPq1 := Lib.hid (HB.out.2.blk HZ3.out.2 HPq.out)
              have HS1 := Lib.hid HB.out.1
              have HK1 := Lib.hid (HKP.out.trans (HB.out.2.mono (fun i hi => HZ3.out.1 i (HZ2.out.1 i hi))))
              clear HPb0 HPq HS HKP HB
              have HPq := HPq1
              have HS := HS1
              have HKP := HK1
              clear HPq1 HS1 HK1
              go_upto_region 18 with fail
              have HSt := Lib.hid (HS.out.below (Below.refl _ Wc).drew)
              have HPb0 := Lib.hid HPb.out
              have HPb : Hid (Blk Wc.drew X 25 #[.int .i64 (qk : Int), .int .u64 (qa : Int), .int .u64 (qb : Int)]) := Lib.hid HPb.out
              have HOp : Hid (∀ W, Below Wc.drew.heap.size Wc.drew W → Calls Tryd.prog 14 #[.agg #[ptr t], .agg #[.int .i64 (qk : Int), .int .u64 (qa : Int), .int .u64 (qb : Int)]] W fun e w' => e = .returned (.tuple #[.string (value), .bool (true)]) ∧ Below W.heap.size W w') := Lib.hid (fun W hb => HGp1.out _ W _ _ _ (HSt.out.below hb))
              refine wp_abs fun a0 hA => ?_
              have h12 : a0.eval (.tmp 12) = .pointer (some ⟨s, 0, none⟩) := by rw [hA]; rfl
              have h14 : a0.eval (.tmp 14) = .pointer (some ⟨X, 0, none⟩) := by rw [hA]; rfl
              have hz : a0.tmps.size = 174 := by rw [hA]; rfl
              refine wp_region_K [some 93, some 94, some 95, some 96, some 97, some 98, some 92, some 99, some 100, some 22, some 23] 174 (CJ (gtV18F s t X qk qa qb value  true) (fun _ _ => True) [5] (bwS Wc.drew)) (by kernel_rfl) (by kernel_rfl) (by kernel_rfl) rfl (by kernel_rfl) hz (CJ.start (fun i => trivial) ⟨Nat.zero_le 1, Below.refl _ _⟩) ?_ ⟨?_, ?_, ?_, ?_, ?_, ?_, ?_, ?_, ?_, ?_, ?_, trivial⟩
              · intro d ud Wd hd hJ
                have HW : Hid (Below Wc.heap.size Wc Wd) := Lib.hid (bstep (Below.refl _ Wc).drew (bwS_inv hJ))
                have e9 : ud 9 = .string (value) := hJ.vals 9 (hd 9 (by decide))
                have e10 : ud 10 = .bool (true) := hJ.vals 10 (hd 10 (by decide))
                rw [hA]
                simp only [putAll, Act.put, List.setIfInBounds_toArray, List.set_cons_zero, List.set_cons_succ]
                clear hJ hd h12 h14 hz hA
                clear a0
                rw [e9, e10]
                clear e9 e10
                clear HOp HSt HPb
                have HPb := Lib.hid HPb0.out
                clear HPb0
                have HPb1 := Lib.hid (HPb.out.below HW.out)
                have HPq1 := Lib.hid (HPq.out.below HW.out)
                have HS1 := Lib.hid (HS.out.below HW.out)
                have HK1 := Lib.hid (HKP.out.trans (Kp.of_below HW.out (fun i hi => HS.out.zlt i (HZ3.out.1 i (HZ2.out.1 i hi)))))
                clear HPb HPq HS HKP
                have HPb := HPb1
                have HPq := HPq1
                have HS := HS1
                have HKP := HK1
                clear HPb1 HPq1 HS1 HK1
                clear HW
                have c0 := HPb.out.cell 0
                have c1 := HPb.out.cell 1
                have c2 := HPb.out.cell 2
                go_wp2_with fail
                refine (HVal.out Z3 Wd t (n + 1) f1 l HS.out (by omega) HQ1.out).mono ?_
                rintro e we ⟨rfl, hb7⟩
                have HPb1 := Lib.hid (HPb.out.below hb7)
                have HPq1 := Lib.hid (HPq.out.below hb7)
                have HS1 := Lib.hid (HS.out.below hb7)
                have HK1 := Lib.hid (HKP.out.trans (Kp.of_below hb7 (fun i hi => HS.out.zlt i (HZ3.out.1 i (HZ2.out.1 i hi)))))
                clear HPb HPq HS HKP
                have HPb := HPb1
                have HPq := HPq1
                have HS := HS1
                have HKP := HK1
                clear HPb1 HPq1 HS1 HK1
                clear hb7
                clear c0 c1 c2
                go_upto_region 22 with fail
                have HSt := Lib.hid (HS.out.below (Below.refl _ we).drew)
                have HPb0 := Lib.hid HPb.out
                have HPb : Hid (Blk we.drew Y 25 #[.int .i64 (ek : Int), .int .u64 (ea : Int), .int .u64 (eb : Int)]) := Lib.hid HPq.out
                have HOp : Hid (∀ W, Below we.drew.heap.size we.drew W → Calls Tryd.prog 14 #[.agg #[ptr t], .agg #[.int .i64 (ek : Int), .int .u64 (ea : Int), .int .u64 (eb : Int)]] W fun e w' => e = .returned (.tuple #[.string (zq), .bool (sq)]) ∧ Below W.heap.size W w') := Lib.hid (fun W hb => HGq1.out _ W _ _ _ (HSt.out.below hb))
                refine wp_abs fun a0 hA => ?_
                have h12 : a0.eval (.tmp 12) = .pointer (some ⟨s, 0, none⟩) := by rw [hA]; rfl
                have h15 : a0.eval (.tmp 15) = .pointer (some ⟨Y, 0, none⟩) := by rw [hA]; rfl
                have hz : a0.tmps.size = 174 := by rw [hA]; rfl
                refine wp_region_K [some 135, some 136, some 137, some 138, some 139, some 140, some 134, some 141, some 142, some 26, some 27] 174 (CJ (gtV22F s t Y ek ea eb zq  sq) (fun _ _ => True) [5] (bwS we.drew)) (by kernel_rfl) (by kernel_rfl) (by kernel_rfl) rfl (by kernel_rfl) hz (CJ.start (fun i => trivial) ⟨Nat.zero_le 1, Below.refl _ _⟩) ?_ ⟨?_, ?_, ?_, ?_, ?_, ?_, ?_, ?_, ?_, ?_, ?_, trivial⟩
                · intro d uf Wf hd hJ
                  have HW : Hid (Below we.heap.size we Wf) := Lib.hid (bstep (Below.refl _ we).drew (bwS_inv hJ))
                  have e9 : uf 9 = .string (zq) := hJ.vals 9 (hd 9 (by decide))
                  have e10 : uf 10 = .bool (sq) := hJ.vals 10 (hd 10 (by decide))
                  rw [hA]
                  simp only [putAll, Act.put, List.setIfInBounds_toArray, List.set_cons_zero, List.set_cons_succ]
                  clear hJ hd h12 h15 hz hA
                  clear a0
                  rw [e9, e10]
                  clear e9 e10
                  clear HOp HSt HPb
                  have HPb := Lib.hid HPb0.out
                  clear HPb0
                  have HPb1 := Lib.hid (HPb.out.below HW.out)
                  have HPq1 := Lib.hid (HPq.out.below HW.out)
                  have HS1 := Lib.hid (HS.out.below HW.out)
                  have HK1 := Lib.hid (HKP.out.trans (Kp.of_below HW.out (fun i hi => HS.out.zlt i (HZ3.out.1 i (HZ2.out.1 i hi)))))
                  clear HPb HPq HS HKP
                  have HPb := HPb1
                  have HPq := HPq1
                  have HS := HS1
                  have HKP := HK1
                  clear HPb1 HPq1 HS1 HK1
                  clear HW
                  obtain ⟨cond, hcond⟩ : ∃ cond : Bool, (cond = true ∧ ((qk = ek ∧ qa = ea ∧ qb = eb) ∨ (vq = zq ∧ iq = sq))) ∨ (cond = false ∧ ¬ (qk = ek ∧ qa = ea ∧ qb = eb) ∧ ¬ (vq = zq ∧ iq = sq)) := by
                    by_cases h : (qk = ek ∧ qa = ea ∧ qb = eb) ∨ (vq = zq ∧ iq = sq)
                    · exact ⟨true, .inl ⟨rfl, h⟩⟩
                    · exact ⟨false, .inr ⟨rfl, fun h1 => h (.inl h1), fun h1 => h (.inr h1)⟩⟩
                  have HCd := Lib.hid hcond
                  have d0 := HPb.out.cell 0
                  have d1 := HPb.out.cell 1
                  have d2 := HPb.out.cell 2
                  have e0 := HPq.out.cell 0
                  have e1 := HPq.out.cell 1
                  have e2 := HPq.out.cell 2
                  go_upto_region 23 with fail
                  go_cut [155] (fun v wx => v = .bool cond ∧ Wf = wx)
                  case first =>
                    rcases hcond with ⟨rfl, h | h⟩ | ⟨rfl, h1, h2⟩
                    · obtain ⟨rfl, rfl, rfl⟩ := h
                      go_wp2_with fail
                      go_meet
                      case rel => exact ⟨by simp, rfl⟩
                    · obtain ⟨rfl, rfl⟩ := h
                      go_wp2_with fail
                      all_goals go_meet
                      all_goals exact ⟨rfl, rfl⟩
                    · go_wp2_with fail
                      all_goals go_meet
                      all_goals first
                        | exact ⟨rfl, rfl⟩
                        | exact ⟨congrArg Value.bool (same_no h2 (by assumption)), rfl⟩
                  case rest =>
                    obtain ⟨rfl, rfl⟩ := hcut
                    clear d0 d1 d2 e0 e1 e2
                    rcases HCd.out with ⟨rfl, _⟩ | ⟨rfl, h1, h2⟩
                    · clear HPb HPq
                      go_wp2_with fail
                      go_ret
                      exact ⟨rfl, HB0.out.trans ((HKP.out.below (fun i hi => (HZ.out i).2 hi)).mono HB0.out.size)⟩
                    · have hcl := HNe.out h1 h2
                      clear h1 h2
                      have HR1 := Lib.hid (fun W => rpp_is ⟨qk, qa, qb⟩ HOk0.out W)
                      have HR2 := Lib.hid (fun W => rpp_is ⟨ek, ea, eb⟩ HOk1.out W)
                      have hz1 := Pa.key_size HOk0.out
                      have hz2 := Pa.key_size HOk1.out
                      have HX := Lib.hid (not_noclash hcl.1 hcl.2 hz1 hz2)
                      have HSz := Lib.hid (And.intro hz1 hz2)
                      clear hz1 hz2 hcl
                      simp only [Pa.v] at HR1 HR2
                      generalize Pa.key ⟨qk, qa, qb⟩ = k1 at HR1 HX HSz
                      generalize Pa.key ⟨ek, ea, eb⟩ = k2 at HR2 HX HSz
                      have c0 := HPb.out.cell 0
                      have c1 := HPb.out.cell 1
                      have c2 := HPb.out.cell 2
                      go_wp2_with fail
                      refine (HR1.out Wf).mono ?_
                      rintro e wh ⟨rfl, hb7⟩
                      have HPb1 := Lib.hid (HPb.out.below hb7)
                      have HPq1 := Lib.hid (HPq.out.below hb7)
                      have HS1 := Lib.hid (HS.out.below hb7)
                      have HK1 := Lib.hid (HKP.out.trans (Kp.of_below hb7 (fun i hi => HS.out.zlt i (HZ3.out.1 i (HZ2.out.1 i hi)))))
                      clear HPb HPq HS HKP
                      have HPb := HPb1
                      have HPq := HPq1
                      have HS := HS1
                      have HKP := HK1
                      clear HPb1 HPq1 HS1 HK1
                      clear hb7
                      clear c0 c1 c2
                      have c0 := HPq.out.cell 0
                      have c1 := HPq.out.cell 1
                      have c2 := HPq.out.cell 2
                      go_wp2_with fail
                      refine (HR2.out wh).mono ?_
                      rintro e wi ⟨rfl, hb7⟩
                      have HPb1 := Lib.hid (HPb.out.below hb7)
                      have HPq1 := Lib.hid (HPq.out.below hb7)
                      have HS1 := Lib.hid (HS.out.below hb7)
                      have HK1 := Lib.hid (HKP.out.trans (Kp.of_below hb7 (fun i hi => HS.out.zlt i (HZ3.out.1 i (HZ2.out.1 i hi)))))
                      clear HPb HPq HS HKP
                      have HPb := HPb1
                      have HPq := HPq1
                      have HS := HS1
                      have HKP := HK1
                      clear HPb1 HPq1 HS1 HK1
                      clear hb7
                      clear c0 c1 c2 HPb HPq
                      go_wp2_with fail
                      refine (rinput_is 6 [k1] wi.heap.size 1 _ (by simp) (fun j hj => ?_) (by simp) (by have := HSz.out.1; simp [inpL, partL_len]; omega)).mono ?_
                      · have : j = 0 := by simp at hj; omega
                        subst this
                        exact (Blk.new wi 9 #[.string k1]).cell 0
                      rintro e wj ⟨rfl, hb8⟩
                      have HBj := Lib.hid (bstep (balloc (Below.refl _ wi) _) hb8)
                      clear hb8
                      go_wp2_with fail
                      refine (rinput_is 6 [k2] wj.heap.size 1 _ (by simp) (fun j hj => ?_) (by simp) (by have := HSz.out.2; simp [inpL, partL_len]; omega)).mono ?_
                      · have : j = 0 := by simp at hj; omega
                        subst this
                        exact (Blk.new wj 9 #[.string k2]).cell 0
                      rintro e wk ⟨rfl, hb9⟩
                      have HBk := Lib.hid (bstep HBj.out (bstep (balloc (Below.refl _ wj) _) hb9))
                      clear hb9 HBj
                      have HT1 : Hid ((inpL 6 [k1]).length ≤ 1000 ∧ (inpL 6 [k2]).length ≤ 1000) := Lib.hid (by have := HSz.out; simp [inpL, partL_len]; omega)
                      obtain ⟨t1, ht1⟩ : ∃ t1 : ByteArray, t1 = ⟨(inpL 6 [k1]).toArray⟩ := ⟨_, rfl⟩
                      obtain ⟨t2, ht2⟩ : ∃ t2 : ByteArray, t2 = ⟨(inpL 6 [k2]).toArray⟩ := ⟨_, rfl⟩
                      have HTz : Hid (t1.size ≤ 1000 ∧ t2.size ≤ 1000) := Lib.hid (by rw [ht1, ht2]; exact HT1.out)
                      rw [← ht1, ← ht2] at HX ⊢
                      clear ht1 ht2 HT1
                      go_wp2_with fail
                      refine (clash_is [t1, t2] wk.heap.size 2 _ (HS.out.glob.next (bstep HBk.out (balloc (Below.refl _ wk) _))) (by simp) (fun j hj => ?_) (by simp) (fun x hx => ?_) HX.out).mono ?_
                      · have h2 : j = 0 ∨ j = 1 := by simp at hj; omega
                        rcases h2 with rfl | rfl
                        · exact (Blk.new wk 9 #[.string t1, .string t2]).cell 0
                        · exact (Blk.new wk 9 #[.string t1, .string t2]).cell 1
                      · have := HTz.out
                        rcases List.mem_cons.1 hx with rfl | hx
                        · omega
                        · obtain rfl := List.mem_singleton.1 hx
                          omega
                      rintro e wl ⟨rfl, hb10⟩
                      have HKl := Lib.hid (HKP.out.trans (Kp.of_below (bstep HBk.out (bstep (balloc (Below.refl _ wk) _) hb10)) (fun i hi => HS.out.zlt i (HZ3.out.1 i (HZ2.out.1 i hi)))))
                      clear hb10 HBk
                      go_wp2_with fail
                      go_ret
                      exact ⟨rfl, HB0.out.trans ((HKl.out.below (fun i hi => (HZ.out i).2 hi)).mono HB0.out.size)⟩
                · exact KStep.plain rfl fun ρ d u W he hc hdi hd hJ => swp_val (run_move (he.o h12 rfl)) (hJ.pure 0 rfl rfl)
                · exact KStep.plain rfl fun ρ d u W he hc hdi hd hJ => swp_val (run_nilCheck (he.i hz (hJ.vals 0 (hd 0 (by kernel_rfl))) (j := 0) (d := 135) rfl (by decide))) (hJ.pure 1 rfl rfl)
                · exact KStep.plain rfl fun ρ d u W he hc hdi hd hJ => swp_val (run_fieldAddr (he.i hz (hJ.vals 1 (hd 1 (by kernel_rfl))) (j := 1) (d := 136) rfl (by decide)) (by go_simp)) (hJ.pure 2 rfl rfl)
                · exact KStep.plain rfl fun ρ d u W he hc hdi hd hJ => swp_val (run_load (he.i hz (hJ.vals 2 (hd 2 (by kernel_rfl))) (j := 2) (d := 137) rfl (by decide)) ((HSt.out.below (bwS_inv hJ)).ld)) (hJ.pure 3 rfl rfl)
                · exact KStep.plain rfl fun ρ d u W he hc hdi hd hJ => swp_val (run_load (he.o h15 rfl) (ld_pa (HPb.out.below (bwS_inv hJ)))) (hJ.pure 4 rfl rfl)
                · exact KStep.plain rfl fun ρ d u W he hc hdi hd hJ => swp_call (run_call #[.agg #[ptr t], .agg #[.int .i64 ((ek : Nat) : Int), .int .u64 ((ea : Nat) : Int), .int .u64 ((eb : Nat) : Int)]] (he.func _) (by kernel_rfl) (map2 (he.i hz (hJ.vals 3 (hd 3 (by kernel_rfl))) (j := 3) (d := 138) rfl (by decide)) (he.i hz (hJ.vals 4 (hd 4 (by kernel_rfl))) (j := 4) (d := 139) rfl (by decide)))) (HOp.out W (bwS_inv hJ)) (fun e W' h => ⟨_, h.1, hJ.go 0 rfl hdi (by decide) (fun j h => by omega) rfl ⟨Nat.le_refl 1, bstep (bwS_inv hJ) h.2⟩⟩)
                · exact KStep.plain rfl fun ρ d u W he hc hdi hd hJ => swp_val (run_move (he.i hz (hJ.vals 5 (hd 5 (by kernel_rfl))) (j := 5) (d := 140) rfl (by decide))) (hJ.pure 6 rfl rfl)
                · exact KStep.plain rfl fun ρ d u W he hc hdi hd hJ => swp_val (run_extract (he.i hz (hJ.vals 6 (hd 6 (by kernel_rfl))) (j := 6) (d := 134) rfl (by decide)) (tx0 _ _ W)) (hJ.pure 7 rfl rfl)
                · exact KStep.plain rfl fun ρ d u W he hc hdi hd hJ => swp_val (run_extract (he.i hz (hJ.vals 6 (hd 6 (by kernel_rfl))) (j := 6) (d := 134) rfl (by decide)) (tx1 _ _ W)) (hJ.pure 8 rfl rfl)
                · exact KStep.plain rfl fun ρ d u W he hc hdi hd hJ => swp_val (run_assign (he.i hz (hJ.vals 7 (hd 7 (by kernel_rfl))) (j := 7) (d := 141) rfl (by decide))) (hJ.pure 9 rfl rfl)
                · exact KStep.plain rfl fun ρ d u W he hc hdi hd hJ => swp_val (run_assign (he.i hz (hJ.vals 8 (hd 8 (by kernel_rfl))) (j := 8) (d := 142) rfl (by decide))) (hJ.pure 10 rfl rfl)
              · exact KStep.plain rfl fun ρ d u W he hc hdi hd hJ => swp_val (run_move (he.o h12 rfl)) (hJ.pure 0 rfl rfl)
              · exact KStep.plain rfl fun ρ d u W he hc hdi hd hJ => swp_val (run_nilCheck (he.i hz (hJ.vals 0 (hd 0 (by kernel_rfl))) (j := 0) (d := 93) rfl (by decide))) (hJ.pure 1 rfl rfl)
              · exact KStep.plain rfl fun ρ d u W he hc hdi hd hJ => swp_val (run_fieldAddr (he.i hz (hJ.vals 1 (hd 1 (by kernel_rfl))) (j := 1) (d := 94) rfl (by decide)) (by go_simp)) (hJ.pure 2 rfl rfl)
              · exact KStep.plain rfl fun ρ d u W he hc hdi hd hJ => swp_val (run_load (he.i hz (hJ.vals 2 (hd 2 (by kernel_rfl))) (j := 2) (d := 95) rfl (by decide)) ((HSt.out.below (bwS_inv hJ)).ld)) (hJ.pure 3 rfl rfl)
              · exact KStep.plain rfl fun ρ d u W he hc hdi hd hJ => swp_val (run_load (he.o h14 rfl) (ld_pa (HPb.out.below (bwS_inv hJ)))) (hJ.pure 4 rfl rfl)
              · exact KStep.plain rfl fun ρ d u W he hc hdi hd hJ => swp_call (run_call #[.agg #[ptr t], .agg #[.int .i64 ((qk : Nat) : Int), .int .u64 ((qa : Nat) : Int), .int .u64 ((qb : Nat) : Int)]] (he.func _) (by kernel_rfl) (map2 (he.i hz (hJ.vals 3 (hd 3 (by kernel_rfl))) (j := 3) (d := 96) rfl (by decide)) (he.i hz (hJ.vals 4 (hd 4 (by kernel_rfl))) (j := 4) (d := 97) rfl (by decide)))) (HOp.out W (bwS_inv hJ)) (fun e W' h => ⟨_, h.1, hJ.go 0 rfl hdi (by decide) (fun j h => by omega) rfl ⟨Nat.le_refl 1, bstep (bwS_inv hJ) h.2⟩⟩)
              · exact KStep.plain rfl fun ρ d u W he hc hdi hd hJ => swp_val (run_move (he.i hz (hJ.vals 5 (hd 5 (by kernel_rfl))) (j := 5) (d := 98) rfl (by decide))) (hJ.pure 6 rfl rfl)
              · exact KStep.plain rfl fun ρ d u W he hc hdi hd hJ => swp_val (run_extract (he.i hz (hJ.vals 6 (hd 6 (by kernel_rfl))) (j := 6) (d := 92) rfl (by decide)) (tx0 _ _ W)) (hJ.pure 7 rfl rfl)
              · exact KStep.plain rfl fun ρ d u W he hc hdi hd hJ => swp_val (run_extract (he.i hz (hJ.vals 6 (hd 6 (by kernel_rfl))) (j := 6) (d := 92) rfl (by decide)) (tx1 _ _ W)) (hJ.pure 8 rfl rfl)
              · exact KStep.plain rfl fun ρ d u W he hc hdi hd hJ => swp_val (run_assign (he.i hz (hJ.vals 7 (hd 7 (by kernel_rfl))) (j := 7) (d := 99) rfl (by decide))) (hJ.pure 9 rfl rfl)
              · exact KStep.plain rfl fun ρ d u W he hc hdi hd hJ => swp_val (run_assign (he.i hz (hJ.vals 8 (hd 8 (by kernel_rfl))) (j := 8) (d := 100) rfl (by decide))) (hJ.pure 10 rfl rfl)
            · exact KStep.plain rfl fun ρ d u W he hc hdi hd hJ => swp_val (run_move (he.o h12 rfl)) (hJ.pure 0 rfl rfl)
            · exact KStep.plain rfl fun ρ d u W he hc hdi hd hJ => swp_val (run_nilCheck (he.i hz (hJ.vals 0 (hd 0 (by kernel_rfl))) (j := 0) (d := 85) rfl (by decide))) (hJ.pure 1 rfl rfl)
            · exact KStep.plain rfl fun ρ d u W he hc hdi hd hJ => swp_val (run_fieldAddr (he.i hz (hJ.vals 1 (hd 1 (by kernel_rfl))) (j := 1) (d := 86) rfl (by decide)) (by go_simp)) (hJ.pure 2 rfl rfl)
            · exact KStep.plain rfl fun ρ d u W he hc hdi hd hJ => swp_val (run_load (he.i hz (hJ.vals 2 (hd 2 (by kernel_rfl))) (j := 2) (d := 87) rfl (by decide)) ((HSt.out.below (hJ.olds2T 0 rfl (hc.notyet [3] (by kernel_rfl) rfl hdi) sgS_lt)).ld)) (hJ.pure 3 rfl rfl)
            · exact KStep.plain rfl fun ρ d u W he hc hdi hd hJ => swp_val (run_load (he.o h14 rfl) (ld_pa (HPb.out.below (hJ.olds2T 0 rfl (hc.notyet [4] (by kernel_rfl) rfl hdi) sgS_lt)))) (hJ.pure 4 rfl rfl)
            · exact KStep.plain rfl fun ρ d u W he hc hdi hd hJ => swp_val (run_move (he.o h3 rfl)) (hJ.pure 5 rfl rfl)
            · refine KStep.plain rfl fun ρ d u W he hc hdi hd hJ => ?_
              have hS : Below w11.drew.heap.size w11.drew W := hJ.at_ 0 rfl hdi (fun j h => by omega)
              exact swp_call (run_call #[.agg #[ptr t], .agg #[.int .i64 ((qk : Nat) : Int), .int .u64 ((qa : Nat) : Int), .int .u64 ((qb : Nat) : Int)], .string value] (he.func _) (by kernel_rfl) (map3 (he.i hz (hJ.vals 3 (hd 3 (by kernel_rfl))) (j := 3) (d := 88) rfl (by decide)) (he.i hz (hJ.vals 4 (hd 4 (by kernel_rfl))) (j := 4) (d := 89) rfl (by decide)) (he.i hz (hJ.vals 5 (hd 5 (by kernel_rfl))) (j := 5) (d := 90) rfl (by decide)))) (HOp.out W hS) (fun e W' h => ⟨_, h.1, hJ.go 0 rfl hdi (by decide) (fun j h => by omega) rfl h.2⟩)
            · exact KStep.plain rfl fun ρ d u W he hc hdi hd hJ => swp_val (run_assign (he.i hz (hJ.vals 6 (hd 6 (by kernel_rfl))) (j := 6) (d := 91) rfl (by decide))) (hJ.pure 7 rfl rfl)
        · exact KStep.plain rfl fun ρ d u W he hc hdi hd hJ => swp_val (run_move (he.o h12 rfl)) (hJ.pure 0 rfl rfl)
        · exact KStep.plain rfl fun ρ d u W he hc hdi hd hJ => swp_val (run_nilCheck (he.i hz (hJ.vals 0 (hd 0 (by kernel_rfl))) (j := 0) (d := 63) rfl (by decide))) (hJ.pure 1 rfl rfl)
        · exact KStep.plain rfl fun ρ d u W he hc hdi hd hJ => swp_val (run_fieldAddr (he.i hz (hJ.vals 1 (hd 1 (by kernel_rfl))) (j := 1) (d := 64) rfl (by decide)) (by go_simp)) (hJ.pure 2 rfl rfl)
        · exact KStep.plain rfl fun ρ d u W he hc hdi hd hJ => swp_val (run_load (he.i hz (hJ.vals 2 (hd 2 (by kernel_rfl))) (j := 2) (d := 65) rfl (by decide)) ((HSt.out.below (bwS_inv hJ)).ld)) (hJ.pure 3 rfl rfl)
        · exact KStep.plain rfl fun ρ d u W he hc hdi hd hJ => swp_val (run_load (he.o h15 rfl) (ld_pa (HPb.out.below (bwS_inv hJ)))) (hJ.pure 4 rfl rfl)
        · exact KStep.plain rfl fun ρ d u W he hc hdi hd hJ => swp_call (run_call #[.agg #[ptr t], .agg #[.int .i64 ((ek : Nat) : Int), .int .u64 ((ea : Nat) : Int), .int .u64 ((eb : Nat) : Int)]] (he.func _) (by kernel_rfl) (map2 (he.i hz (hJ.vals 3 (hd 3 (by kernel_rfl))) (j := 3) (d := 66) rfl (by decide)) (he.i hz (hJ.vals 4 (hd 4 (by kernel_rfl))) (j := 4) (d := 67) rfl (by decide)))) (HOp.out W (bwS_inv hJ)) (fun e W' h => ⟨_, h.1, hJ.go 0 rfl hdi (by decide) (fun j h => by omega) rfl ⟨Nat.le_refl 1, bstep (bwS_inv hJ) h.2⟩⟩)
        · exact KStep.plain rfl fun ρ d u W he hc hdi hd hJ => swp_val (run_move (he.i hz (hJ.vals 5 (hd 5 (by kernel_rfl))) (j := 5) (d := 68) rfl (by decide))) (hJ.pure 6 rfl rfl)
        · exact KStep.plain rfl fun ρ d u W he hc hdi hd hJ => swp_val (run_extract (he.i hz (hJ.vals 6 (hd 6 (by kernel_rfl))) (j := 6) (d := 62) rfl (by decide)) (tx0 _ _ W)) (hJ.pure 7 rfl rfl)
        · exact KStep.plain rfl fun ρ d u W he hc hdi hd hJ => swp_val (run_extract (he.i hz (hJ.vals 6 (hd 6 (by kernel_rfl))) (j := 6) (d := 62) rfl (by decide)) (tx1 _ _ W)) (hJ.pure 8 rfl rfl)
        · exact KStep.plain rfl fun ρ d u W he hc hdi hd hJ => swp_val (run_assign (he.i hz (hJ.vals 7 (hd 7 (by kernel_rfl))) (j := 7) (d := 69) rfl (by decide))) (hJ.pure 9 rfl rfl)
        · exact KStep.plain rfl fun ρ d u W he hc hdi hd hJ => swp_val (run_assign (he.i hz (hJ.vals 8 (hd 8 (by kernel_rfl))) (j := 8) (d := 70) rfl (by decide))) (hJ.pure 10 rfl rfl)
end Go.Proofs.YtichklplcpkjdaaDoor
