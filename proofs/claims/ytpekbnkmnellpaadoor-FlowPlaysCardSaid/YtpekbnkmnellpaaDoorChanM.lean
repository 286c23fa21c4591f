/-
  The walk of channel's Lay.
-/
import Derived.Test.YtpekbnkmnellpaaDoorChanL
import Derived.Deep.DeepCutAuto
namespace Go.Proofs.YtpekbnkmnellpaaDoor
open Go.RowKit
set_option linter.unusedVariables false

def ordI (o : Bool) : Int := if o then 1 else 0
/-- an end as bytes -/
def Ch.layL (c : Ch) : List UInt8 := nB c.state 8 ++ numsL [ordI c.ordered, c.link, c.peer] ++ nB c.port.size 4 ++ c.port.data.toList ++ nB c.pport.size 4 ++ c.pport.data.toList
def Ch.layV (c : Ch) : ByteArray := if c.rightB then ⟨c.layL.toArray⟩ else ⟨#[]⟩
def Ch.layE (c : Ch) : Int := if c.rightB then 0 else 181
/-- the middle of Lay -/
structure LyS (c : Ch) (w : World) (N g : Nat) (l : List UInt8) (W : World) : Prop where
  wr : Wr W g g l
  blk : Blk W N 57 c.cs
  bel : Below w.heap.size w W
  n : w.heap.size ≤ N
  ng : N < g
theorem LyS.lt {c : Ch} {w : World} {N g : Nat} {l : List UInt8} {W : World} (h : LyS c w N g l W) : g ≤ W.heap.size := by
  obtain ⟨_, v, hb, _⟩ := h.wr
  exact Nat.le_of_lt hb.lt
theorem LyS.ltg {c : Ch} {w : World} {N g : Nat} {l : List UInt8} {W : World} (h : LyS c w N g l W) : g < W.heap.size := by
  obtain ⟨_, v, hb, _⟩ := h.wr
  exact hb.lt
theorem LyS.step {c : Ch} {w : World} {N g : Nat} {l l' : List UInt8} {W W' : World} (h : LyS c w N g l W) (hw : Wr W' g g l') (hl : Below g W W') (hk : Keeps g W W') : LyS c w N g l' W' :=
  ⟨hw, hk _ _ _ h.blk (by decide) (by have := h.ng; omega), h.bel.trans (hl.mono (by have := h.n; have := h.ng; omega)), h.n, h.ng⟩
theorem LyS.alloc {c : Ch} {w : World} {N g : Nat} {l : List UInt8} {W : World} (h : LyS c w N g l W) (o : Obj) : LyS c w N g l (W.alloc o) := ⟨h.wr.alloc o, h.blk.alloc o, balloc h.bel o, h.n, h.ng⟩
theorem three_get (a b c : Int) (j : Nat) (h : j < 3) : (#[Value.int .u64 a, .int .u64 b, .int .u64 c] : Array Value)[j]? = some (.int .u64 ([a, b, c].getD j 0)) := by
  have : j = 0 ∨ j = 1 ∨ j = 2 := by omega
  rcases this with rfl | rfl | rfl <;> rfl
theorem three_r (a b c : Int) (j : Nat) (ha : u64r a) (hb : u64r b) (hc : u64r c) : u64r ([a, b, c].getD j 0) := by
  match j with
  | 0 => exact ha
  | 1 => exact hb
  | 2 => exact hc
  | n + 3 => exact ⟨by simp, by simp⟩
def LayRel (c : Ch) (w : World) (N g k : Nat) (X : List UInt8) (nums : List Int) (cn : Nat) (i : Value) (wr : World) : Prop :=
  ∃ j : Nat, j ≤ 3 ∧ cn = 3 - j ∧ i = .int .i64 j ∧ LyS c w N g (X ++ numsL (nums.take j)) wr ∧ Blk wr k 22 #[.int .u64 (nums.getD 0 0), .int .u64 (nums.getD 1 0), .int .u64 (nums.getD 2 0)]
theorem ordI_r (o : Bool) : u64r (ordI o) := by cases o <;> exact ⟨by decide, by decide⟩
set_option maxRecDepth 100000 in
set_option maxHeartbeats 1000000 in
theorem chlay_is (c : Ch) (w : World) (hc : c.ok) :
    Calls Tryd.prog 48 #[c.v] w fun e w' => e = .returned (.tuple #[.string c.layV, .int .i64 c.layE]) ∧ Below w.heap.size w w' := by
  have HRt := Lib.hid (fun W => cright_is c W hc)
  obtain ⟨R, hR⟩ : ∃ R, c.rightB = R := ⟨_, rfl⟩
  have HV : Hid (c.layV = (if R then ⟨c.layL.toArray⟩ else ⟨#[]⟩) ∧ c.layE = if R then 0 else 181) := Lib.hid (by unfold Ch.layV Ch.layE; rw [hR]; exact ⟨rfl, rfl⟩)
  rw [hR] at HRt
  have HRb := Lib.hid hR
  clear hR
  obtain ⟨st, o, lk, pr, p, q⟩ := c
  have HC := Lib.hid hc
  clear hc
  show Calls Tryd.prog 48 #[.agg #[.int .i64 st, .bool o, .int .u64 lk, .int .u64 pr, .string p, .string q]] w _
  go_enter Tryd.func48, Tryd.ntmps48
  go_wp2_with fail
  have hB := Blk.new w 57 #[.int .i64 st, .bool o, .int .u64 lk, .int .u64 pr, .string p, .string q]
  have hL := balloc (Below.refl _ w) (.cells #[.int .i64 st, .bool o, .int .u64 lk, .int .u64 pr, .string p, .string q] 57)
  generalize w.alloc (.cells #[.int .i64 st, .bool o, .int .u64 lk, .int .u64 pr, .string p, .string q] 57) = w1 at hB hL ⊢
  have HB := Lib.hid hB
  have HL := Lib.hid hL
  clear hB hL
  have hr1 : Calls Tryd.prog 79 #[.agg #[.int .i64 st, .bool o, .int .u64 lk, .int .u64 pr, .string p, .string q]] w1 _ := HRt.out w1
  have HR1 := Lib.hid hr1
  clear hr1
  have c0 : w1.cell? ⟨w.heap.size, 0, none⟩ = some (.int .i64 st) := HB.out.cell 0
  have c1 : w1.cell? ⟨w.heap.size, 1, none⟩ = some (.bool o) := HB.out.cell 1
  have c2 : w1.cell? ⟨w.heap.size, 2, none⟩ = some (.int .u64 lk) := HB.out.cell 2
  have c3 : w1.cell? ⟨w.heap.size, 3, none⟩ = some (.int .u64 pr) := HB.out.cell 3
  have c4 : w1.cell? ⟨w.heap.size, 4, none⟩ = some (.string p) := HB.out.cell 4
  have c5 : w1.cell? ⟨w.heap.size, 5, none⟩ = some (.string q) := HB.out.cell 5
  go_wp2_with fail
  refine HR1.out.mono ?_
  rintro e w2 ⟨rfl, hb2⟩
  have HB2 := Lib.hid (HB.out.below hb2)
  have HL2 := Lib.hid (bstep HL.out hb2)
  clear hb2 c0 c1 c2 c3 c4 c5 HB HL HR1 HRt
  cases R with
  | false =>
    go_wp2_with fail
    go_ret2
    exact ⟨by rw [HV.out.1, HV.out.2]; rfl, HL2.out⟩
  | true =>
    have hrb := HRb.out
    simp only [Ch.rightB, Bool.and_eq_true, decide_eq_true_eq] at hrb
    obtain ⟨⟨⟨⟨hs1, hs4⟩, hp16⟩, hq16⟩, _⟩ := hrb
    clear HRb
    go_wp2_with fail
    refine (newwriter_is w2).mono ?_
    rintro e w3 ⟨rfl, rfl⟩
    have HS : Hid (LyS ⟨st, o, lk, pr, p, q⟩ w w.heap.size w2.heap.size [] (w2.alloc (.cells #[.slice none 0 0] 120))) := Lib.hid ⟨Wr.new w2, HB2.out.alloc _, balloc HL2.out _, Nat.le_refl _, HB2.out.lt⟩
    clear HB2 HL2
    generalize w2.alloc (.cells #[.slice none 0 0] 120) = w3 at HS ⊢
    generalize w2.heap.size = g at HS ⊢
    have c0 : w3.cell? ⟨w.heap.size, 0, none⟩ = some (.int .i64 st) := HS.out.blk.cell 0
    go_wp2_with fail
    refine (num_is w3 g g [] st HS.out.wr HS.out.lt (by simp) (by omega) (by omega)).mono ?_
    rintro e w4 ⟨rfl, hw4, hl4, hk4⟩
    rw [List.nil_append] at hw4
    have HS4 := Lib.hid (HS.out.step hw4 hl4 hk4)
    clear hw4 hl4 hk4 c0 HS
    have c1 : w4.cell? ⟨w.heap.size, 1, none⟩ = some (.bool o) := HS4.out.blk.cell 1
    have c2 : w4.cell? ⟨w.heap.size, 2, none⟩ = some (.int .u64 lk) := HS4.out.blk.cell 2
    have c3 : w4.cell? ⟨w.heap.size, 3, none⟩ = some (.int .u64 pr) := HS4.out.blk.cell 3
    have HI : Hid (LayRel ⟨st, o, lk, pr, p, q⟩ w w.heap.size g w4.heap.size (nB st 8) [ordI o, lk, pr] 3 (.int .i64 0) (w4.alloc (.cells #[.int .u64 (ordI o), .int .u64 lk, .int .u64 pr] 22))) :=
      Lib.hid ⟨0, by omega, rfl, rfl, by have := HS4.out.alloc (.cells #[.int .u64 (ordI o), .int .u64 lk, .int .u64 pr] 22); rw [List.take_zero]; show LyS _ _ _ _ (nB st 8 ++ []) _; rw [List.append_nil]; exact this, Blk.new w4 _ _⟩
    have hgk : g < w4.heap.size := HS4.out.ltg
    have HRs : Hid (u64r lk ∧ u64r pr) := Lib.hid ⟨HC.out.link, HC.out.peer⟩
    go_upto_if 18 with fail
    go_cut [5] (fun v wx => v = .int .u64 (ordI o) ∧ w4 = wx)
    case first =>
      cases o
      all_goals
        go_wp2_with fail
        go_meet
        case rel => exact ⟨rfl, rfl⟩
    case rest =>
      obtain ⟨rfl, rfl⟩ := hcut
      have HOr := ordI_r o
      have HOd : Hid (Ch.layL ⟨st, o, lk, pr, p, q⟩ = nB st 8 ++ numsL [ordI o, lk, pr] ++ nB p.size 4 ++ p.data.toList ++ nB q.size 4 ++ q.data.toList) := Lib.hid rfl
      generalize ordI o = od at HI HOr HOd ⊢
      go_wp2_with fail
      clear c1 c2 c3 HS4
      generalize w4.heap.size = k at HI hgk ⊢
      go_loopg [26] 3 (fun c i wr => LayRel ⟨st, o, lk, pr, p, q⟩ w w.heap.size g k (nB st 8) [od, lk, pr] c i wr)
      case atStart => exact HI.out
      case round =>
        clear HI
        obtain ⟨j, hj, hcn, rfl, hS, hk3⟩ := hrel
        have HCn := Lib.hid hcn
        have HS := Lib.hid hS
        have HK : Hid (Blk wr k 22 #[.int .u64 od, .int .u64 lk, .int .u64 pr]) := Lib.hid hk3
        clear hcn hS hk3
        by_cases h3 : j < 3
        · have cj := HK.out.cell j
          rw [three_get _ _ _ j h3] at cj
          have hr := three_r od lk pr j HOr HRs.out.1 HRs.out.2
          have HSn := Lib.hid (numsL_snoc [od, lk, pr] j h3)
          generalize [od, lk, pr].getD j 0 = n at cj hr HSn
          have hlen : (nB st 8 ++ numsL ([od, lk, pr].take j)).length + 8 ≤ 140737488355328 := by rw [List.length_append, nB_len, numsL_len, List.length_take]; omega
          go_wp2_with fail
          refine (num_is wr g g _ n HS.out.wr HS.out.lt hlen hr.1 hr.2).mono ?_
          rintro e w5 ⟨rfl, hw5, hl5, hk5⟩
          rw [List.append_assoc, ← HSn.out] at hw5
          have HR : Hid (LayRel ⟨st, o, lk, pr, p, q⟩ w w.heap.size g k (nB st 8) [od, lk, pr] (3 - (j + 1)) (.int .i64 ((j + 1 : Nat) : Int)) w5) := Lib.hid ⟨j + 1, by omega, rfl, rfl, HS.out.step hw5 hl5 hk5, hk5 _ _ _ HK.out (by decide) (by omega)⟩
          clear hw5 hl5 hk5
          go_wp2_with fail
          go_roundg (3 - (j + 1))
          case measure => rw [HCn.out]; omega
          case rel => exact HR.out
        · have h3' : j = 3 := by omega
          subst h3'
          have HW : Hid (LyS ⟨st, o, lk, pr, p, q⟩ w w.heap.size g (nB st 8 ++ numsL [od, lk, pr]) wr) := Lib.hid HS.out
          clear HS HK HCn h3 hj
          have c4 : wr.cell? ⟨w.heap.size, 4, none⟩ = some (.string p) := HW.out.blk.cell 4
          have HLn : Hid ((nB st 8 ++ numsL [od, lk, pr]).length = 32) := Lib.hid (by rw [List.length_append, nB_len, numsL_len]; rfl)
          go_wp2_with fail
          refine (text_is wr g g _ p HW.out.wr HW.out.lt (by rw [HLn.out]; omega)).mono ?_
          rintro e w5 ⟨rfl, hw5, hl5, hk5⟩
          have HW5 := Lib.hid (HW.out.step hw5 hl5 hk5)
          clear hw5 hl5 hk5 c4 HW
          have c5 : w5.cell? ⟨w.heap.size, 5, none⟩ = some (.string q) := HW5.out.blk.cell 5
          go_wp2_with fail
          refine (text_is w5 g g _ q HW5.out.wr HW5.out.lt (by rw [List.length_append, List.length_append, HLn.out, nB_len, len_data]; omega)).mono ?_
          rintro e w6 ⟨rfl, hw6, hl6, hk6⟩
          rw [← HOd.out] at hw6
          have HW6 := Lib.hid (HW5.out.step hw6 hl6 hk6)
          clear hw6 hl6 hk6 c5 HW5
          generalize Ch.layL ⟨st, o, lk, pr, p, q⟩ = X at HW6 HV
          go_wp2_with fail
          refine (bytes_is w6 g g X HW6.out.wr).mono ?_
          rintro e w7 ⟨rfl, rfl⟩
          go_wp2_with fail
          go_ret2
          exact ⟨by rw [HV.out.1, HV.out.2]; rfl, HW6.out.bel⟩
end Go.Proofs.YtpekbnkmnellpaaDoor
