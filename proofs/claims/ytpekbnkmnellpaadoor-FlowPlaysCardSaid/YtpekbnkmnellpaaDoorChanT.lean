/-
  The walk of channel's Take.
-/
import Derived.Test.YtpekbnkmnellpaaDoorChanM
namespace Go.Proofs.YtpekbnkmnellpaaDoor
open Go.RowKit
set_option linter.unusedVariables false

theorem RS.text_le (r : RS) (most : Nat) : (r.text most).rest.size ≤ r.rest.size := by
  unfold RS.text
  split
  · exact r.cut_le 4
  · exact Nat.le_trans ((r.marked most).cut_le _) (r.cut_le 4)
def tk0 (s : ByteArray) : RS := ⟨s, false⟩
def tk1 (s : ByteArray) : RS := (tk0 s).cut 8
def tk2 (s : ByteArray) : RS := (tk1 s).cut 8
def tk3 (s : ByteArray) : RS := (tk2 s).cut 8
def tk4 (s : ByteArray) : RS := (tk3 s).cut 8
def tk5 (s : ByteArray) : RS := (tk4 s).text 16
def tk6 (s : ByteArray) : RS := (tk5 s).text 16
/-- what Take reads, right or not -/
def takeRaw (s : ByteArray) : Ch := ⟨min ((tk0 s).numV : Int) 5, ((tk1 s).numV : Int) == 1, (tk2 s).numV, (tk3 s).numV, (tk4 s).textV 16, (tk5 s).textV 16⟩
def Ch.zero : Ch := ⟨0, false, 0, 0, ⟨#[]⟩, ⟨#[]⟩⟩
def takeB (s : ByteArray) : Bool := (tk6 s).endB && decide ((tk1 s).numV ≤ 1) && (takeRaw s).rightB
def takeC (s : ByteArray) : Ch := if takeB s then takeRaw s else Ch.zero
def takeE (s : ByteArray) : Int := if takeB s then 0 else 181
/-- the middle of Take -/
structure TkS (w : World) (N g : Nat) (cs : Array Value) (r : RS) (W : World) : Prop where
  blk : Blk W N 57 cs
  rd : Rd W g r.rest r.bad
  bel : Below w.heap.size w W
  n : w.heap.size ≤ N
  ng : N < g
section
variable {w : World} {N g : Nat} {cs : Array Value} {r r' : RS} {W W' : World}
theorem TkS.step (h : TkS w N g cs r W) (hr : Rd W' g r'.rest r'.bad) (ho : Only [g] W W') : TkS w N g cs r' W' :=
  ⟨h.blk.only ho (by have := h.ng; simp; omega), hr, h.bel.trans (ho.below (by have := h.n; have := h.ng; simp; omega) h.bel.size), h.n, h.ng⟩
theorem TkS.store (h : TkS w N g cs r W) (i : Nat) (u : Value) : TkS w N g (cs.setIfInBounds i u) r (W.setCell ⟨N, i, none⟩ u) :=
  ⟨h.blk.set_ i u, Blk.other h.rd N i u (by have := h.ng; omega), h.bel.setCell (p := ⟨N, i, none⟩) h.n u, h.n, h.ng⟩
theorem TkS.below (h : TkS w N g cs r W) (hb : Below W.heap.size W W') : TkS w N g cs r W' := ⟨h.blk.below hb, Blk.below h.rd hb, bstep h.bel hb, h.n, h.ng⟩
end
theorem RS.numV_le (r : RS) : r.numV ≤ 18446744073709551615 := by
  unfold RS.numV
  split
  · omega
  · have h1 := valF_lt (r.rest.extract 0 8).data.toList
    rw [len_data] at h1
    have h2 := ext_size r.rest 8
    have h3 : (256 : Nat) ^ (r.rest.extract 0 8).size ≤ 256 ^ 8 := Nat.pow_le_pow_right (by omega) h2
    omega
theorem RS.cutV_le (r : RS) (n : Nat) : (r.cutV n).size ≤ r.rest.size := by
  unfold RS.cutV
  split
  · exact Nat.zero_le _
  · rw [ByteArray.size_extract]; omega
theorem RS.textV_le (r : RS) (n : Nat) : (r.textV n).size ≤ n := by
  unfold RS.textV
  split
  · exact Nat.zero_le _
  · unfold RS.cutV
    split
    · exact Nat.zero_le _
    · rename_i h
      have h1 : r.textN ≤ n := by
        have h2 : (r.marked n).bad = false := by
          cases hb : (r.marked n).bad with
          | false => rfl
          | true => exact absurd (by unfold RS.cutBad; rw [hb]; rfl) h
        have h3 : decide (n < r.textN) = false := h2
        simpa using h3
      exact Nat.le_trans (ext_size _ _) h1
theorem takeRaw_ok (s : ByteArray) : (takeRaw s).ok := by
  have e1 := (tk2 s).numV_le
  have e2 := (tk3 s).numV_le
  refine ⟨⟨?_, ?_⟩, ⟨?_, ?_⟩, ⟨?_, ?_⟩, ?_, ?_⟩
  · show -9223372036854775808 ≤ min ((tk0 s).numV : Int) 5; omega
  · show min ((tk0 s).numV : Int) 5 ≤ 9223372036854775807; omega
  · show 0 ≤ ((tk2 s).numV : Int); omega
  · show ((tk2 s).numV : Int) ≤ _; omega
  · show 0 ≤ ((tk3 s).numV : Int); omega
  · show ((tk3 s).numV : Int) ≤ _; omega
  · exact Nat.le_trans (RS.textV_le _ _) (by omega)
  · exact Nat.le_trans (RS.textV_le _ _) (by omega)
set_option maxRecDepth 100000 in
set_option maxHeartbeats 1000000 in
theorem take_is (s : ByteArray) (w : World) (hs : s.size ≤ 140737488355328) :
    Calls Tryd.prog 49 #[.string s] w fun e w' => e = .returned (.tuple #[(takeC s).v, .int .i64 (takeE s)]) ∧ Below w.heap.size w w' := by
  have HRt : Hid (∀ W, Calls Tryd.prog 79 #[.agg #[.int .i64 (min ((tk0 s).numV : Int) 5), .bool (((tk1 s).numV : Int) == 1), .int .u64 (tk2 s).numV, .int .u64 (tk3 s).numV, .string ((tk4 s).textV 16), .string ((tk5 s).textV 16)]] W fun e w' => e = .returned (.bool (takeRaw s).rightB) ∧ Below W.heap.size W w') := Lib.hid (fun W => cright_is (takeRaw s) W (takeRaw_ok s))
  have k1 : (tk1 s).rest.size ≤ s.size := RS.cut_le _ _
  have k2 : (tk2 s).rest.size ≤ s.size := Nat.le_trans (RS.cut_le _ _) k1
  have k3 : (tk3 s).rest.size ≤ s.size := Nat.le_trans (RS.cut_le _ _) k2
  have k4 : (tk4 s).rest.size ≤ s.size := Nat.le_trans (RS.cut_le _ _) k3
  have k5 : (tk5 s).rest.size ≤ s.size := Nat.le_trans (RS.text_le _ _) k4
  have n0 := (tk0 s).numV_le
  have n1 := (tk1 s).numV_le
  have HC : Hid (takeC s = if takeB s then ⟨min ((tk0 s).numV : Int) 5, ((tk1 s).numV : Int) == 1, (tk2 s).numV, (tk3 s).numV, (tk4 s).textV 16, (tk5 s).textV 16⟩ else Ch.zero) := Lib.hid rfl
  have HEe : Hid (takeE s = if takeB s then 0 else 181) := Lib.hid rfl
  have HB : Hid (takeB s = ((tk6 s).endB && decide ((tk1 s).numV ≤ 1) && (takeRaw s).rightB)) := Lib.hid rfl
  go_enter Tryd.func49, Tryd.ntmps49
  go_wp2_with fail
  have hB := Blk.new w 57 #[.int .i64 0, .bool false, .int .u64 0, .int .u64 0, .string ⟨#[]⟩, .string ⟨#[]⟩]
  have hL := balloc (Below.refl _ w) (.cells #[.int .i64 0, .bool false, .int .u64 0, .int .u64 0, .string ⟨#[]⟩, .string ⟨#[]⟩] 57)
  generalize w.alloc (.cells #[.int .i64 0, .bool false, .int .u64 0, .int .u64 0, .string ⟨#[]⟩, .string ⟨#[]⟩] 57) = w1 at hB hL ⊢
  refine (newreader_is s w1).mono ?_
  rintro e w2 ⟨rfl, rfl⟩
  have HS0 : Hid (TkS w w.heap.size w1.heap.size #[.int .i64 0, .bool false, .int .u64 0, .int .u64 0, .string ⟨#[]⟩, .string ⟨#[]⟩] (tk0 s) (w1.alloc (.cells #[.string s, .bool false] 130))) := Lib.hid ⟨hB.alloc _, Blk.new w1 _ _, balloc hL _, Nat.le_refl _, hB.lt⟩
  clear hB hL
  generalize w1.alloc (.cells #[.string s, .bool false] 130) = w2 at HS0 ⊢
  generalize w1.heap.size = g at HS0 ⊢
  go_wp2_with fail
  refine (cnum_is w2 g (tk0 s) HS0.out.rd (by show s.size ≤ _; omega)).mono ?_
  rintro e w3 ⟨rfl, hr3, ho3⟩
  have HS1 := Lib.hid (HS0.out.step (r' := tk1 s) hr3 ho3)
  clear hr3 ho3 HS0
  go_wp2_with fail
  refine (cnum_is w3 g (tk1 s) HS1.out.rd (by omega)).mono ?_
  rintro e w4 ⟨rfl, hr4, ho4⟩
  have HS2 := Lib.hid (HS1.out.step (r' := tk2 s) hr4 ho4)
  clear hr4 ho4 HS1
  go_wp2_with fail
  refine (cnum_is w4 g (tk2 s) HS2.out.rd (by omega)).mono ?_
  rintro e w5 ⟨rfl, hr5, ho5⟩
  have HS3 := Lib.hid (HS2.out.step (r' := tk3 s) hr5 ho5)
  clear hr5 ho5 HS2
  go_wp2_with fail
  refine (cnum_is w5 g (tk3 s) HS3.out.rd (by omega)).mono ?_
  rintro e w6 ⟨rfl, hr6, ho6⟩
  have HS4 := Lib.hid (HS3.out.step (r' := tk4 s) hr6 ho6)
  clear hr6 ho6 HS3
  generalize (tk0 s).numV = st at n0 HC HRt ⊢
  generalize (tk1 s).numV = od at n1 HC HRt HB ⊢
  generalize (tk2 s).numV = lk at HC HRt ⊢
  generalize (tk3 s).numV = pr at HC HRt ⊢
  have d2 : w6.cell? ⟨w.heap.size, 2, none⟩ = some (.int .u64 0) := HS4.out.blk.cell 2
  have d3 : w6.cell? ⟨w.heap.size, 3, none⟩ = some (.int .u64 0) := HS4.out.blk.cell 3
  have f2 := HS4.out.blk.frozen 2
  have f3 := HS4.out.blk.frozen 3
  go_upto_region 4 with fail
  have HS5 := Lib.hid ((HS4.out.store 2 (.int .u64 lk)).store 3 (.int .u64 pr))
  clear d2 d3 f2 f3 HS4
  generalize (w6.setCell ⟨w.heap.size, 2, none⟩ (.int .u64 lk)).setCell ⟨w.heap.size, 3, none⟩ (.int .u64 pr) = w7 at HS5 ⊢
  go_wp2_with fail
  have ht1 : Calls Tryd.prog 83 #[.pointer (some ⟨g, 0, none⟩), .int .i64 16] w7 _ := ctext_is w7 g (tk4 s) 16 HS5.out.rd (by omega) (by omega)
  refine ht1.mono ?_
  clear ht1
  rintro e w8 ⟨rfl, hr8, ho8⟩
  have HS6 := Lib.hid (HS5.out.step (r' := tk5 s) hr8 ho8)
  clear hr8 ho8 HS5
  have ht2 : Calls Tryd.prog 83 #[.pointer (some ⟨g, 0, none⟩), .int .i64 16] w8 _ := ctext_is w8 g (tk5 s) 16 HS6.out.rd (by omega) (by omega)
  have HT2 := Lib.hid ht2
  clear ht2
  go_wp2_with fail
  refine HT2.out.mono ?_
  clear HT2
  rintro e w9 ⟨rfl, hr9, ho9⟩
  have HS7 := Lib.hid (HS6.out.step (r' := tk6 s) hr9 ho9)
  clear hr9 ho9 HS6
  generalize (tk4 s).textV 16 = p at HC HRt ⊢
  generalize (tk5 s).textV 16 = q at HC HRt ⊢
  have d0 : w9.cell? ⟨w.heap.size, 0, none⟩ = some (.int .i64 0) := HS7.out.blk.cell 0
  have d1 : w9.cell? ⟨w.heap.size, 1, none⟩ = some (.bool false) := HS7.out.blk.cell 1
  have d4 : w9.cell? ⟨w.heap.size, 4, none⟩ = some (.string ⟨#[]⟩) := HS7.out.blk.cell 4
  have d5 : w9.cell? ⟨w.heap.size, 5, none⟩ = some (.string ⟨#[]⟩) := HS7.out.blk.cell 5
  have f0 := HS7.out.blk.frozen 0
  have f1 := HS7.out.blk.frozen 1
  have f4 := HS7.out.blk.frozen 4
  have f5 := HS7.out.blk.frozen 5
  go_upto_region 6 with fail
  have HS8 : Hid (TkS w w.heap.size g #[.int .i64 (min (st : Int) 5), .bool ((od : Int) == 1), .int .u64 lk, .int .u64 pr, .string p, .string q] (tk6 s) ((((w9.setCell ⟨w.heap.size, 4, none⟩ (.string p)).setCell ⟨w.heap.size, 5, none⟩ (.string q)).setCell ⟨w.heap.size, 0, none⟩ (.int .i64 (min (st : Int) 5))).setCell ⟨w.heap.size, 1, none⟩ (.bool ((od : Int) == 1)))) := Lib.hid ((((HS7.out.store 4 _).store 5 _).store 0 _).store 1 _)
  clear d0 d1 d4 d5 f0 f1 f4 f5 HS7
  generalize (((w9.setCell ⟨w.heap.size, 4, none⟩ (.string p)).setCell ⟨w.heap.size, 5, none⟩ (.string q)).setCell ⟨w.heap.size, 0, none⟩ (.int .i64 (min (st : Int) 5))).setCell ⟨w.heap.size, 1, none⟩ (.bool ((od : Int) == 1)) = w10 at HS8 ⊢
  go_wp2_with fail
  refine (cend_is w10 g (tk6 s) HS8.out.rd).mono ?_
  rintro e w10' ⟨rfl, rfl⟩
  cases he : (tk6 s).endB with
  | false =>
    have HTB : Hid (takeB s = false) := Lib.hid (by rw [HB.out, he]; rfl)
    clear he
    have d0 : w10.cell? ⟨w.heap.size, 0, none⟩ = some (.int .i64 (min (st : Int) 5)) := HS8.out.blk.cell 0
    have d1 : w10.cell? ⟨w.heap.size, 1, none⟩ = some (.bool ((od : Int) == 1)) := HS8.out.blk.cell 1
    have d2 : w10.cell? ⟨w.heap.size, 2, none⟩ = some (.int .u64 lk) := HS8.out.blk.cell 2
    have d3 : w10.cell? ⟨w.heap.size, 3, none⟩ = some (.int .u64 pr) := HS8.out.blk.cell 3
    have d4 : w10.cell? ⟨w.heap.size, 4, none⟩ = some (.string p) := HS8.out.blk.cell 4
    have d5 : w10.cell? ⟨w.heap.size, 5, none⟩ = some (.string q) := HS8.out.blk.cell 5
    have f0 := HS8.out.blk.frozen 0
    have f1 := HS8.out.blk.frozen 1
    have f2 := HS8.out.blk.frozen 2
    have f3 := HS8.out.blk.frozen 3
    have f4 := HS8.out.blk.frozen 4
    have f5 := HS8.out.blk.frozen 5
    go_wp2_with fail
    have HZ : Hid (TkS w w.heap.size g #[.int .i64 0, .bool false, .int .u64 0, .int .u64 0, .string ⟨#[]⟩, .string ⟨#[]⟩] (tk6 s) ((((((w10.setCell ⟨w.heap.size, 0, none⟩ (.int .i64 0)).setCell ⟨w.heap.size, 1, none⟩ (.bool false)).setCell ⟨w.heap.size, 2, none⟩ (.int .u64 0)).setCell ⟨w.heap.size, 3, none⟩ (.int .u64 0)).setCell ⟨w.heap.size, 4, none⟩ (.string ⟨#[]⟩)).setCell ⟨w.heap.size, 5, none⟩ (.string ⟨#[]⟩))) := Lib.hid ((((((HS8.out.store 0 _).store 1 _).store 2 _).store 3 _).store 4 _).store 5 _)
    clear d0 d1 d2 d3 d4 d5 f0 f1 f2 f3 f4 f5
    generalize ((((((w10.setCell ⟨w.heap.size, 0, none⟩ (.int .i64 0)).setCell ⟨w.heap.size, 1, none⟩ (.bool false)).setCell ⟨w.heap.size, 2, none⟩ (.int .u64 0)).setCell ⟨w.heap.size, 3, none⟩ (.int .u64 0)).setCell ⟨w.heap.size, 4, none⟩ (.string ⟨#[]⟩)).setCell ⟨w.heap.size, 5, none⟩ (.string ⟨#[]⟩)) = wz at HZ ⊢
    have z0 : wz.cell? ⟨w.heap.size, 0, none⟩ = some (.int .i64 0) := HZ.out.blk.cell 0
    have z1 : wz.cell? ⟨w.heap.size, 1, none⟩ = some (.bool false) := HZ.out.blk.cell 1
    have z2 : wz.cell? ⟨w.heap.size, 2, none⟩ = some (.int .u64 0) := HZ.out.blk.cell 2
    have z3 : wz.cell? ⟨w.heap.size, 3, none⟩ = some (.int .u64 0) := HZ.out.blk.cell 3
    have z4 : wz.cell? ⟨w.heap.size, 4, none⟩ = some (.string ⟨#[]⟩) := HZ.out.blk.cell 4
    have z5 : wz.cell? ⟨w.heap.size, 5, none⟩ = some (.string ⟨#[]⟩) := HZ.out.blk.cell 5
    refine bodyPost_ret (v := .tuple #[.agg #[.int .i64 0, .bool false, .int .u64 0, .int .u64 0, .string ⟨#[]⟩, .string ⟨#[]⟩], .int .i64 181]) (by simp [results, Tryd.results49, go_sem, z0, z1, z2, z3, z4, z5]) rfl ⟨?_, HZ.out.bel⟩
    rw [HC.out, HEe.out, HTB.out]
    rfl
  | true =>
    by_cases ho : od ≤ 1
    · have hi : ¬ (1 : Int) < (od : Int) := by omega
      have hr := HRt.out w10
      have HR := Lib.hid hr
      clear hr HRt
      cases hrb : (takeRaw s).rightB with
      | false =>
        have HTB : Hid (takeB s = false) := Lib.hid (by rw [HB.out, hrb]; simp)
        rw [hrb] at HR
        clear he hrb
        have d0 : w10.cell? ⟨w.heap.size, 0, none⟩ = some (.int .i64 (min (st : Int) 5)) := HS8.out.blk.cell 0
        have d1 : w10.cell? ⟨w.heap.size, 1, none⟩ = some (.bool ((od : Int) == 1)) := HS8.out.blk.cell 1
        have d2 : w10.cell? ⟨w.heap.size, 2, none⟩ = some (.int .u64 lk) := HS8.out.blk.cell 2
        have d3 : w10.cell? ⟨w.heap.size, 3, none⟩ = some (.int .u64 pr) := HS8.out.blk.cell 3
        have d4 : w10.cell? ⟨w.heap.size, 4, none⟩ = some (.string p) := HS8.out.blk.cell 4
        have d5 : w10.cell? ⟨w.heap.size, 5, none⟩ = some (.string q) := HS8.out.blk.cell 5
        go_wp2_with fail
        refine HR.out.mono ?_
        rintro e w11 ⟨rfl, hb11⟩
        have HS9 := Lib.hid (HS8.out.below hb11)
        clear hb11 d0 d1 d2 d3 d4 d5 HS8 HR
        have d0 : w11.cell? ⟨w.heap.size, 0, none⟩ = some (.int .i64 (min (st : Int) 5)) := HS9.out.blk.cell 0
        have d1 : w11.cell? ⟨w.heap.size, 1, none⟩ = some (.bool ((od : Int) == 1)) := HS9.out.blk.cell 1
        have d2 : w11.cell? ⟨w.heap.size, 2, none⟩ = some (.int .u64 lk) := HS9.out.blk.cell 2
        have d3 : w11.cell? ⟨w.heap.size, 3, none⟩ = some (.int .u64 pr) := HS9.out.blk.cell 3
        have d4 : w11.cell? ⟨w.heap.size, 4, none⟩ = some (.string p) := HS9.out.blk.cell 4
        have d5 : w11.cell? ⟨w.heap.size, 5, none⟩ = some (.string q) := HS9.out.blk.cell 5
        have f0 := HS9.out.blk.frozen 0
        have f1 := HS9.out.blk.frozen 1
        have f2 := HS9.out.blk.frozen 2
        have f3 := HS9.out.blk.frozen 3
        have f4 := HS9.out.blk.frozen 4
        have f5 := HS9.out.blk.frozen 5
        go_wp2_with fail
        have HZ : Hid (TkS w w.heap.size g #[.int .i64 0, .bool false, .int .u64 0, .int .u64 0, .string ⟨#[]⟩, .string ⟨#[]⟩] (tk6 s) ((((((w11.setCell ⟨w.heap.size, 0, none⟩ (.int .i64 0)).setCell ⟨w.heap.size, 1, none⟩ (.bool false)).setCell ⟨w.heap.size, 2, none⟩ (.int .u64 0)).setCell ⟨w.heap.size, 3, none⟩ (.int .u64 0)).setCell ⟨w.heap.size, 4, none⟩ (.string ⟨#[]⟩)).setCell ⟨w.heap.size, 5, none⟩ (.string ⟨#[]⟩))) := Lib.hid ((((((HS9.out.store 0 _).store 1 _).store 2 _).store 3 _).store 4 _).store 5 _)
        clear d0 d1 d2 d3 d4 d5 f0 f1 f2 f3 f4 f5
        generalize ((((((w11.setCell ⟨w.heap.size, 0, none⟩ (.int .i64 0)).setCell ⟨w.heap.size, 1, none⟩ (.bool false)).setCell ⟨w.heap.size, 2, none⟩ (.int .u64 0)).setCell ⟨w.heap.size, 3, none⟩ (.int .u64 0)).setCell ⟨w.heap.size, 4, none⟩ (.string ⟨#[]⟩)).setCell ⟨w.heap.size, 5, none⟩ (.string ⟨#[]⟩)) = wz at HZ ⊢
        have z0 : wz.cell? ⟨w.heap.size, 0, none⟩ = some (.int .i64 0) := HZ.out.blk.cell 0
        have z1 : wz.cell? ⟨w.heap.size, 1, none⟩ = some (.bool false) := HZ.out.blk.cell 1
        have z2 : wz.cell? ⟨w.heap.size, 2, none⟩ = some (.int .u64 0) := HZ.out.blk.cell 2
        have z3 : wz.cell? ⟨w.heap.size, 3, none⟩ = some (.int .u64 0) := HZ.out.blk.cell 3
        have z4 : wz.cell? ⟨w.heap.size, 4, none⟩ = some (.string ⟨#[]⟩) := HZ.out.blk.cell 4
        have z5 : wz.cell? ⟨w.heap.size, 5, none⟩ = some (.string ⟨#[]⟩) := HZ.out.blk.cell 5
        refine bodyPost_ret (v := .tuple #[.agg #[.int .i64 0, .bool false, .int .u64 0, .int .u64 0, .string ⟨#[]⟩, .string ⟨#[]⟩], .int .i64 181]) (by simp [results, Tryd.results49, go_sem, z0, z1, z2, z3, z4, z5]) rfl ⟨?_, HZ.out.bel⟩
        rw [HC.out, HEe.out, HTB.out]
        rfl
      | true =>
        have HTB : Hid (takeB s = true) := Lib.hid (by rw [HB.out, hrb, he]; simp [ho])
        rw [hrb] at HR
        clear he hrb
        have d0 : w10.cell? ⟨w.heap.size, 0, none⟩ = some (.int .i64 (min (st : Int) 5)) := HS8.out.blk.cell 0
        have d1 : w10.cell? ⟨w.heap.size, 1, none⟩ = some (.bool ((od : Int) == 1)) := HS8.out.blk.cell 1
        have d2 : w10.cell? ⟨w.heap.size, 2, none⟩ = some (.int .u64 lk) := HS8.out.blk.cell 2
        have d3 : w10.cell? ⟨w.heap.size, 3, none⟩ = some (.int .u64 pr) := HS8.out.blk.cell 3
        have d4 : w10.cell? ⟨w.heap.size, 4, none⟩ = some (.string p) := HS8.out.blk.cell 4
        have d5 : w10.cell? ⟨w.heap.size, 5, none⟩ = some (.string q) := HS8.out.blk.cell 5
        go_wp2_with fail
        refine HR.out.mono ?_
        rintro e w11 ⟨rfl, hb11⟩
        have HS9 := Lib.hid (HS8.out.below hb11)
        clear hb11 d0 d1 d2 d3 d4 d5 HS8 HR
        go_wp2_with fail
        have z0 : w11.cell? ⟨w.heap.size, 0, none⟩ = some (.int .i64 (min (st : Int) 5)) := HS9.out.blk.cell 0
        have z1 : w11.cell? ⟨w.heap.size, 1, none⟩ = some (.bool ((od : Int) == 1)) := HS9.out.blk.cell 1
        have z2 : w11.cell? ⟨w.heap.size, 2, none⟩ = some (.int .u64 lk) := HS9.out.blk.cell 2
        have z3 : w11.cell? ⟨w.heap.size, 3, none⟩ = some (.int .u64 pr) := HS9.out.blk.cell 3
        have z4 : w11.cell? ⟨w.heap.size, 4, none⟩ = some (.string p) := HS9.out.blk.cell 4
        have z5 : w11.cell? ⟨w.heap.size, 5, none⟩ = some (.string q) := HS9.out.blk.cell 5
        refine bodyPost_ret (v := .tuple #[.agg #[.int .i64 (min (st : Int) 5), .bool ((od : Int) == 1), .int .u64 lk, .int .u64 pr, .string p, .string q], .int .i64 0]) (by simp [results, Tryd.results49, go_sem, z0, z1, z2, z3, z4, z5]) rfl ⟨?_, HS9.out.bel⟩
        rw [HC.out, HEe.out, HTB.out]
        rfl
    · have hi : (1 : Int) < (od : Int) := by omega
      have HTB : Hid (takeB s = false) := Lib.hid (by rw [HB.out]; simp [ho])
      clear he
      have d0 : w10.cell? ⟨w.heap.size, 0, none⟩ = some (.int .i64 (min (st : Int) 5)) := HS8.out.blk.cell 0
      have d1 : w10.cell? ⟨w.heap.size, 1, none⟩ = some (.bool ((od : Int) == 1)) := HS8.out.blk.cell 1
      have d2 : w10.cell? ⟨w.heap.size, 2, none⟩ = some (.int .u64 lk) := HS8.out.blk.cell 2
      have d3 : w10.cell? ⟨w.heap.size, 3, none⟩ = some (.int .u64 pr) := HS8.out.blk.cell 3
      have d4 : w10.cell? ⟨w.heap.size, 4, none⟩ = some (.string p) := HS8.out.blk.cell 4
      have d5 : w10.cell? ⟨w.heap.size, 5, none⟩ = some (.string q) := HS8.out.blk.cell 5
      have f0 := HS8.out.blk.frozen 0
      have f1 := HS8.out.blk.frozen 1
      have f2 := HS8.out.blk.frozen 2
      have f3 := HS8.out.blk.frozen 3
      have f4 := HS8.out.blk.frozen 4
      have f5 := HS8.out.blk.frozen 5
      go_wp2_with fail
      have HZ : Hid (TkS w w.heap.size g #[.int .i64 0, .bool false, .int .u64 0, .int .u64 0, .string ⟨#[]⟩, .string ⟨#[]⟩] (tk6 s) ((((((w10.setCell ⟨w.heap.size, 0, none⟩ (.int .i64 0)).setCell ⟨w.heap.size, 1, none⟩ (.bool false)).setCell ⟨w.heap.size, 2, none⟩ (.int .u64 0)).setCell ⟨w.heap.size, 3, none⟩ (.int .u64 0)).setCell ⟨w.heap.size, 4, none⟩ (.string ⟨#[]⟩)).setCell ⟨w.heap.size, 5, none⟩ (.string ⟨#[]⟩))) := Lib.hid ((((((HS8.out.store 0 _).store 1 _).store 2 _).store 3 _).store 4 _).store 5 _)
      clear d0 d1 d2 d3 d4 d5 f0 f1 f2 f3 f4 f5
      generalize ((((((w10.setCell ⟨w.heap.size, 0, none⟩ (.int .i64 0)).setCell ⟨w.heap.size, 1, none⟩ (.bool false)).setCell ⟨w.heap.size, 2, none⟩ (.int .u64 0)).setCell ⟨w.heap.size, 3, none⟩ (.int .u64 0)).setCell ⟨w.heap.size, 4, none⟩ (.string ⟨#[]⟩)).setCell ⟨w.heap.size, 5, none⟩ (.string ⟨#[]⟩)) = wz at HZ ⊢
      have z0 : wz.cell? ⟨w.heap.size, 0, none⟩ = some (.int .i64 0) := HZ.out.blk.cell 0
      have z1 : wz.cell? ⟨w.heap.size, 1, none⟩ = some (.bool false) := HZ.out.blk.cell 1
      have z2 : wz.cell? ⟨w.heap.size, 2, none⟩ = some (.int .u64 0) := HZ.out.blk.cell 2
      have z3 : wz.cell? ⟨w.heap.size, 3, none⟩ = some (.int .u64 0) := HZ.out.blk.cell 3
      have z4 : wz.cell? ⟨w.heap.size, 4, none⟩ = some (.string ⟨#[]⟩) := HZ.out.blk.cell 4
      have z5 : wz.cell? ⟨w.heap.size, 5, none⟩ = some (.string ⟨#[]⟩) := HZ.out.blk.cell 5
      refine bodyPost_ret (v := .tuple #[.agg #[.int .i64 0, .bool false, .int .u64 0, .int .u64 0, .string ⟨#[]⟩, .string ⟨#[]⟩], .int .i64 181]) (by simp [results, Tryd.results49, go_sem, z0, z1, z2, z3, z4, z5]) rfl ⟨?_, HZ.out.bel⟩
      rw [HC.out, HEe.out, HTB.out]
      rfl
end Go.Proofs.YtpekbnkmnellpaaDoor
