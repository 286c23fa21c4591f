/-
  The walk of ChannelOpens (printed by gen_opens.py).
-/
import Derived.Test.YtpekbnkmnellpaaDoorChanB
import Derived.Test.YtpekbnkmnellpaaDoorAwakeW
namespace Go.Proofs.YtpekbnkmnellpaaDoor
open Go.RowKit
set_option linter.unusedVariables false

set_option maxRecDepth 100000 in
set_option maxHeartbeats 3000000 in
theorem opens_walk (o : Bool) (n0 n1 n2 n3 : Int) (port other : ByteArray) (hp : port.size ≤ maxLen) (hq : other.size ≤ maxLen) (w : World) (G : Glob w) :
    Calls Tryd.prog 6 #[.bool o, .agg #[.int .u64 n0, .int .u64 n1, .int .u64 n2, .int .u64 n3], .string port, .string other] w fun e w' => e = .returned (.bool true) ∧ Below w.heap.size w w' := by
  unfold maxLen at hp hq
  have HG := Lib.hid G
  clear G
  go_enter Tryd.func6, Tryd.ntmps6
  go_wp2_with fail
  have hN := Blk.new w 55 #[.int .u64 n0, .int .u64 n1, .int .u64 n2, .int .u64 n3]
  have hL := balloc (Below.refl _ w) (.cells #[.int .u64 n0, .int .u64 n1, .int .u64 n2, .int .u64 n3] 55)
  refine (awake_ok _ (HG.out.alloc _)).mono ?_
  rintro e w1 ⟨rfl, hb1⟩
  have HN := Lib.hid (hN.below hb1)
  have HL := Lib.hid (bstep hL hb1)
  clear hN hL hb1 HG
  generalize hNb : w.heap.size = NB at HN HL ⊢
  have HNb := Lib.hid hNb
  clear hNb
  go_upto_region 4 with fail
  generalize port.extract 0 (min (port.size : Int) 16).toNat = P
  generalize other.extract 0 (min (other.size : Int) 16).toNat = Q
  clear hp hq
  have N0 : w1.cell? ⟨NB, 0, none⟩ = some (.int .u64 n0) := HN.out.cell 0
  have N1 : w1.cell? ⟨NB, 1, none⟩ = some (.int .u64 n1) := HN.out.cell 1
  have N2 : w1.cell? ⟨NB, 2, none⟩ = some (.int .u64 n2) := HN.out.cell 2
  have N3 : w1.cell? ⟨NB, 3, none⟩ = some (.int .u64 n3) := HN.out.cell 3
  go_wp2_with fail
  refine (init_is o n0 P Q _).mono ?_
  rintro e w2 ⟨rfl, hb2⟩
  have hLx := HL.out.trans (hb2.mono (by have := HN.out.lt; omega))
  have hNx := HN.out.below hb2
  clear hb2 HL HN
  clear N0 N1 N2 N3
  have l2 : NB < w2.heap.size := hNx.lt
  have hLy := (hLx.alloc (by have := hNx.lt; omega) (.cells #[.int .i64 1, .bool o, .int .u64 n0, .int .u64 0, .string P, .string Q] 57))
  have hNy := (hNx.alloc (.cells #[.int .i64 1, .bool o, .int .u64 n0, .int .u64 0, .string P, .string Q] 57))
  have hay := (Blk.new w2 57 #[.int .i64 1, .bool o, .int .u64 n0, .int .u64 0, .string P, .string Q])
  clear hLx hNx
  have HL := Lib.hid hLy
  clear hLy
  have HN := Lib.hid hNy
  clear hNy
  have Ha := Lib.hid hay
  clear hay
  go_upto_region 5 with fail
  generalize (w2.alloc (.cells #[.int .i64 1, .bool o, .int .u64 n0, .int .u64 0, .string P, .string Q] 57)) = v2 at HL HN Ha ⊢
  generalize w2.heap.size = aB at l2 Ha ⊢
  have N0 : v2.cell? ⟨NB, 0, none⟩ = some (.int .u64 n0) := HN.out.cell 0
  have N1 : v2.cell? ⟨NB, 1, none⟩ = some (.int .u64 n1) := HN.out.cell 1
  have N2 : v2.cell? ⟨NB, 2, none⟩ = some (.int .u64 n2) := HN.out.cell 2
  have N3 : v2.cell? ⟨NB, 3, none⟩ = some (.int .u64 n3) := HN.out.cell 3
  go_wp2_with fail
  refine (try_is o n1 n0 Q P n2 _).mono ?_
  rintro e w3 ⟨rfl, hb3⟩
  have hLx := HL.out.trans (hb3.mono (by have := HN.out.lt; omega))
  have hNx := HN.out.below hb3
  have hax := Ha.out.below hb3
  clear hb3 HL HN Ha
  clear N0 N1 N2 N3
  have l3 : aB < w3.heap.size := hax.lt
  have hLy := ((hLx.alloc (by have := hNx.lt; omega) (.cells #[.int .i64 2, .bool o, .int .u64 n1, .int .u64 n2, .string Q, .string P] 57)).alloc (by have := hNx.lt; simp; omega) (.cells #[.int .i64 1, .bool o, .int .u64 n0, .int .u64 0, .string P, .string Q] 57))
  have hNy := ((hNx.alloc (.cells #[.int .i64 2, .bool o, .int .u64 n1, .int .u64 n2, .string Q, .string P] 57)).alloc (.cells #[.int .i64 1, .bool o, .int .u64 n0, .int .u64 0, .string P, .string Q] 57))
  have hay := ((hax.alloc (.cells #[.int .i64 2, .bool o, .int .u64 n1, .int .u64 n2, .string Q, .string P] 57)).alloc (.cells #[.int .i64 1, .bool o, .int .u64 n0, .int .u64 0, .string P, .string Q] 57))
  have hby := ((Blk.new w3 57 #[.int .i64 2, .bool o, .int .u64 n1, .int .u64 n2, .string Q, .string P]).alloc (.cells #[.int .i64 1, .bool o, .int .u64 n0, .int .u64 0, .string P, .string Q] 57))
  have hmy := (Blk.new (w3.alloc (.cells #[.int .i64 2, .bool o, .int .u64 n1, .int .u64 n2, .string Q, .string P] 57)) 57 #[.int .i64 1, .bool o, .int .u64 n0, .int .u64 0, .string P, .string Q])
  rw [show (w3.alloc (.cells #[.int .i64 2, .bool o, .int .u64 n1, .int .u64 n2, .string Q, .string P] 57)).heap.size = w3.heap.size + 1 by simp] at hmy
  clear hLx hNx hax
  have HL := Lib.hid hLy
  clear hLy
  have HN := Lib.hid hNy
  clear hNy
  have Ha := Lib.hid hay
  clear hay
  have Hb := Lib.hid hby
  clear hby
  have Hm := Lib.hid hmy
  clear hmy
  go_upto_region 6 with fail
  generalize ((w3.alloc (.cells #[.int .i64 2, .bool o, .int .u64 n1, .int .u64 n2, .string Q, .string P] 57)).alloc (.cells #[.int .i64 1, .bool o, .int .u64 n0, .int .u64 0, .string P, .string Q] 57)) = v3 at HL HN Ha Hb Hm ⊢
  generalize w3.heap.size = bB at l3 Hb Hm ⊢
  have N0 : v3.cell? ⟨NB, 0, none⟩ = some (.int .u64 n0) := HN.out.cell 0
  have N1 : v3.cell? ⟨NB, 1, none⟩ = some (.int .u64 n1) := HN.out.cell 1
  have N2 : v3.cell? ⟨NB, 2, none⟩ = some (.int .u64 n2) := HN.out.cell 2
  have N3 : v3.cell? ⟨NB, 3, none⟩ = some (.int .u64 n3) := HN.out.cell 3
  have a0 : v3.cell? ⟨aB, 0, none⟩ = some (.int .i64 1) := Ha.out.cell 0
  have a1 : v3.cell? ⟨aB, 1, none⟩ = some (.bool o) := Ha.out.cell 1
  have a2 : v3.cell? ⟨aB, 2, none⟩ = some (.int .u64 n0) := Ha.out.cell 2
  have a3 : v3.cell? ⟨aB, 3, none⟩ = some (.int .u64 0) := Ha.out.cell 3
  have a4 : v3.cell? ⟨aB, 4, none⟩ = some (.string P) := Ha.out.cell 4
  have a5 : v3.cell? ⟨aB, 5, none⟩ = some (.string Q) := Ha.out.cell 5
  have b0 : v3.cell? ⟨bB, 0, none⟩ = some (.int .i64 2) := Hb.out.cell 0
  have b1 : v3.cell? ⟨bB, 1, none⟩ = some (.bool o) := Hb.out.cell 1
  have b2 : v3.cell? ⟨bB, 2, none⟩ = some (.int .u64 n1) := Hb.out.cell 2
  have b3 : v3.cell? ⟨bB, 3, none⟩ = some (.int .u64 n2) := Hb.out.cell 3
  have b4 : v3.cell? ⟨bB, 4, none⟩ = some (.string Q) := Hb.out.cell 4
  have b5 : v3.cell? ⟨bB, 5, none⟩ = some (.string P) := Hb.out.cell 5
  have m0 : v3.cell? ⟨bB + 1, 0, none⟩ = some (.int .i64 1) := Hm.out.cell 0
  have m1 : v3.cell? ⟨bB + 1, 1, none⟩ = some (.bool o) := Hm.out.cell 1
  have m2 : v3.cell? ⟨bB + 1, 2, none⟩ = some (.int .u64 n0) := Hm.out.cell 2
  have m3 : v3.cell? ⟨bB + 1, 3, none⟩ = some (.int .u64 0) := Hm.out.cell 3
  have m4 : v3.cell? ⟨bB + 1, 4, none⟩ = some (.string P) := Hm.out.cell 4
  have m5 : v3.cell? ⟨bB + 1, 5, none⟩ = some (.string Q) := Hm.out.cell 5
  go_wp2_with fail
  refine (ack_yes n2 1 o n0 0 P Q n1 n3 _ rfl).mono ?_
  rintro e w4 ⟨rfl, hb4⟩
  have hLx := HL.out.trans (hb4.mono (by have := HN.out.lt; omega))
  have hNx := HN.out.below hb4
  have hax := Ha.out.below hb4
  have hbx := Hb.out.below hb4
  have hmx := Hm.out.below hb4
  clear hb4 HL HN Ha Hb Hm
  clear N0 N1 N2 N3 a0 a1 a2 a3 a4 a5 b0 b1 b2 b3 b4 b5 m0 m1 m2 m3 m4 m5
  have l4 : bB + 1 < w4.heap.size := hmx.lt
  have lm4 : bB + 1 < w4.heap.size := hmx.lt
  have sm0 : w4.cell? ⟨bB + 1, 0, none⟩ = some (.int .i64 1) := hmx.cell 0
  have sf0 := hmx.frozen 0
  have sm1 : w4.cell? ⟨bB + 1, 1, none⟩ = some (.bool o) := hmx.cell 1
  have sf1 := hmx.frozen 1
  have sm2 : w4.cell? ⟨bB + 1, 2, none⟩ = some (.int .u64 n0) := hmx.cell 2
  have sf2 := hmx.frozen 2
  have sm3 : w4.cell? ⟨bB + 1, 3, none⟩ = some (.int .u64 0) := hmx.cell 3
  have sf3 := hmx.frozen 3
  have sm4 : w4.cell? ⟨bB + 1, 4, none⟩ = some (.string P) := hmx.cell 4
  have sf4 := hmx.frozen 4
  have sm5 : w4.cell? ⟨bB + 1, 5, none⟩ = some (.string Q) := hmx.cell 5
  have sf5 := hmx.frozen 5
  have zs : ((((((w4.setCell ⟨bB + 1, 0, none⟩ (.int .i64 2)).setCell ⟨bB + 1, 1, none⟩ (.bool o)).setCell ⟨bB + 1, 2, none⟩ (.int .u64 n1)).setCell ⟨bB + 1, 3, none⟩ (.int .u64 n2)).setCell ⟨bB + 1, 4, none⟩ (.string Q)).setCell ⟨bB + 1, 5, none⟩ (.string P)).heap.size = w4.heap.size := by simp
  have hLy := ((below_set6 hLx (bB + 1) (by omega) (.int .i64 2) (.bool o) (.int .u64 n1) (.int .u64 n2) (.string Q) (.string P)).alloc (by have := hNx.lt; simp; omega) (.cells #[.int .i64 3, .bool o, .int .u64 n0, .int .u64 n3, .string P, .string Q] 57))
  have hNy := ((hNx.other6 (bB + 1) (by omega) (.int .i64 2) (.bool o) (.int .u64 n1) (.int .u64 n2) (.string Q) (.string P)).alloc (.cells #[.int .i64 3, .bool o, .int .u64 n0, .int .u64 n3, .string P, .string Q] 57))
  have hay := ((hax.other6 (bB + 1) (by omega) (.int .i64 2) (.bool o) (.int .u64 n1) (.int .u64 n2) (.string Q) (.string P)).alloc (.cells #[.int .i64 3, .bool o, .int .u64 n0, .int .u64 n3, .string P, .string Q] 57))
  have hby := ((hbx.other6 (bB + 1) (by omega) (.int .i64 2) (.bool o) (.int .u64 n1) (.int .u64 n2) (.string Q) (.string P)).alloc (.cells #[.int .i64 3, .bool o, .int .u64 n0, .int .u64 n3, .string P, .string Q] 57))
  have hmy := ((hmx.set6 (.int .i64 2) (.bool o) (.int .u64 n1) (.int .u64 n2) (.string Q) (.string P)).alloc (.cells #[.int .i64 3, .bool o, .int .u64 n0, .int .u64 n3, .string P, .string Q] 57))
  have hcy := (Blk.new ((((((w4.setCell ⟨bB + 1, 0, none⟩ (.int .i64 2)).setCell ⟨bB + 1, 1, none⟩ (.bool o)).setCell ⟨bB + 1, 2, none⟩ (.int .u64 n1)).setCell ⟨bB + 1, 3, none⟩ (.int .u64 n2)).setCell ⟨bB + 1, 4, none⟩ (.string Q)).setCell ⟨bB + 1, 5, none⟩ (.string P)) 57 #[.int .i64 3, .bool o, .int .u64 n0, .int .u64 n3, .string P, .string Q])
  rw [zs] at hcy
  clear zs
  clear hLx hNx hax hbx hmx
  simp only [setC6] at hLy hNy hay hby hmy hcy
  have HL := Lib.hid hLy
  clear hLy
  have HN := Lib.hid hNy
  clear hNy
  have Ha := Lib.hid hay
  clear hay
  have Hb := Lib.hid hby
  clear hby
  have Hm := Lib.hid hmy
  clear hmy
  have Hc := Lib.hid hcy
  clear hcy
  go_upto_region 9 with fail
  generalize (((((((w4.setCell ⟨bB + 1, 0, none⟩ (.int .i64 2)).setCell ⟨bB + 1, 1, none⟩ (.bool o)).setCell ⟨bB + 1, 2, none⟩ (.int .u64 n1)).setCell ⟨bB + 1, 3, none⟩ (.int .u64 n2)).setCell ⟨bB + 1, 4, none⟩ (.string Q)).setCell ⟨bB + 1, 5, none⟩ (.string P)).alloc (.cells #[.int .i64 3, .bool o, .int .u64 n0, .int .u64 n3, .string P, .string Q] 57)) = v4 at HL HN Ha Hb Hm Hc ⊢
  clear sm0 sf0 sm1 sf1 sm2 sf2 sm3 sf3 sm4 sf4 sm5 sf5
  generalize w4.heap.size = cB at l4 lm4 Hc ⊢
  have N0 : v4.cell? ⟨NB, 0, none⟩ = some (.int .u64 n0) := HN.out.cell 0
  have N1 : v4.cell? ⟨NB, 1, none⟩ = some (.int .u64 n1) := HN.out.cell 1
  have N2 : v4.cell? ⟨NB, 2, none⟩ = some (.int .u64 n2) := HN.out.cell 2
  have N3 : v4.cell? ⟨NB, 3, none⟩ = some (.int .u64 n3) := HN.out.cell 3
  have m0 : v4.cell? ⟨bB + 1, 0, none⟩ = some (.int .i64 2) := Hm.out.cell 0
  have m1 : v4.cell? ⟨bB + 1, 1, none⟩ = some (.bool o) := Hm.out.cell 1
  have m2 : v4.cell? ⟨bB + 1, 2, none⟩ = some (.int .u64 n1) := Hm.out.cell 2
  have m3 : v4.cell? ⟨bB + 1, 3, none⟩ = some (.int .u64 n2) := Hm.out.cell 3
  have m4 : v4.cell? ⟨bB + 1, 4, none⟩ = some (.string Q) := Hm.out.cell 4
  have m5 : v4.cell? ⟨bB + 1, 5, none⟩ = some (.string P) := Hm.out.cell 5
  have b0 : v4.cell? ⟨bB, 0, none⟩ = some (.int .i64 2) := Hb.out.cell 0
  have b1 : v4.cell? ⟨bB, 1, none⟩ = some (.bool o) := Hb.out.cell 1
  have b2 : v4.cell? ⟨bB, 2, none⟩ = some (.int .u64 n1) := Hb.out.cell 2
  have b3 : v4.cell? ⟨bB, 3, none⟩ = some (.int .u64 n2) := Hb.out.cell 3
  have b4 : v4.cell? ⟨bB, 4, none⟩ = some (.string Q) := Hb.out.cell 4
  have b5 : v4.cell? ⟨bB, 5, none⟩ = some (.string P) := Hb.out.cell 5
  have c0 : v4.cell? ⟨cB, 0, none⟩ = some (.int .i64 3) := Hc.out.cell 0
  have c1 : v4.cell? ⟨cB, 1, none⟩ = some (.bool o) := Hc.out.cell 1
  have c2 : v4.cell? ⟨cB, 2, none⟩ = some (.int .u64 n0) := Hc.out.cell 2
  have c3 : v4.cell? ⟨cB, 3, none⟩ = some (.int .u64 n3) := Hc.out.cell 3
  have c4 : v4.cell? ⟨cB, 4, none⟩ = some (.string P) := Hc.out.cell 4
  have c5 : v4.cell? ⟨cB, 5, none⟩ = some (.string Q) := Hc.out.cell 5
  go_wp2_with fail
  refine (confirm_yes n3 2 o n1 n2 Q P n0 _ rfl).mono ?_
  rintro e w5 ⟨rfl, hb5⟩
  have hLx := HL.out.trans (hb5.mono (by have := HN.out.lt; omega))
  have hNx := HN.out.below hb5
  have hax := Ha.out.below hb5
  have hbx := Hb.out.below hb5
  have hmx := Hm.out.below hb5
  have hcx := Hc.out.below hb5
  clear hb5 HL HN Ha Hb Hm Hc
  clear N0 N1 N2 N3 m0 m1 m2 m3 m4 m5 b0 b1 b2 b3 b4 b5 c0 c1 c2 c3 c4 c5
  have l5 : cB < w5.heap.size := hcx.lt
  have lm5 : bB + 1 < w5.heap.size := hmx.lt
  have sm0 : w5.cell? ⟨bB + 1, 0, none⟩ = some (.int .i64 2) := hmx.cell 0
  have sf0 := hmx.frozen 0
  have sm1 : w5.cell? ⟨bB + 1, 1, none⟩ = some (.bool o) := hmx.cell 1
  have sf1 := hmx.frozen 1
  have sm2 : w5.cell? ⟨bB + 1, 2, none⟩ = some (.int .u64 n1) := hmx.cell 2
  have sf2 := hmx.frozen 2
  have sm3 : w5.cell? ⟨bB + 1, 3, none⟩ = some (.int .u64 n2) := hmx.cell 3
  have sf3 := hmx.frozen 3
  have sm4 : w5.cell? ⟨bB + 1, 4, none⟩ = some (.string Q) := hmx.cell 4
  have sf4 := hmx.frozen 4
  have sm5 : w5.cell? ⟨bB + 1, 5, none⟩ = some (.string P) := hmx.cell 5
  have sf5 := hmx.frozen 5
  have zs : ((((((w5.setCell ⟨bB + 1, 0, none⟩ (.int .i64 3)).setCell ⟨bB + 1, 1, none⟩ (.bool o)).setCell ⟨bB + 1, 2, none⟩ (.int .u64 n0)).setCell ⟨bB + 1, 3, none⟩ (.int .u64 n3)).setCell ⟨bB + 1, 4, none⟩ (.string P)).setCell ⟨bB + 1, 5, none⟩ (.string Q)).heap.size = w5.heap.size := by simp
  have hLy := ((below_set6 hLx (bB + 1) (by omega) (.int .i64 3) (.bool o) (.int .u64 n0) (.int .u64 n3) (.string P) (.string Q)).alloc (by have := hNx.lt; simp; omega) (.cells #[.int .i64 3, .bool o, .int .u64 n1, .int .u64 n2, .string Q, .string P] 57))
  have hNy := ((hNx.other6 (bB + 1) (by omega) (.int .i64 3) (.bool o) (.int .u64 n0) (.int .u64 n3) (.string P) (.string Q)).alloc (.cells #[.int .i64 3, .bool o, .int .u64 n1, .int .u64 n2, .string Q, .string P] 57))
  have hay := ((hax.other6 (bB + 1) (by omega) (.int .i64 3) (.bool o) (.int .u64 n0) (.int .u64 n3) (.string P) (.string Q)).alloc (.cells #[.int .i64 3, .bool o, .int .u64 n1, .int .u64 n2, .string Q, .string P] 57))
  have hby := ((hbx.other6 (bB + 1) (by omega) (.int .i64 3) (.bool o) (.int .u64 n0) (.int .u64 n3) (.string P) (.string Q)).alloc (.cells #[.int .i64 3, .bool o, .int .u64 n1, .int .u64 n2, .string Q, .string P] 57))
  have hmy := ((hmx.set6 (.int .i64 3) (.bool o) (.int .u64 n0) (.int .u64 n3) (.string P) (.string Q)).alloc (.cells #[.int .i64 3, .bool o, .int .u64 n1, .int .u64 n2, .string Q, .string P] 57))
  have hcy := ((hcx.other6 (bB + 1) (by omega) (.int .i64 3) (.bool o) (.int .u64 n0) (.int .u64 n3) (.string P) (.string Q)).alloc (.cells #[.int .i64 3, .bool o, .int .u64 n1, .int .u64 n2, .string Q, .string P] 57))
  have hdy := (Blk.new ((((((w5.setCell ⟨bB + 1, 0, none⟩ (.int .i64 3)).setCell ⟨bB + 1, 1, none⟩ (.bool o)).setCell ⟨bB + 1, 2, none⟩ (.int .u64 n0)).setCell ⟨bB + 1, 3, none⟩ (.int .u64 n3)).setCell ⟨bB + 1, 4, none⟩ (.string P)).setCell ⟨bB + 1, 5, none⟩ (.string Q)) 57 #[.int .i64 3, .bool o, .int .u64 n1, .int .u64 n2, .string Q, .string P])
  rw [zs] at hdy
  clear zs
  clear hLx hNx hax hbx hmx hcx
  simp only [setC6] at hLy hNy hay hby hmy hcy hdy
  have HL := Lib.hid hLy
  clear hLy
  have HN := Lib.hid hNy
  clear hNy
  have Ha := Lib.hid hay
  clear hay
  have Hb := Lib.hid hby
  clear hby
  have Hm := Lib.hid hmy
  clear hmy
  have Hc := Lib.hid hcy
  clear hcy
  have Hd := Lib.hid hdy
  clear hdy
  go_upto_region 12 with fail
  generalize (((((((w5.setCell ⟨bB + 1, 0, none⟩ (.int .i64 3)).setCell ⟨bB + 1, 1, none⟩ (.bool o)).setCell ⟨bB + 1, 2, none⟩ (.int .u64 n0)).setCell ⟨bB + 1, 3, none⟩ (.int .u64 n3)).setCell ⟨bB + 1, 4, none⟩ (.string P)).setCell ⟨bB + 1, 5, none⟩ (.string Q)).alloc (.cells #[.int .i64 3, .bool o, .int .u64 n1, .int .u64 n2, .string Q, .string P] 57)) = v5 at HL HN Ha Hb Hm Hc Hd ⊢
  clear sm0 sf0 sm1 sf1 sm2 sf2 sm3 sf3 sm4 sf4 sm5 sf5
  generalize w5.heap.size = dB at l5 lm5 Hd ⊢
  have N0 : v5.cell? ⟨NB, 0, none⟩ = some (.int .u64 n0) := HN.out.cell 0
  have N1 : v5.cell? ⟨NB, 1, none⟩ = some (.int .u64 n1) := HN.out.cell 1
  have N2 : v5.cell? ⟨NB, 2, none⟩ = some (.int .u64 n2) := HN.out.cell 2
  have N3 : v5.cell? ⟨NB, 3, none⟩ = some (.int .u64 n3) := HN.out.cell 3
  have m0 : v5.cell? ⟨bB + 1, 0, none⟩ = some (.int .i64 3) := Hm.out.cell 0
  have m1 : v5.cell? ⟨bB + 1, 1, none⟩ = some (.bool o) := Hm.out.cell 1
  have m2 : v5.cell? ⟨bB + 1, 2, none⟩ = some (.int .u64 n0) := Hm.out.cell 2
  have m3 : v5.cell? ⟨bB + 1, 3, none⟩ = some (.int .u64 n3) := Hm.out.cell 3
  have m4 : v5.cell? ⟨bB + 1, 4, none⟩ = some (.string P) := Hm.out.cell 4
  have m5 : v5.cell? ⟨bB + 1, 5, none⟩ = some (.string Q) := Hm.out.cell 5
  have c0 : v5.cell? ⟨cB, 0, none⟩ = some (.int .i64 3) := Hc.out.cell 0
  have c1 : v5.cell? ⟨cB, 1, none⟩ = some (.bool o) := Hc.out.cell 1
  have c2 : v5.cell? ⟨cB, 2, none⟩ = some (.int .u64 n0) := Hc.out.cell 2
  have c3 : v5.cell? ⟨cB, 3, none⟩ = some (.int .u64 n3) := Hc.out.cell 3
  have c4 : v5.cell? ⟨cB, 4, none⟩ = some (.string P) := Hc.out.cell 4
  have c5 : v5.cell? ⟨cB, 5, none⟩ = some (.string Q) := Hc.out.cell 5
  have d0 : v5.cell? ⟨dB, 0, none⟩ = some (.int .i64 3) := Hd.out.cell 0
  have d1 : v5.cell? ⟨dB, 1, none⟩ = some (.bool o) := Hd.out.cell 1
  have d2 : v5.cell? ⟨dB, 2, none⟩ = some (.int .u64 n1) := Hd.out.cell 2
  have d3 : v5.cell? ⟨dB, 3, none⟩ = some (.int .u64 n2) := Hd.out.cell 3
  have d4 : v5.cell? ⟨dB, 4, none⟩ = some (.string Q) := Hd.out.cell 4
  have d5 : v5.cell? ⟨dB, 5, none⟩ = some (.string P) := Hd.out.cell 5
  go_wp2_with fail
  refine (close_yes 3 o n0 n3 P Q _ rfl).mono ?_
  rintro e w6 ⟨rfl, hb6⟩
  have hLx := HL.out.trans (hb6.mono (by have := HN.out.lt; omega))
  have hNx := HN.out.below hb6
  have hax := Ha.out.below hb6
  have hbx := Hb.out.below hb6
  have hmx := Hm.out.below hb6
  have hcx := Hc.out.below hb6
  have hdx := Hd.out.below hb6
  clear hb6 HL HN Ha Hb Hm Hc Hd
  clear N0 N1 N2 N3 m0 m1 m2 m3 m4 m5 c0 c1 c2 c3 c4 c5 d0 d1 d2 d3 d4 d5
  have l6 : dB < w6.heap.size := hdx.lt
  have hLy := (hLx.alloc (by have := hNx.lt; omega) (.cells #[.int .i64 4, .bool o, .int .u64 n0, .int .u64 n3, .string P, .string Q] 57))
  have hNy := (hNx.alloc (.cells #[.int .i64 4, .bool o, .int .u64 n0, .int .u64 n3, .string P, .string Q] 57))
  have hay := (hax.alloc (.cells #[.int .i64 4, .bool o, .int .u64 n0, .int .u64 n3, .string P, .string Q] 57))
  have hby := (hbx.alloc (.cells #[.int .i64 4, .bool o, .int .u64 n0, .int .u64 n3, .string P, .string Q] 57))
  have hmy := (hmx.alloc (.cells #[.int .i64 4, .bool o, .int .u64 n0, .int .u64 n3, .string P, .string Q] 57))
  have hcy := (hcx.alloc (.cells #[.int .i64 4, .bool o, .int .u64 n0, .int .u64 n3, .string P, .string Q] 57))
  have hdy := (hdx.alloc (.cells #[.int .i64 4, .bool o, .int .u64 n0, .int .u64 n3, .string P, .string Q] 57))
  have hxy := (Blk.new w6 57 #[.int .i64 4, .bool o, .int .u64 n0, .int .u64 n3, .string P, .string Q])
  clear hLx hNx hax hbx hmx hcx hdx
  have HL := Lib.hid hLy
  clear hLy
  have HN := Lib.hid hNy
  clear hNy
  have Ha := Lib.hid hay
  clear hay
  have Hb := Lib.hid hby
  clear hby
  have Hm := Lib.hid hmy
  clear hmy
  have Hc := Lib.hid hcy
  clear hcy
  have Hd := Lib.hid hdy
  clear hdy
  have Hx := Lib.hid hxy
  clear hxy
  go_upto_region 15 with fail
  generalize (w6.alloc (.cells #[.int .i64 4, .bool o, .int .u64 n0, .int .u64 n3, .string P, .string Q] 57)) = v6 at HL HN Ha Hb Hm Hc Hd Hx ⊢
  generalize w6.heap.size = xB at l6 Hx ⊢
  have N0 : v6.cell? ⟨NB, 0, none⟩ = some (.int .u64 n0) := HN.out.cell 0
  have N1 : v6.cell? ⟨NB, 1, none⟩ = some (.int .u64 n1) := HN.out.cell 1
  have N2 : v6.cell? ⟨NB, 2, none⟩ = some (.int .u64 n2) := HN.out.cell 2
  have N3 : v6.cell? ⟨NB, 3, none⟩ = some (.int .u64 n3) := HN.out.cell 3
  have d0 : v6.cell? ⟨dB, 0, none⟩ = some (.int .i64 3) := Hd.out.cell 0
  have d1 : v6.cell? ⟨dB, 1, none⟩ = some (.bool o) := Hd.out.cell 1
  have d2 : v6.cell? ⟨dB, 2, none⟩ = some (.int .u64 n1) := Hd.out.cell 2
  have d3 : v6.cell? ⟨dB, 3, none⟩ = some (.int .u64 n2) := Hd.out.cell 3
  have d4 : v6.cell? ⟨dB, 4, none⟩ = some (.string Q) := Hd.out.cell 4
  have d5 : v6.cell? ⟨dB, 5, none⟩ = some (.string P) := Hd.out.cell 5
  go_wp2_with fail
  refine (closed_yes n3 3 o n1 n2 Q P n0 _ rfl).mono ?_
  rintro e w7 ⟨rfl, hb7⟩
  have hLx := HL.out.trans (hb7.mono (by have := HN.out.lt; omega))
  have hNx := HN.out.below hb7
  have hax := Ha.out.below hb7
  have hbx := Hb.out.below hb7
  have hmx := Hm.out.below hb7
  have hcx := Hc.out.below hb7
  have hdx := Hd.out.below hb7
  have hxx := Hx.out.below hb7
  clear hb7 HL HN Ha Hb Hm Hc Hd Hx
  clear N0 N1 N2 N3 d0 d1 d2 d3 d4 d5
  have l7 : xB < w7.heap.size := hxx.lt
  have lm7 : bB + 1 < w7.heap.size := hmx.lt
  have sm0 : w7.cell? ⟨bB + 1, 0, none⟩ = some (.int .i64 3) := hmx.cell 0
  have sf0 := hmx.frozen 0
  have sm1 : w7.cell? ⟨bB + 1, 1, none⟩ = some (.bool o) := hmx.cell 1
  have sf1 := hmx.frozen 1
  have sm2 : w7.cell? ⟨bB + 1, 2, none⟩ = some (.int .u64 n0) := hmx.cell 2
  have sf2 := hmx.frozen 2
  have sm3 : w7.cell? ⟨bB + 1, 3, none⟩ = some (.int .u64 n3) := hmx.cell 3
  have sf3 := hmx.frozen 3
  have sm4 : w7.cell? ⟨bB + 1, 4, none⟩ = some (.string P) := hmx.cell 4
  have sf4 := hmx.frozen 4
  have sm5 : w7.cell? ⟨bB + 1, 5, none⟩ = some (.string Q) := hmx.cell 5
  have sf5 := hmx.frozen 5
  have zs : ((((((w7.setCell ⟨bB + 1, 0, none⟩ (.int .i64 4)).setCell ⟨bB + 1, 1, none⟩ (.bool o)).setCell ⟨bB + 1, 2, none⟩ (.int .u64 n0)).setCell ⟨bB + 1, 3, none⟩ (.int .u64 n3)).setCell ⟨bB + 1, 4, none⟩ (.string P)).setCell ⟨bB + 1, 5, none⟩ (.string Q)).heap.size = w7.heap.size := by simp
  have hLy := ((below_set6 hLx (bB + 1) (by omega) (.int .i64 4) (.bool o) (.int .u64 n0) (.int .u64 n3) (.string P) (.string Q)).alloc (by have := hNx.lt; simp; omega) (.cells #[.int .i64 4, .bool o, .int .u64 n1, .int .u64 n2, .string Q, .string P] 57))
  have hNy := ((hNx.other6 (bB + 1) (by omega) (.int .i64 4) (.bool o) (.int .u64 n0) (.int .u64 n3) (.string P) (.string Q)).alloc (.cells #[.int .i64 4, .bool o, .int .u64 n1, .int .u64 n2, .string Q, .string P] 57))
  have hay := ((hax.other6 (bB + 1) (by omega) (.int .i64 4) (.bool o) (.int .u64 n0) (.int .u64 n3) (.string P) (.string Q)).alloc (.cells #[.int .i64 4, .bool o, .int .u64 n1, .int .u64 n2, .string Q, .string P] 57))
  have hby := ((hbx.other6 (bB + 1) (by omega) (.int .i64 4) (.bool o) (.int .u64 n0) (.int .u64 n3) (.string P) (.string Q)).alloc (.cells #[.int .i64 4, .bool o, .int .u64 n1, .int .u64 n2, .string Q, .string P] 57))
  have hmy := ((hmx.set6 (.int .i64 4) (.bool o) (.int .u64 n0) (.int .u64 n3) (.string P) (.string Q)).alloc (.cells #[.int .i64 4, .bool o, .int .u64 n1, .int .u64 n2, .string Q, .string P] 57))
  have hcy := ((hcx.other6 (bB + 1) (by omega) (.int .i64 4) (.bool o) (.int .u64 n0) (.int .u64 n3) (.string P) (.string Q)).alloc (.cells #[.int .i64 4, .bool o, .int .u64 n1, .int .u64 n2, .string Q, .string P] 57))
  have hdy := ((hdx.other6 (bB + 1) (by omega) (.int .i64 4) (.bool o) (.int .u64 n0) (.int .u64 n3) (.string P) (.string Q)).alloc (.cells #[.int .i64 4, .bool o, .int .u64 n1, .int .u64 n2, .string Q, .string P] 57))
  have hxy := ((hxx.other6 (bB + 1) (by omega) (.int .i64 4) (.bool o) (.int .u64 n0) (.int .u64 n3) (.string P) (.string Q)).alloc (.cells #[.int .i64 4, .bool o, .int .u64 n1, .int .u64 n2, .string Q, .string P] 57))
  have hyy := (Blk.new ((((((w7.setCell ⟨bB + 1, 0, none⟩ (.int .i64 4)).setCell ⟨bB + 1, 1, none⟩ (.bool o)).setCell ⟨bB + 1, 2, none⟩ (.int .u64 n0)).setCell ⟨bB + 1, 3, none⟩ (.int .u64 n3)).setCell ⟨bB + 1, 4, none⟩ (.string P)).setCell ⟨bB + 1, 5, none⟩ (.string Q)) 57 #[.int .i64 4, .bool o, .int .u64 n1, .int .u64 n2, .string Q, .string P])
  rw [zs] at hyy
  clear zs
  clear hLx hNx hax hbx hmx hcx hdx hxx
  simp only [setC6] at hLy hNy hay hby hmy hcy hdy hxy hyy
  have HL := Lib.hid hLy
  clear hLy
  have HN := Lib.hid hNy
  clear hNy
  have Ha := Lib.hid hay
  clear hay
  have Hb := Lib.hid hby
  clear hby
  have Hm := Lib.hid hmy
  clear hmy
  have Hc := Lib.hid hcy
  clear hcy
  have Hd := Lib.hid hdy
  clear hdy
  have Hx := Lib.hid hxy
  clear hxy
  have Hy := Lib.hid hyy
  clear hyy
  go_upto_region 16 with fail
  generalize (((((((w7.setCell ⟨bB + 1, 0, none⟩ (.int .i64 4)).setCell ⟨bB + 1, 1, none⟩ (.bool o)).setCell ⟨bB + 1, 2, none⟩ (.int .u64 n0)).setCell ⟨bB + 1, 3, none⟩ (.int .u64 n3)).setCell ⟨bB + 1, 4, none⟩ (.string P)).setCell ⟨bB + 1, 5, none⟩ (.string Q)).alloc (.cells #[.int .i64 4, .bool o, .int .u64 n1, .int .u64 n2, .string Q, .string P] 57)) = v7 at HL HN Ha Hb Hm Hc Hd Hx Hy ⊢
  clear sm0 sf0 sm1 sf1 sm2 sf2 sm3 sf3 sm4 sf4 sm5 sf5
  generalize w7.heap.size = yB at l7 lm7 Hy ⊢
  have N0 : v7.cell? ⟨NB, 0, none⟩ = some (.int .u64 n0) := HN.out.cell 0
  have N1 : v7.cell? ⟨NB, 1, none⟩ = some (.int .u64 n1) := HN.out.cell 1
  have N2 : v7.cell? ⟨NB, 2, none⟩ = some (.int .u64 n2) := HN.out.cell 2
  have N3 : v7.cell? ⟨NB, 3, none⟩ = some (.int .u64 n3) := HN.out.cell 3
  have c0 : v7.cell? ⟨cB, 0, none⟩ = some (.int .i64 3) := Hc.out.cell 0
  have c1 : v7.cell? ⟨cB, 1, none⟩ = some (.bool o) := Hc.out.cell 1
  have c2 : v7.cell? ⟨cB, 2, none⟩ = some (.int .u64 n0) := Hc.out.cell 2
  have c3 : v7.cell? ⟨cB, 3, none⟩ = some (.int .u64 n3) := Hc.out.cell 3
  have c4 : v7.cell? ⟨cB, 4, none⟩ = some (.string P) := Hc.out.cell 4
  have c5 : v7.cell? ⟨cB, 5, none⟩ = some (.string Q) := Hc.out.cell 5
  go_wp2_with fail
  refine (ack_no n2 3 o n0 n3 P Q n1 n3 _ (by decide)).mono ?_
  rintro e w8 ⟨rfl, hb8⟩
  have hLx := HL.out.trans (hb8.mono (by have := HN.out.lt; omega))
  have hNx := HN.out.below hb8
  have hax := Ha.out.below hb8
  have hbx := Hb.out.below hb8
  have hmx := Hm.out.below hb8
  have hcx := Hc.out.below hb8
  have hdx := Hd.out.below hb8
  have hxx := Hx.out.below hb8
  have hyx := Hy.out.below hb8
  clear hb8 HL HN Ha Hb Hm Hc Hd Hx Hy
  clear N0 N1 N2 N3 c0 c1 c2 c3 c4 c5
  have l8 : yB < w8.heap.size := hyx.lt
  have hLy := ((hLx.alloc (by have := hNx.lt; omega) (.cells #[.int .i64 0, .bool false, .int .u64 0, .int .u64 0, .string ⟨#[]⟩, .string ⟨#[]⟩] 57)).alloc (by have := hNx.lt; simp; omega) (.cells #[.int .i64 0, .bool false, .int .u64 0, .int .u64 0, .string ⟨#[]⟩, .string ⟨#[]⟩] 57))
  have hNy := ((hNx.alloc (.cells #[.int .i64 0, .bool false, .int .u64 0, .int .u64 0, .string ⟨#[]⟩, .string ⟨#[]⟩] 57)).alloc (.cells #[.int .i64 0, .bool false, .int .u64 0, .int .u64 0, .string ⟨#[]⟩, .string ⟨#[]⟩] 57))
  have hay := ((hax.alloc (.cells #[.int .i64 0, .bool false, .int .u64 0, .int .u64 0, .string ⟨#[]⟩, .string ⟨#[]⟩] 57)).alloc (.cells #[.int .i64 0, .bool false, .int .u64 0, .int .u64 0, .string ⟨#[]⟩, .string ⟨#[]⟩] 57))
  have hby := ((hbx.alloc (.cells #[.int .i64 0, .bool false, .int .u64 0, .int .u64 0, .string ⟨#[]⟩, .string ⟨#[]⟩] 57)).alloc (.cells #[.int .i64 0, .bool false, .int .u64 0, .int .u64 0, .string ⟨#[]⟩, .string ⟨#[]⟩] 57))
  have hmy := ((hmx.alloc (.cells #[.int .i64 0, .bool false, .int .u64 0, .int .u64 0, .string ⟨#[]⟩, .string ⟨#[]⟩] 57)).alloc (.cells #[.int .i64 0, .bool false, .int .u64 0, .int .u64 0, .string ⟨#[]⟩, .string ⟨#[]⟩] 57))
  have hcy := ((hcx.alloc (.cells #[.int .i64 0, .bool false, .int .u64 0, .int .u64 0, .string ⟨#[]⟩, .string ⟨#[]⟩] 57)).alloc (.cells #[.int .i64 0, .bool false, .int .u64 0, .int .u64 0, .string ⟨#[]⟩, .string ⟨#[]⟩] 57))
  have hdy := ((hdx.alloc (.cells #[.int .i64 0, .bool false, .int .u64 0, .int .u64 0, .string ⟨#[]⟩, .string ⟨#[]⟩] 57)).alloc (.cells #[.int .i64 0, .bool false, .int .u64 0, .int .u64 0, .string ⟨#[]⟩, .string ⟨#[]⟩] 57))
  have hxy := ((hxx.alloc (.cells #[.int .i64 0, .bool false, .int .u64 0, .int .u64 0, .string ⟨#[]⟩, .string ⟨#[]⟩] 57)).alloc (.cells #[.int .i64 0, .bool false, .int .u64 0, .int .u64 0, .string ⟨#[]⟩, .string ⟨#[]⟩] 57))
  have hyy := ((hyx.alloc (.cells #[.int .i64 0, .bool false, .int .u64 0, .int .u64 0, .string ⟨#[]⟩, .string ⟨#[]⟩] 57)).alloc (.cells #[.int .i64 0, .bool false, .int .u64 0, .int .u64 0, .string ⟨#[]⟩, .string ⟨#[]⟩] 57))
  have hzy := ((Blk.new w8 57 #[.int .i64 0, .bool false, .int .u64 0, .int .u64 0, .string ⟨#[]⟩, .string ⟨#[]⟩]).alloc (.cells #[.int .i64 0, .bool false, .int .u64 0, .int .u64 0, .string ⟨#[]⟩, .string ⟨#[]⟩] 57))
  have hzzy := (Blk.new (w8.alloc (.cells #[.int .i64 0, .bool false, .int .u64 0, .int .u64 0, .string ⟨#[]⟩, .string ⟨#[]⟩] 57)) 57 #[.int .i64 0, .bool false, .int .u64 0, .int .u64 0, .string ⟨#[]⟩, .string ⟨#[]⟩])
  rw [show (w8.alloc (.cells #[.int .i64 0, .bool false, .int .u64 0, .int .u64 0, .string ⟨#[]⟩, .string ⟨#[]⟩] 57)).heap.size = w8.heap.size + 1 by simp] at hzzy
  clear hLx hNx hax hbx hmx hcx hdx hxx hyx
  have HL := Lib.hid hLy
  clear hLy
  have HN := Lib.hid hNy
  clear hNy
  have Ha := Lib.hid hay
  clear hay
  have Hb := Lib.hid hby
  clear hby
  have Hm := Lib.hid hmy
  clear hmy
  have Hc := Lib.hid hcy
  clear hcy
  have Hd := Lib.hid hdy
  clear hdy
  have Hx := Lib.hid hxy
  clear hxy
  have Hy := Lib.hid hyy
  clear hyy
  have Hz := Lib.hid hzy
  clear hzy
  have Hzz := Lib.hid hzzy
  clear hzzy
  go_upto_region 17 with fail
  generalize ((w8.alloc (.cells #[.int .i64 0, .bool false, .int .u64 0, .int .u64 0, .string ⟨#[]⟩, .string ⟨#[]⟩] 57)).alloc (.cells #[.int .i64 0, .bool false, .int .u64 0, .int .u64 0, .string ⟨#[]⟩, .string ⟨#[]⟩] 57)) = v8 at HL HN Ha Hb Hm Hc Hd Hx Hy Hz Hzz ⊢
  clear l8 Hz Hzz
  have N0 : v8.cell? ⟨NB, 0, none⟩ = some (.int .u64 n0) := HN.out.cell 0
  have N1 : v8.cell? ⟨NB, 1, none⟩ = some (.int .u64 n1) := HN.out.cell 1
  have N2 : v8.cell? ⟨NB, 2, none⟩ = some (.int .u64 n2) := HN.out.cell 2
  have N3 : v8.cell? ⟨NB, 3, none⟩ = some (.int .u64 n3) := HN.out.cell 3
  have d0 : v8.cell? ⟨dB, 0, none⟩ = some (.int .i64 3) := Hd.out.cell 0
  have d1 : v8.cell? ⟨dB, 1, none⟩ = some (.bool o) := Hd.out.cell 1
  have d2 : v8.cell? ⟨dB, 2, none⟩ = some (.int .u64 n1) := Hd.out.cell 2
  have d3 : v8.cell? ⟨dB, 3, none⟩ = some (.int .u64 n2) := Hd.out.cell 3
  have d4 : v8.cell? ⟨dB, 4, none⟩ = some (.string Q) := Hd.out.cell 4
  have d5 : v8.cell? ⟨dB, 5, none⟩ = some (.string P) := Hd.out.cell 5
  go_wp2_with fail
  refine (confirm_no n3 3 o n1 n2 Q P n0 _ (by decide)).mono ?_
  rintro e w9 ⟨rfl, hb9⟩
  have hLx := HL.out.trans (hb9.mono (by have := HN.out.lt; omega))
  have hNx := HN.out.below hb9
  have hax := Ha.out.below hb9
  have hbx := Hb.out.below hb9
  have hmx := Hm.out.below hb9
  have hcx := Hc.out.below hb9
  have hdx := Hd.out.below hb9
  have hxx := Hx.out.below hb9
  have hyx := Hy.out.below hb9
  clear hb9 HL HN Ha Hb Hm Hc Hd Hx Hy
  clear N0 N1 N2 N3 d0 d1 d2 d3 d4 d5
  have l9 : yB < w9.heap.size := hyx.lt
  have hLy := ((hLx.alloc (by have := hNx.lt; omega) (.cells #[.int .i64 0, .bool false, .int .u64 0, .int .u64 0, .string ⟨#[]⟩, .string ⟨#[]⟩] 57)).alloc (by have := hNx.lt; simp; omega) (.cells #[.int .i64 0, .bool false, .int .u64 0, .int .u64 0, .string ⟨#[]⟩, .string ⟨#[]⟩] 57))
  have hNy := ((hNx.alloc (.cells #[.int .i64 0, .bool false, .int .u64 0, .int .u64 0, .string ⟨#[]⟩, .string ⟨#[]⟩] 57)).alloc (.cells #[.int .i64 0, .bool false, .int .u64 0, .int .u64 0, .string ⟨#[]⟩, .string ⟨#[]⟩] 57))
  have hay := ((hax.alloc (.cells #[.int .i64 0, .bool false, .int .u64 0, .int .u64 0, .string ⟨#[]⟩, .string ⟨#[]⟩] 57)).alloc (.cells #[.int .i64 0, .bool false, .int .u64 0, .int .u64 0, .string ⟨#[]⟩, .string ⟨#[]⟩] 57))
  have hby := ((hbx.alloc (.cells #[.int .i64 0, .bool false, .int .u64 0, .int .u64 0, .string ⟨#[]⟩, .string ⟨#[]⟩] 57)).alloc (.cells #[.int .i64 0, .bool false, .int .u64 0, .int .u64 0, .string ⟨#[]⟩, .string ⟨#[]⟩] 57))
  have hmy := ((hmx.alloc (.cells #[.int .i64 0, .bool false, .int .u64 0, .int .u64 0, .string ⟨#[]⟩, .string ⟨#[]⟩] 57)).alloc (.cells #[.int .i64 0, .bool false, .int .u64 0, .int .u64 0, .string ⟨#[]⟩, .string ⟨#[]⟩] 57))
  have hcy := ((hcx.alloc (.cells #[.int .i64 0, .bool false, .int .u64 0, .int .u64 0, .string ⟨#[]⟩, .string ⟨#[]⟩] 57)).alloc (.cells #[.int .i64 0, .bool false, .int .u64 0, .int .u64 0, .string ⟨#[]⟩, .string ⟨#[]⟩] 57))
  have hdy := ((hdx.alloc (.cells #[.int .i64 0, .bool false, .int .u64 0, .int .u64 0, .string ⟨#[]⟩, .string ⟨#[]⟩] 57)).alloc (.cells #[.int .i64 0, .bool false, .int .u64 0, .int .u64 0, .string ⟨#[]⟩, .string ⟨#[]⟩] 57))
  have hxy := ((hxx.alloc (.cells #[.int .i64 0, .bool false, .int .u64 0, .int .u64 0, .string ⟨#[]⟩, .string ⟨#[]⟩] 57)).alloc (.cells #[.int .i64 0, .bool false, .int .u64 0, .int .u64 0, .string ⟨#[]⟩, .string ⟨#[]⟩] 57))
  have hyy := ((hyx.alloc (.cells #[.int .i64 0, .bool false, .int .u64 0, .int .u64 0, .string ⟨#[]⟩, .string ⟨#[]⟩] 57)).alloc (.cells #[.int .i64 0, .bool false, .int .u64 0, .int .u64 0, .string ⟨#[]⟩, .string ⟨#[]⟩] 57))
  have hzy := ((Blk.new w9 57 #[.int .i64 0, .bool false, .int .u64 0, .int .u64 0, .string ⟨#[]⟩, .string ⟨#[]⟩]).alloc (.cells #[.int .i64 0, .bool false, .int .u64 0, .int .u64 0, .string ⟨#[]⟩, .string ⟨#[]⟩] 57))
  have hzzy := (Blk.new (w9.alloc (.cells #[.int .i64 0, .bool false, .int .u64 0, .int .u64 0, .string ⟨#[]⟩, .string ⟨#[]⟩] 57)) 57 #[.int .i64 0, .bool false, .int .u64 0, .int .u64 0, .string ⟨#[]⟩, .string ⟨#[]⟩])
  rw [show (w9.alloc (.cells #[.int .i64 0, .bool false, .int .u64 0, .int .u64 0, .string ⟨#[]⟩, .string ⟨#[]⟩] 57)).heap.size = w9.heap.size + 1 by simp] at hzzy
  clear hLx hNx hax hbx hmx hcx hdx hxx hyx
  have HL := Lib.hid hLy
  clear hLy
  have HN := Lib.hid hNy
  clear hNy
  have Ha := Lib.hid hay
  clear hay
  have Hb := Lib.hid hby
  clear hby
  have Hm := Lib.hid hmy
  clear hmy
  have Hc := Lib.hid hcy
  clear hcy
  have Hd := Lib.hid hdy
  clear hdy
  have Hx := Lib.hid hxy
  clear hxy
  have Hy := Lib.hid hyy
  clear hyy
  have Hz := Lib.hid hzy
  clear hzy
  have Hzz := Lib.hid hzzy
  clear hzzy
  go_upto_region 18 with fail
  generalize ((w9.alloc (.cells #[.int .i64 0, .bool false, .int .u64 0, .int .u64 0, .string ⟨#[]⟩, .string ⟨#[]⟩] 57)).alloc (.cells #[.int .i64 0, .bool false, .int .u64 0, .int .u64 0, .string ⟨#[]⟩, .string ⟨#[]⟩] 57)) = v9 at HL HN Ha Hb Hm Hc Hd Hx Hy Hz Hzz ⊢
  clear l9 Hz Hzz
  have x0 : v9.cell? ⟨xB, 0, none⟩ = some (.int .i64 4) := Hx.out.cell 0
  have x1 : v9.cell? ⟨xB, 1, none⟩ = some (.bool o) := Hx.out.cell 1
  have x2 : v9.cell? ⟨xB, 2, none⟩ = some (.int .u64 n0) := Hx.out.cell 2
  have x3 : v9.cell? ⟨xB, 3, none⟩ = some (.int .u64 n3) := Hx.out.cell 3
  have x4 : v9.cell? ⟨xB, 4, none⟩ = some (.string P) := Hx.out.cell 4
  have x5 : v9.cell? ⟨xB, 5, none⟩ = some (.string Q) := Hx.out.cell 5
  go_wp2_with fail
  refine (close_no 4 o n0 n3 P Q _ (by decide)).mono ?_
  rintro e w10 ⟨rfl, hb10⟩
  have hLx := HL.out.trans (hb10.mono (by have := HN.out.lt; omega))
  have hNx := HN.out.below hb10
  have hax := Ha.out.below hb10
  have hbx := Hb.out.below hb10
  have hmx := Hm.out.below hb10
  have hcx := Hc.out.below hb10
  have hdx := Hd.out.below hb10
  have hxx := Hx.out.below hb10
  have hyx := Hy.out.below hb10
  clear hb10 HL HN Ha Hb Hm Hc Hd Hx Hy
  clear x0 x1 x2 x3 x4 x5
  have l10 : yB < w10.heap.size := hyx.lt
  have hLy := (hLx.alloc (by have := hNx.lt; omega) (.cells #[.int .i64 0, .bool false, .int .u64 0, .int .u64 0, .string ⟨#[]⟩, .string ⟨#[]⟩] 57))
  have hNy := (hNx.alloc (.cells #[.int .i64 0, .bool false, .int .u64 0, .int .u64 0, .string ⟨#[]⟩, .string ⟨#[]⟩] 57))
  have hay := (hax.alloc (.cells #[.int .i64 0, .bool false, .int .u64 0, .int .u64 0, .string ⟨#[]⟩, .string ⟨#[]⟩] 57))
  have hby := (hbx.alloc (.cells #[.int .i64 0, .bool false, .int .u64 0, .int .u64 0, .string ⟨#[]⟩, .string ⟨#[]⟩] 57))
  have hmy := (hmx.alloc (.cells #[.int .i64 0, .bool false, .int .u64 0, .int .u64 0, .string ⟨#[]⟩, .string ⟨#[]⟩] 57))
  have hcy := (hcx.alloc (.cells #[.int .i64 0, .bool false, .int .u64 0, .int .u64 0, .string ⟨#[]⟩, .string ⟨#[]⟩] 57))
  have hdy := (hdx.alloc (.cells #[.int .i64 0, .bool false, .int .u64 0, .int .u64 0, .string ⟨#[]⟩, .string ⟨#[]⟩] 57))
  have hxy := (hxx.alloc (.cells #[.int .i64 0, .bool false, .int .u64 0, .int .u64 0, .string ⟨#[]⟩, .string ⟨#[]⟩] 57))
  have hyy := (hyx.alloc (.cells #[.int .i64 0, .bool false, .int .u64 0, .int .u64 0, .string ⟨#[]⟩, .string ⟨#[]⟩] 57))
  have hzy := (Blk.new w10 57 #[.int .i64 0, .bool false, .int .u64 0, .int .u64 0, .string ⟨#[]⟩, .string ⟨#[]⟩])
  clear hLx hNx hax hbx hmx hcx hdx hxx hyx
  have HL := Lib.hid hLy
  clear hLy
  have HN := Lib.hid hNy
  clear hNy
  have Ha := Lib.hid hay
  clear hay
  have Hb := Lib.hid hby
  clear hby
  have Hm := Lib.hid hmy
  clear hmy
  have Hc := Lib.hid hcy
  clear hcy
  have Hd := Lib.hid hdy
  clear hdy
  have Hx := Lib.hid hxy
  clear hxy
  have Hy := Lib.hid hyy
  clear hyy
  have Hz := Lib.hid hzy
  clear hzy
  go_upto_region 19 with fail
  generalize (w10.alloc (.cells #[.int .i64 0, .bool false, .int .u64 0, .int .u64 0, .string ⟨#[]⟩, .string ⟨#[]⟩] 57)) = v10 at HL HN Ha Hb Hm Hc Hd Hx Hy Hz ⊢
  clear l10 Hz
  have m0 : v10.cell? ⟨bB + 1, 0, none⟩ = some (.int .i64 4) := Hm.out.cell 0
  have m1 : v10.cell? ⟨bB + 1, 1, none⟩ = some (.bool o) := Hm.out.cell 1
  have m2 : v10.cell? ⟨bB + 1, 2, none⟩ = some (.int .u64 n0) := Hm.out.cell 2
  have m3 : v10.cell? ⟨bB + 1, 3, none⟩ = some (.int .u64 n3) := Hm.out.cell 3
  have m4 : v10.cell? ⟨bB + 1, 4, none⟩ = some (.string P) := Hm.out.cell 4
  have m5 : v10.cell? ⟨bB + 1, 5, none⟩ = some (.string Q) := Hm.out.cell 5
  have x0 : v10.cell? ⟨xB, 0, none⟩ = some (.int .i64 4) := Hx.out.cell 0
  have x1 : v10.cell? ⟨xB, 1, none⟩ = some (.bool o) := Hx.out.cell 1
  have x2 : v10.cell? ⟨xB, 2, none⟩ = some (.int .u64 n0) := Hx.out.cell 2
  have x3 : v10.cell? ⟨xB, 3, none⟩ = some (.int .u64 n3) := Hx.out.cell 3
  have x4 : v10.cell? ⟨xB, 4, none⟩ = some (.string P) := Hx.out.cell 4
  have x5 : v10.cell? ⟨xB, 5, none⟩ = some (.string Q) := Hx.out.cell 5
  have y0 : v10.cell? ⟨yB, 0, none⟩ = some (.int .i64 4) := Hy.out.cell 0
  have y1 : v10.cell? ⟨yB, 1, none⟩ = some (.bool o) := Hy.out.cell 1
  have y2 : v10.cell? ⟨yB, 2, none⟩ = some (.int .u64 n1) := Hy.out.cell 2
  have y3 : v10.cell? ⟨yB, 3, none⟩ = some (.int .u64 n2) := Hy.out.cell 3
  have y4 : v10.cell? ⟨yB, 4, none⟩ = some (.string Q) := Hy.out.cell 4
  have y5 : v10.cell? ⟨yB, 5, none⟩ = some (.string P) := Hy.out.cell 5
  go_wp2_with fail
  go_ret
  exact ⟨rfl, HNb.out ▸ HL.out⟩
end Go.Proofs.YtpekbnkmnellpaaDoor
