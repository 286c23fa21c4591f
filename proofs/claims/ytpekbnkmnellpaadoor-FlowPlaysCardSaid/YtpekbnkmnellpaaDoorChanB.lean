/-
  The walks of Try, Ack, Confirm, Close, Closed (printed by gen_chan.py).
-/
import Derived.Test.YtpekbnkmnellpaaDoorChan
namespace Go.Proofs.YtpekbnkmnellpaaDoor
open Go.RowKit
set_option linter.unusedVariables false
set_option maxRecDepth 100000 in
set_option maxHeartbeats 1000000 in
theorem confirm_yes (own : Int) (st0 : Int) (o : Bool) (lk pr : Int) (p q : ByteArray) (pl : Int) (w : World) (h : st0 = 2) :
    Calls Tryd.prog 33 #[.int .u64 own, .agg #[.int .i64 st0, .bool o, .int .u64 lk, .int .u64 pr, .string p, .string q], .int .u64 pl] w fun e w' => e = .returned (.tuple #[.agg #[.int .i64 3, .bool o, .int .u64 lk, .int .u64 pr, .string p, .string q], .agg #[.int .i64 3, .bool o, .int .u64 pl, .int .u64 own, .string q, .string p], .int .i64 0]) ∧ Below w.heap.size w w' := by
  have HH := Lib.hid h
  clear h
  go_enter Tryd.func33, Tryd.ntmps33
  go_wp2_with fail
  have h0 := (((Blk.new w 57 #[.int .i64 st0, .bool o, .int .u64 lk, .int .u64 pr, .string p, .string q]).alloc (.cells #[.int .i64 0, .bool false, .int .u64 0, .int .u64 0, .string ⟨#[]⟩, .string ⟨#[]⟩] 57)).alloc (.cells #[.int .i64 0, .bool false, .int .u64 0, .int .u64 0, .string ⟨#[]⟩, .string ⟨#[]⟩] 57))
  have h1 := ((Blk.new (w.alloc (.cells #[.int .i64 st0, .bool o, .int .u64 lk, .int .u64 pr, .string p, .string q] 57)) 57 #[.int .i64 0, .bool false, .int .u64 0, .int .u64 0, .string ⟨#[]⟩, .string ⟨#[]⟩]).alloc (.cells #[.int .i64 0, .bool false, .int .u64 0, .int .u64 0, .string ⟨#[]⟩, .string ⟨#[]⟩] 57))
  rw [show (w.alloc (.cells #[.int .i64 st0, .bool o, .int .u64 lk, .int .u64 pr, .string p, .string q] 57)).heap.size = w.heap.size + 1 by simp] at h1
  have h2 := (Blk.new ((w.alloc (.cells #[.int .i64 st0, .bool o, .int .u64 lk, .int .u64 pr, .string p, .string q] 57)).alloc (.cells #[.int .i64 0, .bool false, .int .u64 0, .int .u64 0, .string ⟨#[]⟩, .string ⟨#[]⟩] 57)) 57 #[.int .i64 0, .bool false, .int .u64 0, .int .u64 0, .string ⟨#[]⟩, .string ⟨#[]⟩])
  rw [show ((w.alloc (.cells #[.int .i64 st0, .bool o, .int .u64 lk, .int .u64 pr, .string p, .string q] 57)).alloc (.cells #[.int .i64 0, .bool false, .int .u64 0, .int .u64 0, .string ⟨#[]⟩, .string ⟨#[]⟩] 57)).heap.size = w.heap.size + 1 + 1 by simp] at h2
  have hL := (balloc (balloc (balloc (Below.refl _ w) (.cells #[.int .i64 st0, .bool o, .int .u64 lk, .int .u64 pr, .string p, .string q] 57)) (.cells #[.int .i64 0, .bool false, .int .u64 0, .int .u64 0, .string ⟨#[]⟩, .string ⟨#[]⟩] 57)) (.cells #[.int .i64 0, .bool false, .int .u64 0, .int .u64 0, .string ⟨#[]⟩, .string ⟨#[]⟩] 57))
  generalize (((w.alloc (.cells #[.int .i64 st0, .bool o, .int .u64 lk, .int .u64 pr, .string p, .string q] 57)).alloc (.cells #[.int .i64 0, .bool false, .int .u64 0, .int .u64 0, .string ⟨#[]⟩, .string ⟨#[]⟩] 57)).alloc (.cells #[.int .i64 0, .bool false, .int .u64 0, .int .u64 0, .string ⟨#[]⟩, .string ⟨#[]⟩] 57)) = w1 at h0 h1 h2 hL ⊢
  refine (goes_yes own st0 o lk pr p q 2 3 3 pl _ HH.out).mono ?_
  rintro e w2 ⟨rfl, hb2⟩
  have hL2 := bstep hL hb2
  have i1 := h1.below hb2
  have i2 := h2.below hb2
  clear hL hb2 h0 h1 h2
  have d0 : w2.cell? ⟨w.heap.size + 1, 0, none⟩ = some (.int .i64 0) := i1.cell 0
  have fd0 := i1.frozen 0
  have d1 : w2.cell? ⟨w.heap.size + 1, 1, none⟩ = some (.bool false) := i1.cell 1
  have fd1 := i1.frozen 1
  have d2 : w2.cell? ⟨w.heap.size + 1, 2, none⟩ = some (.int .u64 0) := i1.cell 2
  have fd2 := i1.frozen 2
  have d3 : w2.cell? ⟨w.heap.size + 1, 3, none⟩ = some (.int .u64 0) := i1.cell 3
  have fd3 := i1.frozen 3
  have d4 : w2.cell? ⟨w.heap.size + 1, 4, none⟩ = some (.string ⟨#[]⟩) := i1.cell 4
  have fd4 := i1.frozen 4
  have d5 : w2.cell? ⟨w.heap.size + 1, 5, none⟩ = some (.string ⟨#[]⟩) := i1.cell 5
  have fd5 := i1.frozen 5
  have e0 : w2.cell? ⟨w.heap.size + 1 + 1, 0, none⟩ = some (.int .i64 0) := i2.cell 0
  have fe0 := i2.frozen 0
  have e1 : w2.cell? ⟨w.heap.size + 1 + 1, 1, none⟩ = some (.bool false) := i2.cell 1
  have fe1 := i2.frozen 1
  have e2 : w2.cell? ⟨w.heap.size + 1 + 1, 2, none⟩ = some (.int .u64 0) := i2.cell 2
  have fe2 := i2.frozen 2
  have e3 : w2.cell? ⟨w.heap.size + 1 + 1, 3, none⟩ = some (.int .u64 0) := i2.cell 3
  have fe3 := i2.frozen 3
  have e4 : w2.cell? ⟨w.heap.size + 1 + 1, 4, none⟩ = some (.string ⟨#[]⟩) := i2.cell 4
  have fe4 := i2.frozen 4
  have e5 : w2.cell? ⟨w.heap.size + 1 + 1, 5, none⟩ = some (.string ⟨#[]⟩) := i2.cell 5
  have fe5 := i2.frozen 5
  have j1 := (i1.set6 (.int .i64 3) (.bool o) (.int .u64 lk) (.int .u64 pr) (.string p) (.string q)).other6 (w.heap.size + 1 + 1) (by omega) (.int .i64 3) (.bool o) (.int .u64 pl) (.int .u64 own) (.string q) (.string p)
  have j2 := (i2.other6 (w.heap.size + 1) (by omega) (.int .i64 3) (.bool o) (.int .u64 lk) (.int .u64 pr) (.string p) (.string q)).set6 (.int .i64 3) (.bool o) (.int .u64 pl) (.int .u64 own) (.string q) (.string p)
  have jl := below_set6 (below_set6 hL2 (w.heap.size + 1) (by omega) (.int .i64 3) (.bool o) (.int .u64 lk) (.int .u64 pr) (.string p) (.string q)) (w.heap.size + 1 + 1) (by omega) (.int .i64 3) (.bool o) (.int .u64 pl) (.int .u64 own) (.string q) (.string p)
  have J1 := Lib.hid j1
  have J2 := Lib.hid j2
  have JL := Lib.hid jl
  clear j1 j2 jl i1 i2 hL2
  go_wp2_with fail
  simp only [setC6] at J1 J2 JL
  generalize ((((((((((((w2.setCell ⟨w.heap.size + 1, 0, none⟩ (.int .i64 3)).setCell ⟨w.heap.size + 1, 1, none⟩ (.bool o)).setCell ⟨w.heap.size + 1, 2, none⟩ (.int .u64 lk)).setCell ⟨w.heap.size + 1, 3, none⟩ (.int .u64 pr)).setCell ⟨w.heap.size + 1, 4, none⟩ (.string p)).setCell ⟨w.heap.size + 1, 5, none⟩ (.string q)).setCell ⟨w.heap.size + 1 + 1, 0, none⟩ (.int .i64 3)).setCell ⟨w.heap.size + 1 + 1, 1, none⟩ (.bool o)).setCell ⟨w.heap.size + 1 + 1, 2, none⟩ (.int .u64 pl)).setCell ⟨w.heap.size + 1 + 1, 3, none⟩ (.int .u64 own)).setCell ⟨w.heap.size + 1 + 1, 4, none⟩ (.string q)).setCell ⟨w.heap.size + 1 + 1, 5, none⟩ (.string p)) = w3 at J1 J2 JL ⊢
  clear d0 fd0 e0 fe0 d1 fd1 e1 fe1 d2 fd2 e2 fe2 d3 fd3 e3 fe3 d4 fd4 e4 fe4 d5 fd5 e5 fe5
  have d0 : w3.cell? ⟨w.heap.size + 1, 0, none⟩ = some (.int .i64 3) := J1.out.cell 0
  have d1 : w3.cell? ⟨w.heap.size + 1, 1, none⟩ = some (.bool o) := J1.out.cell 1
  have d2 : w3.cell? ⟨w.heap.size + 1, 2, none⟩ = some (.int .u64 lk) := J1.out.cell 2
  have d3 : w3.cell? ⟨w.heap.size + 1, 3, none⟩ = some (.int .u64 pr) := J1.out.cell 3
  have d4 : w3.cell? ⟨w.heap.size + 1, 4, none⟩ = some (.string p) := J1.out.cell 4
  have d5 : w3.cell? ⟨w.heap.size + 1, 5, none⟩ = some (.string q) := J1.out.cell 5
  have e0 : w3.cell? ⟨w.heap.size + 1 + 1, 0, none⟩ = some (.int .i64 3) := J2.out.cell 0
  have e1 : w3.cell? ⟨w.heap.size + 1 + 1, 1, none⟩ = some (.bool o) := J2.out.cell 1
  have e2 : w3.cell? ⟨w.heap.size + 1 + 1, 2, none⟩ = some (.int .u64 pl) := J2.out.cell 2
  have e3 : w3.cell? ⟨w.heap.size + 1 + 1, 3, none⟩ = some (.int .u64 own) := J2.out.cell 3
  have e4 : w3.cell? ⟨w.heap.size + 1 + 1, 4, none⟩ = some (.string q) := J2.out.cell 4
  have e5 : w3.cell? ⟨w.heap.size + 1 + 1, 5, none⟩ = some (.string p) := J2.out.cell 5
  exact bodyPost_ret (v := .tuple #[.agg #[.int .i64 3, .bool o, .int .u64 lk, .int .u64 pr, .string p, .string q], .agg #[.int .i64 3, .bool o, .int .u64 pl, .int .u64 own, .string q, .string p], .int .i64 0]) (by simp [results, Tryd.results33, go_sem, d0, e0, d1, e1, d2, e2, d3, e3, d4, e4, d5, e5]) rfl ⟨rfl, JL.out⟩
set_option maxRecDepth 100000 in
set_option maxHeartbeats 1000000 in
theorem confirm_no (own : Int) (st0 : Int) (o : Bool) (lk pr : Int) (p q : ByteArray) (pl : Int) (w : World) (h : st0 ≠ 2) :
    Calls Tryd.prog 33 #[.int .u64 own, .agg #[.int .i64 st0, .bool o, .int .u64 lk, .int .u64 pr, .string p, .string q], .int .u64 pl] w fun e w' => e = .returned (.tuple #[.agg #[.int .i64 0, .bool false, .int .u64 0, .int .u64 0, .string ⟨#[]⟩, .string ⟨#[]⟩], .agg #[.int .i64 0, .bool false, .int .u64 0, .int .u64 0, .string ⟨#[]⟩, .string ⟨#[]⟩], .int .i64 180]) ∧ Below w.heap.size w w' := by
  have HH := Lib.hid h
  clear h
  go_enter Tryd.func33, Tryd.ntmps33
  go_wp2_with fail
  have h0 := (((Blk.new w 57 #[.int .i64 st0, .bool o, .int .u64 lk, .int .u64 pr, .string p, .string q]).alloc (.cells #[.int .i64 0, .bool false, .int .u64 0, .int .u64 0, .string ⟨#[]⟩, .string ⟨#[]⟩] 57)).alloc (.cells #[.int .i64 0, .bool false, .int .u64 0, .int .u64 0, .string ⟨#[]⟩, .string ⟨#[]⟩] 57))
  have h1 := ((Blk.new (w.alloc (.cells #[.int .i64 st0, .bool o, .int .u64 lk, .int .u64 pr, .string p, .string q] 57)) 57 #[.int .i64 0, .bool false, .int .u64 0, .int .u64 0, .string ⟨#[]⟩, .string ⟨#[]⟩]).alloc (.cells #[.int .i64 0, .bool false, .int .u64 0, .int .u64 0, .string ⟨#[]⟩, .string ⟨#[]⟩] 57))
  rw [show (w.alloc (.cells #[.int .i64 st0, .bool o, .int .u64 lk, .int .u64 pr, .string p, .string q] 57)).heap.size = w.heap.size + 1 by simp] at h1
  have h2 := (Blk.new ((w.alloc (.cells #[.int .i64 st0, .bool o, .int .u64 lk, .int .u64 pr, .string p, .string q] 57)).alloc (.cells #[.int .i64 0, .bool false, .int .u64 0, .int .u64 0, .string ⟨#[]⟩, .string ⟨#[]⟩] 57)) 57 #[.int .i64 0, .bool false, .int .u64 0, .int .u64 0, .string ⟨#[]⟩, .string ⟨#[]⟩])
  rw [show ((w.alloc (.cells #[.int .i64 st0, .bool o, .int .u64 lk, .int .u64 pr, .string p, .string q] 57)).alloc (.cells #[.int .i64 0, .bool false, .int .u64 0, .int .u64 0, .string ⟨#[]⟩, .string ⟨#[]⟩] 57)).heap.size = w.heap.size + 1 + 1 by simp] at h2
  have hL := (balloc (balloc (balloc (Below.refl _ w) (.cells #[.int .i64 st0, .bool o, .int .u64 lk, .int .u64 pr, .string p, .string q] 57)) (.cells #[.int .i64 0, .bool false, .int .u64 0, .int .u64 0, .string ⟨#[]⟩, .string ⟨#[]⟩] 57)) (.cells #[.int .i64 0, .bool false, .int .u64 0, .int .u64 0, .string ⟨#[]⟩, .string ⟨#[]⟩] 57))
  generalize (((w.alloc (.cells #[.int .i64 st0, .bool o, .int .u64 lk, .int .u64 pr, .string p, .string q] 57)).alloc (.cells #[.int .i64 0, .bool false, .int .u64 0, .int .u64 0, .string ⟨#[]⟩, .string ⟨#[]⟩] 57)).alloc (.cells #[.int .i64 0, .bool false, .int .u64 0, .int .u64 0, .string ⟨#[]⟩, .string ⟨#[]⟩] 57)) = w1 at h0 h1 h2 hL ⊢
  refine (goes_no own st0 o lk pr p q 2 3 3 pl _ HH.out).mono ?_
  rintro e w2 ⟨rfl, hb2⟩
  have hL2 := bstep hL hb2
  have i1 := h1.below hb2
  have i2 := h2.below hb2
  clear hL hb2 h0 h1 h2
  have d0 : w2.cell? ⟨w.heap.size + 1, 0, none⟩ = some (.int .i64 0) := i1.cell 0
  have fd0 := i1.frozen 0
  have d1 : w2.cell? ⟨w.heap.size + 1, 1, none⟩ = some (.bool false) := i1.cell 1
  have fd1 := i1.frozen 1
  have d2 : w2.cell? ⟨w.heap.size + 1, 2, none⟩ = some (.int .u64 0) := i1.cell 2
  have fd2 := i1.frozen 2
  have d3 : w2.cell? ⟨w.heap.size + 1, 3, none⟩ = some (.int .u64 0) := i1.cell 3
  have fd3 := i1.frozen 3
  have d4 : w2.cell? ⟨w.heap.size + 1, 4, none⟩ = some (.string ⟨#[]⟩) := i1.cell 4
  have fd4 := i1.frozen 4
  have d5 : w2.cell? ⟨w.heap.size + 1, 5, none⟩ = some (.string ⟨#[]⟩) := i1.cell 5
  have fd5 := i1.frozen 5
  have e0 : w2.cell? ⟨w.heap.size + 1 + 1, 0, none⟩ = some (.int .i64 0) := i2.cell 0
  have fe0 := i2.frozen 0
  have e1 : w2.cell? ⟨w.heap.size + 1 + 1, 1, none⟩ = some (.bool false) := i2.cell 1
  have fe1 := i2.frozen 1
  have e2 : w2.cell? ⟨w.heap.size + 1 + 1, 2, none⟩ = some (.int .u64 0) := i2.cell 2
  have fe2 := i2.frozen 2
  have e3 : w2.cell? ⟨w.heap.size + 1 + 1, 3, none⟩ = some (.int .u64 0) := i2.cell 3
  have fe3 := i2.frozen 3
  have e4 : w2.cell? ⟨w.heap.size + 1 + 1, 4, none⟩ = some (.string ⟨#[]⟩) := i2.cell 4
  have fe4 := i2.frozen 4
  have e5 : w2.cell? ⟨w.heap.size + 1 + 1, 5, none⟩ = some (.string ⟨#[]⟩) := i2.cell 5
  have fe5 := i2.frozen 5
  have j1 := (i1.set6 (.int .i64 0) (.bool false) (.int .u64 0) (.int .u64 0) (.string ⟨#[]⟩) (.string ⟨#[]⟩)).other6 (w.heap.size + 1 + 1) (by omega) (.int .i64 0) (.bool false) (.int .u64 0) (.int .u64 0) (.string ⟨#[]⟩) (.string ⟨#[]⟩)
  have j2 := (i2.other6 (w.heap.size + 1) (by omega) (.int .i64 0) (.bool false) (.int .u64 0) (.int .u64 0) (.string ⟨#[]⟩) (.string ⟨#[]⟩)).set6 (.int .i64 0) (.bool false) (.int .u64 0) (.int .u64 0) (.string ⟨#[]⟩) (.string ⟨#[]⟩)
  have jl := below_set6 (below_set6 hL2 (w.heap.size + 1) (by omega) (.int .i64 0) (.bool false) (.int .u64 0) (.int .u64 0) (.string ⟨#[]⟩) (.string ⟨#[]⟩)) (w.heap.size + 1 + 1) (by omega) (.int .i64 0) (.bool false) (.int .u64 0) (.int .u64 0) (.string ⟨#[]⟩) (.string ⟨#[]⟩)
  have J1 := Lib.hid j1
  have J2 := Lib.hid j2
  have JL := Lib.hid jl
  clear j1 j2 jl i1 i2 hL2
  go_wp2_with fail
  simp only [setC6] at J1 J2 JL
  generalize ((((((((((((w2.setCell ⟨w.heap.size + 1, 0, none⟩ (.int .i64 0)).setCell ⟨w.heap.size + 1, 1, none⟩ (.bool false)).setCell ⟨w.heap.size + 1, 2, none⟩ (.int .u64 0)).setCell ⟨w.heap.size + 1, 3, none⟩ (.int .u64 0)).setCell ⟨w.heap.size + 1, 4, none⟩ (.string ⟨#[]⟩)).setCell ⟨w.heap.size + 1, 5, none⟩ (.string ⟨#[]⟩)).setCell ⟨w.heap.size + 1 + 1, 0, none⟩ (.int .i64 0)).setCell ⟨w.heap.size + 1 + 1, 1, none⟩ (.bool false)).setCell ⟨w.heap.size + 1 + 1, 2, none⟩ (.int .u64 0)).setCell ⟨w.heap.size + 1 + 1, 3, none⟩ (.int .u64 0)).setCell ⟨w.heap.size + 1 + 1, 4, none⟩ (.string ⟨#[]⟩)).setCell ⟨w.heap.size + 1 + 1, 5, none⟩ (.string ⟨#[]⟩)) = w3 at J1 J2 JL ⊢
  clear d0 fd0 e0 fe0 d1 fd1 e1 fe1 d2 fd2 e2 fe2 d3 fd3 e3 fe3 d4 fd4 e4 fe4 d5 fd5 e5 fe5
  have d0 : w3.cell? ⟨w.heap.size + 1, 0, none⟩ = some (.int .i64 0) := J1.out.cell 0
  have d1 : w3.cell? ⟨w.heap.size + 1, 1, none⟩ = some (.bool false) := J1.out.cell 1
  have d2 : w3.cell? ⟨w.heap.size + 1, 2, none⟩ = some (.int .u64 0) := J1.out.cell 2
  have d3 : w3.cell? ⟨w.heap.size + 1, 3, none⟩ = some (.int .u64 0) := J1.out.cell 3
  have d4 : w3.cell? ⟨w.heap.size + 1, 4, none⟩ = some (.string ⟨#[]⟩) := J1.out.cell 4
  have d5 : w3.cell? ⟨w.heap.size + 1, 5, none⟩ = some (.string ⟨#[]⟩) := J1.out.cell 5
  have e0 : w3.cell? ⟨w.heap.size + 1 + 1, 0, none⟩ = some (.int .i64 0) := J2.out.cell 0
  have e1 : w3.cell? ⟨w.heap.size + 1 + 1, 1, none⟩ = some (.bool false) := J2.out.cell 1
  have e2 : w3.cell? ⟨w.heap.size + 1 + 1, 2, none⟩ = some (.int .u64 0) := J2.out.cell 2
  have e3 : w3.cell? ⟨w.heap.size + 1 + 1, 3, none⟩ = some (.int .u64 0) := J2.out.cell 3
  have e4 : w3.cell? ⟨w.heap.size + 1 + 1, 4, none⟩ = some (.string ⟨#[]⟩) := J2.out.cell 4
  have e5 : w3.cell? ⟨w.heap.size + 1 + 1, 5, none⟩ = some (.string ⟨#[]⟩) := J2.out.cell 5
  exact bodyPost_ret (v := .tuple #[.agg #[.int .i64 0, .bool false, .int .u64 0, .int .u64 0, .string ⟨#[]⟩, .string ⟨#[]⟩], .agg #[.int .i64 0, .bool false, .int .u64 0, .int .u64 0, .string ⟨#[]⟩, .string ⟨#[]⟩], .int .i64 180]) (by simp [results, Tryd.results33, go_sem, d0, e0, d1, e1, d2, e2, d3, e3, d4, e4, d5, e5]) rfl ⟨rfl, JL.out⟩
set_option maxRecDepth 100000 in
set_option maxHeartbeats 1000000 in
theorem closed_yes (own : Int) (st0 : Int) (o : Bool) (lk pr : Int) (p q : ByteArray) (pl : Int) (w : World) (h : st0 = 3) :
    Calls Tryd.prog 35 #[.int .u64 own, .agg #[.int .i64 st0, .bool o, .int .u64 lk, .int .u64 pr, .string p, .string q], .int .u64 pl] w fun e w' => e = .returned (.tuple #[.agg #[.int .i64 4, .bool o, .int .u64 lk, .int .u64 pr, .string p, .string q], .agg #[.int .i64 4, .bool o, .int .u64 pl, .int .u64 own, .string q, .string p], .int .i64 0]) ∧ Below w.heap.size w w' := by
  have HH := Lib.hid h
  clear h
  go_enter Tryd.func35, Tryd.ntmps35
  go_wp2_with fail
  have h0 := (((Blk.new w 57 #[.int .i64 st0, .bool o, .int .u64 lk, .int .u64 pr, .string p, .string q]).alloc (.cells #[.int .i64 0, .bool false, .int .u64 0, .int .u64 0, .string ⟨#[]⟩, .string ⟨#[]⟩] 57)).alloc (.cells #[.int .i64 0, .bool false, .int .u64 0, .int .u64 0, .string ⟨#[]⟩, .string ⟨#[]⟩] 57))
  have h1 := ((Blk.new (w.alloc (.cells #[.int .i64 st0, .bool o, .int .u64 lk, .int .u64 pr, .string p, .string q] 57)) 57 #[.int .i64 0, .bool false, .int .u64 0, .int .u64 0, .string ⟨#[]⟩, .string ⟨#[]⟩]).alloc (.cells #[.int .i64 0, .bool false, .int .u64 0, .int .u64 0, .string ⟨#[]⟩, .string ⟨#[]⟩] 57))
  rw [show (w.alloc (.cells #[.int .i64 st0, .bool o, .int .u64 lk, .int .u64 pr, .string p, .string q] 57)).heap.size = w.heap.size + 1 by simp] at h1
  have h2 := (Blk.new ((w.alloc (.cells #[.int .i64 st0, .bool o, .int .u64 lk, .int .u64 pr, .string p, .string q] 57)).alloc (.cells #[.int .i64 0, .bool false, .int .u64 0, .int .u64 0, .string ⟨#[]⟩, .string ⟨#[]⟩] 57)) 57 #[.int .i64 0, .bool false, .int .u64 0, .int .u64 0, .string ⟨#[]⟩, .string ⟨#[]⟩])
  rw [show ((w.alloc (.cells #[.int .i64 st0, .bool o, .int .u64 lk, .int .u64 pr, .string p, .string q] 57)).alloc (.cells #[.int .i64 0, .bool false, .int .u64 0, .int .u64 0, .string ⟨#[]⟩, .string ⟨#[]⟩] 57)).heap.size = w.heap.size + 1 + 1 by simp] at h2
  have hL := (balloc (balloc (balloc (Below.refl _ w) (.cells #[.int .i64 st0, .bool o, .int .u64 lk, .int .u64 pr, .string p, .string q] 57)) (.cells #[.int .i64 0, .bool false, .int .u64 0, .int .u64 0, .string ⟨#[]⟩, .string ⟨#[]⟩] 57)) (.cells #[.int .i64 0, .bool false, .int .u64 0, .int .u64 0, .string ⟨#[]⟩, .string ⟨#[]⟩] 57))
  generalize (((w.alloc (.cells #[.int .i64 st0, .bool o, .int .u64 lk, .int .u64 pr, .string p, .string q] 57)).alloc (.cells #[.int .i64 0, .bool false, .int .u64 0, .int .u64 0, .string ⟨#[]⟩, .string ⟨#[]⟩] 57)).alloc (.cells #[.int .i64 0, .bool false, .int .u64 0, .int .u64 0, .string ⟨#[]⟩, .string ⟨#[]⟩] 57)) = w1 at h0 h1 h2 hL ⊢
  refine (goes_yes own st0 o lk pr p q 3 4 4 pl _ HH.out).mono ?_
  rintro e w2 ⟨rfl, hb2⟩
  have hL2 := bstep hL hb2
  have i1 := h1.below hb2
  have i2 := h2.below hb2
  clear hL hb2 h0 h1 h2
  have d0 : w2.cell? ⟨w.heap.size + 1, 0, none⟩ = some (.int .i64 0) := i1.cell 0
  have fd0 := i1.frozen 0
  have d1 : w2.cell? ⟨w.heap.size + 1, 1, none⟩ = some (.bool false) := i1.cell 1
  have fd1 := i1.frozen 1
  have d2 : w2.cell? ⟨w.heap.size + 1, 2, none⟩ = some (.int .u64 0) := i1.cell 2
  have fd2 := i1.frozen 2
  have d3 : w2.cell? ⟨w.heap.size + 1, 3, none⟩ = some (.int .u64 0) := i1.cell 3
  have fd3 := i1.frozen 3
  have d4 : w2.cell? ⟨w.heap.size + 1, 4, none⟩ = some (.string ⟨#[]⟩) := i1.cell 4
  have fd4 := i1.frozen 4
  have d5 : w2.cell? ⟨w.heap.size + 1, 5, none⟩ = some (.string ⟨#[]⟩) := i1.cell 5
  have fd5 := i1.frozen 5
  have e0 : w2.cell? ⟨w.heap.size + 1 + 1, 0, none⟩ = some (.int .i64 0) := i2.cell 0
  have fe0 := i2.frozen 0
  have e1 : w2.cell? ⟨w.heap.size + 1 + 1, 1, none⟩ = some (.bool false) := i2.cell 1
  have fe1 := i2.frozen 1
  have e2 : w2.cell? ⟨w.heap.size + 1 + 1, 2, none⟩ = some (.int .u64 0) := i2.cell 2
  have fe2 := i2.frozen 2
  have e3 : w2.cell? ⟨w.heap.size + 1 + 1, 3, none⟩ = some (.int .u64 0) := i2.cell 3
  have fe3 := i2.frozen 3
  have e4 : w2.cell? ⟨w.heap.size + 1 + 1, 4, none⟩ = some (.string ⟨#[]⟩) := i2.cell 4
  have fe4 := i2.frozen 4
  have e5 : w2.cell? ⟨w.heap.size + 1 + 1, 5, none⟩ = some (.string ⟨#[]⟩) := i2.cell 5
  have fe5 := i2.frozen 5
  have j1 := (i1.set6 (.int .i64 4) (.bool o) (.int .u64 lk) (.int .u64 pr) (.string p) (.string q)).other6 (w.heap.size + 1 + 1) (by omega) (.int .i64 4) (.bool o) (.int .u64 pl) (.int .u64 own) (.string q) (.string p)
  have j2 := (i2.other6 (w.heap.size + 1) (by omega) (.int .i64 4) (.bool o) (.int .u64 lk) (.int .u64 pr) (.string p) (.string q)).set6 (.int .i64 4) (.bool o) (.int .u64 pl) (.int .u64 own) (.string q) (.string p)
  have jl := below_set6 (below_set6 hL2 (w.heap.size + 1) (by omega) (.int .i64 4) (.bool o) (.int .u64 lk) (.int .u64 pr) (.string p) (.string q)) (w.heap.size + 1 + 1) (by omega) (.int .i64 4) (.bool o) (.int .u64 pl) (.int .u64 own) (.string q) (.string p)
  have J1 := Lib.hid j1
  have J2 := Lib.hid j2
  have JL := Lib.hid jl
  clear j1 j2 jl i1 i2 hL2
  go_wp2_with fail
  simp only [setC6] at J1 J2 JL
  generalize ((((((((((((w2.setCell ⟨w.heap.size + 1, 0, none⟩ (.int .i64 4)).setCell ⟨w.heap.size + 1, 1, none⟩ (.bool o)).setCell ⟨w.heap.size + 1, 2, none⟩ (.int .u64 lk)).setCell ⟨w.heap.size + 1, 3, none⟩ (.int .u64 pr)).setCell ⟨w.heap.size + 1, 4, none⟩ (.string p)).setCell ⟨w.heap.size + 1, 5, none⟩ (.string q)).setCell ⟨w.heap.size + 1 + 1, 0, none⟩ (.int .i64 4)).setCell ⟨w.heap.size + 1 + 1, 1, none⟩ (.bool o)).setCell ⟨w.heap.size + 1 + 1, 2, none⟩ (.int .u64 pl)).setCell ⟨w.heap.size + 1 + 1, 3, none⟩ (.int .u64 own)).setCell ⟨w.heap.size + 1 + 1, 4, none⟩ (.string q)).setCell ⟨w.heap.size + 1 + 1, 5, none⟩ (.string p)) = w3 at J1 J2 JL ⊢
  clear d0 fd0 e0 fe0 d1 fd1 e1 fe1 d2 fd2 e2 fe2 d3 fd3 e3 fe3 d4 fd4 e4 fe4 d5 fd5 e5 fe5
  have d0 : w3.cell? ⟨w.heap.size + 1, 0, none⟩ = some (.int .i64 4) := J1.out.cell 0
  have d1 : w3.cell? ⟨w.heap.size + 1, 1, none⟩ = some (.bool o) := J1.out.cell 1
  have d2 : w3.cell? ⟨w.heap.size + 1, 2, none⟩ = some (.int .u64 lk) := J1.out.cell 2
  have d3 : w3.cell? ⟨w.heap.size + 1, 3, none⟩ = some (.int .u64 pr) := J1.out.cell 3
  have d4 : w3.cell? ⟨w.heap.size + 1, 4, none⟩ = some (.string p) := J1.out.cell 4
  have d5 : w3.cell? ⟨w.heap.size + 1, 5, none⟩ = some (.string q) := J1.out.cell 5
  have e0 : w3.cell? ⟨w.heap.size + 1 + 1, 0, none⟩ = some (.int .i64 4) := J2.out.cell 0
  have e1 : w3.cell? ⟨w.heap.size + 1 + 1, 1, none⟩ = some (.bool o) := J2.out.cell 1
  have e2 : w3.cell? ⟨w.heap.size + 1 + 1, 2, none⟩ = some (.int .u64 pl) := J2.out.cell 2
  have e3 : w3.cell? ⟨w.heap.size + 1 + 1, 3, none⟩ = some (.int .u64 own) := J2.out.cell 3
  have e4 : w3.cell? ⟨w.heap.size + 1 + 1, 4, none⟩ = some (.string q) := J2.out.cell 4
  have e5 : w3.cell? ⟨w.heap.size + 1 + 1, 5, none⟩ = some (.string p) := J2.out.cell 5
  exact bodyPost_ret (v := .tuple #[.agg #[.int .i64 4, .bool o, .int .u64 lk, .int .u64 pr, .string p, .string q], .agg #[.int .i64 4, .bool o, .int .u64 pl, .int .u64 own, .string q, .string p], .int .i64 0]) (by simp [results, Tryd.results35, go_sem, d0, e0, d1, e1, d2, e2, d3, e3, d4, e4, d5, e5]) rfl ⟨rfl, JL.out⟩
set_option maxRecDepth 100000 in
set_option maxHeartbeats 1000000 in
theorem closed_no (own : Int) (st0 : Int) (o : Bool) (lk pr : Int) (p q : ByteArray) (pl : Int) (w : World) (h : st0 ≠ 3) :
    Calls Tryd.prog 35 #[.int .u64 own, .agg #[.int .i64 st0, .bool o, .int .u64 lk, .int .u64 pr, .string p, .string q], .int .u64 pl] w fun e w' => e = .returned (.tuple #[.agg #[.int .i64 0, .bool false, .int .u64 0, .int .u64 0, .string ⟨#[]⟩, .string ⟨#[]⟩], .agg #[.int .i64 0, .bool false, .int .u64 0, .int .u64 0, .string ⟨#[]⟩, .string ⟨#[]⟩], .int .i64 180]) ∧ Below w.heap.size w w' := by
  have HH := Lib.hid h
  clear h
  go_enter Tryd.func35, Tryd.ntmps35
  go_wp2_with fail
  have h0 := (((Blk.new w 57 #[.int .i64 st0, .bool o, .int .u64 lk, .int .u64 pr, .string p, .string q]).alloc (.cells #[.int .i64 0, .bool false, .int .u64 0, .int .u64 0, .string ⟨#[]⟩, .string ⟨#[]⟩] 57)).alloc (.cells #[.int .i64 0, .bool false, .int .u64 0, .int .u64 0, .string ⟨#[]⟩, .string ⟨#[]⟩] 57))
  have h1 := ((Blk.new (w.alloc (.cells #[.int .i64 st0, .bool o, .int .u64 lk, .int .u64 pr, .string p, .string q] 57)) 57 #[.int .i64 0, .bool false, .int .u64 0, .int .u64 0, .string ⟨#[]⟩, .string ⟨#[]⟩]).alloc (.cells #[.int .i64 0, .bool false, .int .u64 0, .int .u64 0, .string ⟨#[]⟩, .string ⟨#[]⟩] 57))
  rw [show (w.alloc (.cells #[.int .i64 st0, .bool o, .int .u64 lk, .int .u64 pr, .string p, .string q] 57)).heap.size = w.heap.size + 1 by simp] at h1
  have h2 := (Blk.new ((w.alloc (.cells #[.int .i64 st0, .bool o, .int .u64 lk, .int .u64 pr, .string p, .string q] 57)).alloc (.cells #[.int .i64 0, .bool false, .int .u64 0, .int .u64 0, .string ⟨#[]⟩, .string ⟨#[]⟩] 57)) 57 #[.int .i64 0, .bool false, .int .u64 0, .int .u64 0, .string ⟨#[]⟩, .string ⟨#[]⟩])
  rw [show ((w.alloc (.cells #[.int .i64 st0, .bool o, .int .u64 lk, .int .u64 pr, .string p, .string q] 57)).alloc (.cells #[.int .i64 0, .bool false, .int .u64 0, .int .u64 0, .string ⟨#[]⟩, .string ⟨#[]⟩] 57)).heap.size = w.heap.size + 1 + 1 by simp] at h2
  have hL := (balloc (balloc (balloc (Below.refl _ w) (.cells #[.int .i64 st0, .bool o, .int .u64 lk, .int .u64 pr, .string p, .string q] 57)) (.cells #[.int .i64 0, .bool false, .int .u64 0, .int .u64 0, .string ⟨#[]⟩, .string ⟨#[]⟩] 57)) (.cells #[.int .i64 0, .bool false, .int .u64 0, .int .u64 0, .string ⟨#[]⟩, .string ⟨#[]⟩] 57))
  generalize (((w.alloc (.cells #[.int .i64 st0, .bool o, .int .u64 lk, .int .u64 pr, .string p, .string q] 57)).alloc (.cells #[.int .i64 0, .bool false, .int .u64 0, .int .u64 0, .string ⟨#[]⟩, .string ⟨#[]⟩] 57)).alloc (.cells #[.int .i64 0, .bool false, .int .u64 0, .int .u64 0, .string ⟨#[]⟩, .string ⟨#[]⟩] 57)) = w1 at h0 h1 h2 hL ⊢
  refine (goes_no own st0 o lk pr p q 3 4 4 pl _ HH.out).mono ?_
  rintro e w2 ⟨rfl, hb2⟩
  have hL2 := bstep hL hb2
  have i1 := h1.below hb2
  have i2 := h2.below hb2
  clear hL hb2 h0 h1 h2
  have d0 : w2.cell? ⟨w.heap.size + 1, 0, none⟩ = some (.int .i64 0) := i1.cell 0
  have fd0 := i1.frozen 0
  have d1 : w2.cell? ⟨w.heap.size + 1, 1, none⟩ = some (.bool false) := i1.cell 1
  have fd1 := i1.frozen 1
  have d2 : w2.cell? ⟨w.heap.size + 1, 2, none⟩ = some (.int .u64 0) := i1.cell 2
  have fd2 := i1.frozen 2
  have d3 : w2.cell? ⟨w.heap.size + 1, 3, none⟩ = some (.int .u64 0) := i1.cell 3
  have fd3 := i1.frozen 3
  have d4 : w2.cell? ⟨w.heap.size + 1, 4, none⟩ = some (.string ⟨#[]⟩) := i1.cell 4
  have fd4 := i1.frozen 4
  have d5 : w2.cell? ⟨w.heap.size + 1, 5, none⟩ = some (.string ⟨#[]⟩) := i1.cell 5
  have fd5 := i1.frozen 5
  have e0 : w2.cell? ⟨w.heap.size + 1 + 1, 0, none⟩ = some (.int .i64 0) := i2.cell 0
  have fe0 := i2.frozen 0
  have e1 : w2.cell? ⟨w.heap.size + 1 + 1, 1, none⟩ = some (.bool false) := i2.cell 1
  have fe1 := i2.frozen 1
  have e2 : w2.cell? ⟨w.heap.size + 1 + 1, 2, none⟩ = some (.int .u64 0) := i2.cell 2
  have fe2 := i2.frozen 2
  have e3 : w2.cell? ⟨w.heap.size + 1 + 1, 3, none⟩ = some (.int .u64 0) := i2.cell 3
  have fe3 := i2.frozen 3
  have e4 : w2.cell? ⟨w.heap.size + 1 + 1, 4, none⟩ = some (.string ⟨#[]⟩) := i2.cell 4
  have fe4 := i2.frozen 4
  have e5 : w2.cell? ⟨w.heap.size + 1 + 1, 5, none⟩ = some (.string ⟨#[]⟩) := i2.cell 5
  have fe5 := i2.frozen 5
  have j1 := (i1.set6 (.int .i64 0) (.bool false) (.int .u64 0) (.int .u64 0) (.string ⟨#[]⟩) (.string ⟨#[]⟩)).other6 (w.heap.size + 1 + 1) (by omega) (.int .i64 0) (.bool false) (.int .u64 0) (.int .u64 0) (.string ⟨#[]⟩) (.string ⟨#[]⟩)
  have j2 := (i2.other6 (w.heap.size + 1) (by omega) (.int .i64 0) (.bool false) (.int .u64 0) (.int .u64 0) (.string ⟨#[]⟩) (.string ⟨#[]⟩)).set6 (.int .i64 0) (.bool false) (.int .u64 0) (.int .u64 0) (.string ⟨#[]⟩) (.string ⟨#[]⟩)
  have jl := below_set6 (below_set6 hL2 (w.heap.size + 1) (by omega) (.int .i64 0) (.bool false) (.int .u64 0) (.int .u64 0) (.string ⟨#[]⟩) (.string ⟨#[]⟩)) (w.heap.size + 1 + 1) (by omega) (.int .i64 0) (.bool false) (.int .u64 0) (.int .u64 0) (.string ⟨#[]⟩) (.string ⟨#[]⟩)
  have J1 := Lib.hid j1
  have J2 := Lib.hid j2
  have JL := Lib.hid jl
  clear j1 j2 jl i1 i2 hL2
  go_wp2_with fail
  simp only [setC6] at J1 J2 JL
  generalize ((((((((((((w2.setCell ⟨w.heap.size + 1, 0, none⟩ (.int .i64 0)).setCell ⟨w.heap.size + 1, 1, none⟩ (.bool false)).setCell ⟨w.heap.size + 1, 2, none⟩ (.int .u64 0)).setCell ⟨w.heap.size + 1, 3, none⟩ (.int .u64 0)).setCell ⟨w.heap.size + 1, 4, none⟩ (.string ⟨#[]⟩)).setCell ⟨w.heap.size + 1, 5, none⟩ (.string ⟨#[]⟩)).setCell ⟨w.heap.size + 1 + 1, 0, none⟩ (.int .i64 0)).setCell ⟨w.heap.size + 1 + 1, 1, none⟩ (.bool false)).setCell ⟨w.heap.size + 1 + 1, 2, none⟩ (.int .u64 0)).setCell ⟨w.heap.size + 1 + 1, 3, none⟩ (.int .u64 0)).setCell ⟨w.heap.size + 1 + 1, 4, none⟩ (.string ⟨#[]⟩)).setCell ⟨w.heap.size + 1 + 1, 5, none⟩ (.string ⟨#[]⟩)) = w3 at J1 J2 JL ⊢
  clear d0 fd0 e0 fe0 d1 fd1 e1 fe1 d2 fd2 e2 fe2 d3 fd3 e3 fe3 d4 fd4 e4 fe4 d5 fd5 e5 fe5
  have d0 : w3.cell? ⟨w.heap.size + 1, 0, none⟩ = some (.int .i64 0) := J1.out.cell 0
  have d1 : w3.cell? ⟨w.heap.size + 1, 1, none⟩ = some (.bool false) := J1.out.cell 1
  have d2 : w3.cell? ⟨w.heap.size + 1, 2, none⟩ = some (.int .u64 0) := J1.out.cell 2
  have d3 : w3.cell? ⟨w.heap.size + 1, 3, none⟩ = some (.int .u64 0) := J1.out.cell 3
  have d4 : w3.cell? ⟨w.heap.size + 1, 4, none⟩ = some (.string ⟨#[]⟩) := J1.out.cell 4
  have d5 : w3.cell? ⟨w.heap.size + 1, 5, none⟩ = some (.string ⟨#[]⟩) := J1.out.cell 5
  have e0 : w3.cell? ⟨w.heap.size + 1 + 1, 0, none⟩ = some (.int .i64 0) := J2.out.cell 0
  have e1 : w3.cell? ⟨w.heap.size + 1 + 1, 1, none⟩ = some (.bool false) := J2.out.cell 1
  have e2 : w3.cell? ⟨w.heap.size + 1 + 1, 2, none⟩ = some (.int .u64 0) := J2.out.cell 2
  have e3 : w3.cell? ⟨w.heap.size + 1 + 1, 3, none⟩ = some (.int .u64 0) := J2.out.cell 3
  have e4 : w3.cell? ⟨w.heap.size + 1 + 1, 4, none⟩ = some (.string ⟨#[]⟩) := J2.out.cell 4
  have e5 : w3.cell? ⟨w.heap.size + 1 + 1, 5, none⟩ = some (.string ⟨#[]⟩) := J2.out.cell 5
  exact bodyPost_ret (v := .tuple #[.agg #[.int .i64 0, .bool false, .int .u64 0, .int .u64 0, .string ⟨#[]⟩, .string ⟨#[]⟩], .agg #[.int .i64 0, .bool false, .int .u64 0, .int .u64 0, .string ⟨#[]⟩, .string ⟨#[]⟩], .int .i64 180]) (by simp [results, Tryd.results35, go_sem, d0, e0, d1, e1, d2, e2, d3, e3, d4, e4, d5, e5]) rfl ⟨rfl, JL.out⟩
set_option maxRecDepth 100000 in
set_option maxHeartbeats 1000000 in
theorem ack_yes (own : Int) (st0 : Int) (o : Bool) (lk pr : Int) (p q : ByteArray) (pl : Int) (peer : Int) (w : World) (h : st0 = 1) :
    Calls Tryd.prog 32 #[.int .u64 own, .agg #[.int .i64 st0, .bool o, .int .u64 lk, .int .u64 pr, .string p, .string q], .int .u64 pl, .int .u64 peer] w fun e w' => e = .returned (.tuple #[.agg #[.int .i64 3, .bool o, .int .u64 lk, .int .u64 peer, .string p, .string q], .agg #[.int .i64 2, .bool o, .int .u64 pl, .int .u64 own, .string q, .string p], .int .i64 0]) ∧ Below w.heap.size w w' := by
  have HH := Lib.hid h
  clear h
  go_enter Tryd.func32, Tryd.ntmps32
  go_wp2_with fail
  have h0 := (((Blk.new w 57 #[.int .i64 st0, .bool o, .int .u64 lk, .int .u64 pr, .string p, .string q]).alloc (.cells #[.int .i64 0, .bool false, .int .u64 0, .int .u64 0, .string ⟨#[]⟩, .string ⟨#[]⟩] 57)).alloc (.cells #[.int .i64 0, .bool false, .int .u64 0, .int .u64 0, .string ⟨#[]⟩, .string ⟨#[]⟩] 57))
  have h1 := ((Blk.new (w.alloc (.cells #[.int .i64 st0, .bool o, .int .u64 lk, .int .u64 pr, .string p, .string q] 57)) 57 #[.int .i64 0, .bool false, .int .u64 0, .int .u64 0, .string ⟨#[]⟩, .string ⟨#[]⟩]).alloc (.cells #[.int .i64 0, .bool false, .int .u64 0, .int .u64 0, .string ⟨#[]⟩, .string ⟨#[]⟩] 57))
  rw [show (w.alloc (.cells #[.int .i64 st0, .bool o, .int .u64 lk, .int .u64 pr, .string p, .string q] 57)).heap.size = w.heap.size + 1 by simp] at h1
  have h2 := (Blk.new ((w.alloc (.cells #[.int .i64 st0, .bool o, .int .u64 lk, .int .u64 pr, .string p, .string q] 57)).alloc (.cells #[.int .i64 0, .bool false, .int .u64 0, .int .u64 0, .string ⟨#[]⟩, .string ⟨#[]⟩] 57)) 57 #[.int .i64 0, .bool false, .int .u64 0, .int .u64 0, .string ⟨#[]⟩, .string ⟨#[]⟩])
  rw [show ((w.alloc (.cells #[.int .i64 st0, .bool o, .int .u64 lk, .int .u64 pr, .string p, .string q] 57)).alloc (.cells #[.int .i64 0, .bool false, .int .u64 0, .int .u64 0, .string ⟨#[]⟩, .string ⟨#[]⟩] 57)).heap.size = w.heap.size + 1 + 1 by simp] at h2
  have hL := (balloc (balloc (balloc (Below.refl _ w) (.cells #[.int .i64 st0, .bool o, .int .u64 lk, .int .u64 pr, .string p, .string q] 57)) (.cells #[.int .i64 0, .bool false, .int .u64 0, .int .u64 0, .string ⟨#[]⟩, .string ⟨#[]⟩] 57)) (.cells #[.int .i64 0, .bool false, .int .u64 0, .int .u64 0, .string ⟨#[]⟩, .string ⟨#[]⟩] 57))
  generalize (((w.alloc (.cells #[.int .i64 st0, .bool o, .int .u64 lk, .int .u64 pr, .string p, .string q] 57)).alloc (.cells #[.int .i64 0, .bool false, .int .u64 0, .int .u64 0, .string ⟨#[]⟩, .string ⟨#[]⟩] 57)).alloc (.cells #[.int .i64 0, .bool false, .int .u64 0, .int .u64 0, .string ⟨#[]⟩, .string ⟨#[]⟩] 57)) = w1 at h0 h1 h2 hL ⊢
  refine (goes_yes own st0 o lk pr p q 1 3 2 pl _ HH.out).mono ?_
  rintro e w2 ⟨rfl, hb2⟩
  have hL2 := bstep hL hb2
  have i1 := h1.below hb2
  have i2 := h2.below hb2
  clear hL hb2 h0 h1 h2
  have d0 : w2.cell? ⟨w.heap.size + 1, 0, none⟩ = some (.int .i64 0) := i1.cell 0
  have fd0 := i1.frozen 0
  have d1 : w2.cell? ⟨w.heap.size + 1, 1, none⟩ = some (.bool false) := i1.cell 1
  have fd1 := i1.frozen 1
  have d2 : w2.cell? ⟨w.heap.size + 1, 2, none⟩ = some (.int .u64 0) := i1.cell 2
  have fd2 := i1.frozen 2
  have d3 : w2.cell? ⟨w.heap.size + 1, 3, none⟩ = some (.int .u64 0) := i1.cell 3
  have fd3 := i1.frozen 3
  have d4 : w2.cell? ⟨w.heap.size + 1, 4, none⟩ = some (.string ⟨#[]⟩) := i1.cell 4
  have fd4 := i1.frozen 4
  have d5 : w2.cell? ⟨w.heap.size + 1, 5, none⟩ = some (.string ⟨#[]⟩) := i1.cell 5
  have fd5 := i1.frozen 5
  have e0 : w2.cell? ⟨w.heap.size + 1 + 1, 0, none⟩ = some (.int .i64 0) := i2.cell 0
  have fe0 := i2.frozen 0
  have e1 : w2.cell? ⟨w.heap.size + 1 + 1, 1, none⟩ = some (.bool false) := i2.cell 1
  have fe1 := i2.frozen 1
  have e2 : w2.cell? ⟨w.heap.size + 1 + 1, 2, none⟩ = some (.int .u64 0) := i2.cell 2
  have fe2 := i2.frozen 2
  have e3 : w2.cell? ⟨w.heap.size + 1 + 1, 3, none⟩ = some (.int .u64 0) := i2.cell 3
  have fe3 := i2.frozen 3
  have e4 : w2.cell? ⟨w.heap.size + 1 + 1, 4, none⟩ = some (.string ⟨#[]⟩) := i2.cell 4
  have fe4 := i2.frozen 4
  have e5 : w2.cell? ⟨w.heap.size + 1 + 1, 5, none⟩ = some (.string ⟨#[]⟩) := i2.cell 5
  have fe5 := i2.frozen 5
  have j1 := (i1.set6 (.int .i64 3) (.bool o) (.int .u64 lk) (.int .u64 pr) (.string p) (.string q)).other6 (w.heap.size + 1 + 1) (by omega) (.int .i64 2) (.bool o) (.int .u64 pl) (.int .u64 own) (.string q) (.string p)
  have j2 := (i2.other6 (w.heap.size + 1) (by omega) (.int .i64 3) (.bool o) (.int .u64 lk) (.int .u64 pr) (.string p) (.string q)).set6 (.int .i64 2) (.bool o) (.int .u64 pl) (.int .u64 own) (.string q) (.string p)
  have jl := below_set6 (below_set6 hL2 (w.heap.size + 1) (by omega) (.int .i64 3) (.bool o) (.int .u64 lk) (.int .u64 pr) (.string p) (.string q)) (w.heap.size + 1 + 1) (by omega) (.int .i64 2) (.bool o) (.int .u64 pl) (.int .u64 own) (.string q) (.string p)
  have J1 := Lib.hid j1
  have J2 := Lib.hid j2
  have JL := Lib.hid jl
  clear j1 j2 jl i1 i2 hL2
  go_upto_region 2 with fail
  simp only [setC6] at J1 J2 JL
  generalize ((((((((((((w2.setCell ⟨w.heap.size + 1, 0, none⟩ (.int .i64 3)).setCell ⟨w.heap.size + 1, 1, none⟩ (.bool o)).setCell ⟨w.heap.size + 1, 2, none⟩ (.int .u64 lk)).setCell ⟨w.heap.size + 1, 3, none⟩ (.int .u64 pr)).setCell ⟨w.heap.size + 1, 4, none⟩ (.string p)).setCell ⟨w.heap.size + 1, 5, none⟩ (.string q)).setCell ⟨w.heap.size + 1 + 1, 0, none⟩ (.int .i64 2)).setCell ⟨w.heap.size + 1 + 1, 1, none⟩ (.bool o)).setCell ⟨w.heap.size + 1 + 1, 2, none⟩ (.int .u64 pl)).setCell ⟨w.heap.size + 1 + 1, 3, none⟩ (.int .u64 own)).setCell ⟨w.heap.size + 1 + 1, 4, none⟩ (.string q)).setCell ⟨w.heap.size + 1 + 1, 5, none⟩ (.string p)) = w3 at J1 J2 JL ⊢
  clear d0 fd0 e0 fe0 d1 fd1 e1 fe1 d2 fd2 e2 fe2 d3 fd3 e3 fe3 d4 fd4 e4 fe4 d5 fd5 e5 fe5
  have c3 : w3.cell? ⟨w.heap.size + 1, 3, none⟩ = some (.int .u64 pr) := J1.out.cell 3
  have f3 := J1.out.frozen 3
  have K1 := Lib.hid (J1.out.set_ 3 (.int .u64 peer))
  have K2 := Lib.hid (J2.out.other (w.heap.size + 1) 3 (.int .u64 peer) (by omega))
  have KL := Lib.hid (JL.out.setCell (p := ⟨w.heap.size + 1, 3, none⟩) (by simp) (.int .u64 peer))
  clear J1 J2 JL
  go_wp2_with fail
  generalize w3.setCell ⟨w.heap.size + 1, 3, none⟩ (.int .u64 peer) = w4 at K1 K2 KL ⊢
  have d0 : w4.cell? ⟨w.heap.size + 1, 0, none⟩ = some (.int .i64 3) := K1.out.cell 0
  have d1 : w4.cell? ⟨w.heap.size + 1, 1, none⟩ = some (.bool o) := K1.out.cell 1
  have d2 : w4.cell? ⟨w.heap.size + 1, 2, none⟩ = some (.int .u64 lk) := K1.out.cell 2
  have d3 : w4.cell? ⟨w.heap.size + 1, 3, none⟩ = some (.int .u64 peer) := K1.out.cell 3
  have d4 : w4.cell? ⟨w.heap.size + 1, 4, none⟩ = some (.string p) := K1.out.cell 4
  have d5 : w4.cell? ⟨w.heap.size + 1, 5, none⟩ = some (.string q) := K1.out.cell 5
  have e0 : w4.cell? ⟨w.heap.size + 1 + 1, 0, none⟩ = some (.int .i64 2) := K2.out.cell 0
  have e1 : w4.cell? ⟨w.heap.size + 1 + 1, 1, none⟩ = some (.bool o) := K2.out.cell 1
  have e2 : w4.cell? ⟨w.heap.size + 1 + 1, 2, none⟩ = some (.int .u64 pl) := K2.out.cell 2
  have e3 : w4.cell? ⟨w.heap.size + 1 + 1, 3, none⟩ = some (.int .u64 own) := K2.out.cell 3
  have e4 : w4.cell? ⟨w.heap.size + 1 + 1, 4, none⟩ = some (.string q) := K2.out.cell 4
  have e5 : w4.cell? ⟨w.heap.size + 1 + 1, 5, none⟩ = some (.string p) := K2.out.cell 5
  exact bodyPost_ret (v := .tuple #[.agg #[.int .i64 3, .bool o, .int .u64 lk, .int .u64 peer, .string p, .string q], .agg #[.int .i64 2, .bool o, .int .u64 pl, .int .u64 own, .string q, .string p], .int .i64 0]) (by simp [results, Tryd.results32, go_sem, d0, e0, d1, e1, d2, e2, d3, e3, d4, e4, d5, e5]) rfl ⟨rfl, KL.out⟩
set_option maxRecDepth 100000 in
set_option maxHeartbeats 1000000 in
theorem ack_no (own : Int) (st0 : Int) (o : Bool) (lk pr : Int) (p q : ByteArray) (pl : Int) (peer : Int) (w : World) (h : st0 ≠ 1) :
    Calls Tryd.prog 32 #[.int .u64 own, .agg #[.int .i64 st0, .bool o, .int .u64 lk, .int .u64 pr, .string p, .string q], .int .u64 pl, .int .u64 peer] w fun e w' => e = .returned (.tuple #[.agg #[.int .i64 0, .bool false, .int .u64 0, .int .u64 0, .string ⟨#[]⟩, .string ⟨#[]⟩], .agg #[.int .i64 0, .bool false, .int .u64 0, .int .u64 0, .string ⟨#[]⟩, .string ⟨#[]⟩], .int .i64 180]) ∧ Below w.heap.size w w' := by
  have HH := Lib.hid h
  clear h
  go_enter Tryd.func32, Tryd.ntmps32
  go_wp2_with fail
  have h0 := (((Blk.new w 57 #[.int .i64 st0, .bool o, .int .u64 lk, .int .u64 pr, .string p, .string q]).alloc (.cells #[.int .i64 0, .bool false, .int .u64 0, .int .u64 0, .string ⟨#[]⟩, .string ⟨#[]⟩] 57)).alloc (.cells #[.int .i64 0, .bool false, .int .u64 0, .int .u64 0, .string ⟨#[]⟩, .string ⟨#[]⟩] 57))
  have h1 := ((Blk.new (w.alloc (.cells #[.int .i64 st0, .bool o, .int .u64 lk, .int .u64 pr, .string p, .string q] 57)) 57 #[.int .i64 0, .bool false, .int .u64 0, .int .u64 0, .string ⟨#[]⟩, .string ⟨#[]⟩]).alloc (.cells #[.int .i64 0, .bool false, .int .u64 0, .int .u64 0, .string ⟨#[]⟩, .string ⟨#[]⟩] 57))
  rw [show (w.alloc (.cells #[.int .i64 st0, .bool o, .int .u64 lk, .int .u64 pr, .string p, .string q] 57)).heap.size = w.heap.size + 1 by simp] at h1
  have h2 := (Blk.new ((w.alloc (.cells #[.int .i64 st0, .bool o, .int .u64 lk, .int .u64 pr, .string p, .string q] 57)).alloc (.cells #[.int .i64 0, .bool false, .int .u64 0, .int .u64 0, .string ⟨#[]⟩, .string ⟨#[]⟩] 57)) 57 #[.int .i64 0, .bool false, .int .u64 0, .int .u64 0, .string ⟨#[]⟩, .string ⟨#[]⟩])
  rw [show ((w.alloc (.cells #[.int .i64 st0, .bool o, .int .u64 lk, .int .u64 pr, .string p, .string q] 57)).alloc (.cells #[.int .i64 0, .bool false, .int .u64 0, .int .u64 0, .string ⟨#[]⟩, .string ⟨#[]⟩] 57)).heap.size = w.heap.size + 1 + 1 by simp] at h2
  have hL := (balloc (balloc (balloc (Below.refl _ w) (.cells #[.int .i64 st0, .bool o, .int .u64 lk, .int .u64 pr, .string p, .string q] 57)) (.cells #[.int .i64 0, .bool false, .int .u64 0, .int .u64 0, .string ⟨#[]⟩, .string ⟨#[]⟩] 57)) (.cells #[.int .i64 0, .bool false, .int .u64 0, .int .u64 0, .string ⟨#[]⟩, .string ⟨#[]⟩] 57))
  generalize (((w.alloc (.cells #[.int .i64 st0, .bool o, .int .u64 lk, .int .u64 pr, .string p, .string q] 57)).alloc (.cells #[.int .i64 0, .bool false, .int .u64 0, .int .u64 0, .string ⟨#[]⟩, .string ⟨#[]⟩] 57)).alloc (.cells #[.int .i64 0, .bool false, .int .u64 0, .int .u64 0, .string ⟨#[]⟩, .string ⟨#[]⟩] 57)) = w1 at h0 h1 h2 hL ⊢
  refine (goes_no own st0 o lk pr p q 1 3 2 pl _ HH.out).mono ?_
  rintro e w2 ⟨rfl, hb2⟩
  have hL2 := bstep hL hb2
  have i1 := h1.below hb2
  have i2 := h2.below hb2
  clear hL hb2 h0 h1 h2
  have d0 : w2.cell? ⟨w.heap.size + 1, 0, none⟩ = some (.int .i64 0) := i1.cell 0
  have fd0 := i1.frozen 0
  have d1 : w2.cell? ⟨w.heap.size + 1, 1, none⟩ = some (.bool false) := i1.cell 1
  have fd1 := i1.frozen 1
  have d2 : w2.cell? ⟨w.heap.size + 1, 2, none⟩ = some (.int .u64 0) := i1.cell 2
  have fd2 := i1.frozen 2
  have d3 : w2.cell? ⟨w.heap.size + 1, 3, none⟩ = some (.int .u64 0) := i1.cell 3
  have fd3 := i1.frozen 3
  have d4 : w2.cell? ⟨w.heap.size + 1, 4, none⟩ = some (.string ⟨#[]⟩) := i1.cell 4
  have fd4 := i1.frozen 4
  have d5 : w2.cell? ⟨w.heap.size + 1, 5, none⟩ = some (.string ⟨#[]⟩) := i1.cell 5
  have fd5 := i1.frozen 5
  have e0 : w2.cell? ⟨w.heap.size + 1 + 1, 0, none⟩ = some (.int .i64 0) := i2.cell 0
  have fe0 := i2.frozen 0
  have e1 : w2.cell? ⟨w.heap.size + 1 + 1, 1, none⟩ = some (.bool false) := i2.cell 1
  have fe1 := i2.frozen 1
  have e2 : w2.cell? ⟨w.heap.size + 1 + 1, 2, none⟩ = some (.int .u64 0) := i2.cell 2
  have fe2 := i2.frozen 2
  have e3 : w2.cell? ⟨w.heap.size + 1 + 1, 3, none⟩ = some (.int .u64 0) := i2.cell 3
  have fe3 := i2.frozen 3
  have e4 : w2.cell? ⟨w.heap.size + 1 + 1, 4, none⟩ = some (.string ⟨#[]⟩) := i2.cell 4
  have fe4 := i2.frozen 4
  have e5 : w2.cell? ⟨w.heap.size + 1 + 1, 5, none⟩ = some (.string ⟨#[]⟩) := i2.cell 5
  have fe5 := i2.frozen 5
  have j1 := (i1.set6 (.int .i64 0) (.bool false) (.int .u64 0) (.int .u64 0) (.string ⟨#[]⟩) (.string ⟨#[]⟩)).other6 (w.heap.size + 1 + 1) (by omega) (.int .i64 0) (.bool false) (.int .u64 0) (.int .u64 0) (.string ⟨#[]⟩) (.string ⟨#[]⟩)
  have j2 := (i2.other6 (w.heap.size + 1) (by omega) (.int .i64 0) (.bool false) (.int .u64 0) (.int .u64 0) (.string ⟨#[]⟩) (.string ⟨#[]⟩)).set6 (.int .i64 0) (.bool false) (.int .u64 0) (.int .u64 0) (.string ⟨#[]⟩) (.string ⟨#[]⟩)
  have jl := below_set6 (below_set6 hL2 (w.heap.size + 1) (by omega) (.int .i64 0) (.bool false) (.int .u64 0) (.int .u64 0) (.string ⟨#[]⟩) (.string ⟨#[]⟩)) (w.heap.size + 1 + 1) (by omega) (.int .i64 0) (.bool false) (.int .u64 0) (.int .u64 0) (.string ⟨#[]⟩) (.string ⟨#[]⟩)
  have J1 := Lib.hid j1
  have J2 := Lib.hid j2
  have JL := Lib.hid jl
  clear j1 j2 jl i1 i2 hL2
  go_upto_region 2 with fail
  simp only [setC6] at J1 J2 JL
  generalize ((((((((((((w2.setCell ⟨w.heap.size + 1, 0, none⟩ (.int .i64 0)).setCell ⟨w.heap.size + 1, 1, none⟩ (.bool false)).setCell ⟨w.heap.size + 1, 2, none⟩ (.int .u64 0)).setCell ⟨w.heap.size + 1, 3, none⟩ (.int .u64 0)).setCell ⟨w.heap.size + 1, 4, none⟩ (.string ⟨#[]⟩)).setCell ⟨w.heap.size + 1, 5, none⟩ (.string ⟨#[]⟩)).setCell ⟨w.heap.size + 1 + 1, 0, none⟩ (.int .i64 0)).setCell ⟨w.heap.size + 1 + 1, 1, none⟩ (.bool false)).setCell ⟨w.heap.size + 1 + 1, 2, none⟩ (.int .u64 0)).setCell ⟨w.heap.size + 1 + 1, 3, none⟩ (.int .u64 0)).setCell ⟨w.heap.size + 1 + 1, 4, none⟩ (.string ⟨#[]⟩)).setCell ⟨w.heap.size + 1 + 1, 5, none⟩ (.string ⟨#[]⟩)) = w3 at J1 J2 JL ⊢
  clear d0 fd0 e0 fe0 d1 fd1 e1 fe1 d2 fd2 e2 fe2 d3 fd3 e3 fe3 d4 fd4 e4 fe4 d5 fd5 e5 fe5
  go_wp2_with fail
  have d0 : w3.cell? ⟨w.heap.size + 1, 0, none⟩ = some (.int .i64 0) := J1.out.cell 0
  have d1 : w3.cell? ⟨w.heap.size + 1, 1, none⟩ = some (.bool false) := J1.out.cell 1
  have d2 : w3.cell? ⟨w.heap.size + 1, 2, none⟩ = some (.int .u64 0) := J1.out.cell 2
  have d3 : w3.cell? ⟨w.heap.size + 1, 3, none⟩ = some (.int .u64 0) := J1.out.cell 3
  have d4 : w3.cell? ⟨w.heap.size + 1, 4, none⟩ = some (.string ⟨#[]⟩) := J1.out.cell 4
  have d5 : w3.cell? ⟨w.heap.size + 1, 5, none⟩ = some (.string ⟨#[]⟩) := J1.out.cell 5
  have e0 : w3.cell? ⟨w.heap.size + 1 + 1, 0, none⟩ = some (.int .i64 0) := J2.out.cell 0
  have e1 : w3.cell? ⟨w.heap.size + 1 + 1, 1, none⟩ = some (.bool false) := J2.out.cell 1
  have e2 : w3.cell? ⟨w.heap.size + 1 + 1, 2, none⟩ = some (.int .u64 0) := J2.out.cell 2
  have e3 : w3.cell? ⟨w.heap.size + 1 + 1, 3, none⟩ = some (.int .u64 0) := J2.out.cell 3
  have e4 : w3.cell? ⟨w.heap.size + 1 + 1, 4, none⟩ = some (.string ⟨#[]⟩) := J2.out.cell 4
  have e5 : w3.cell? ⟨w.heap.size + 1 + 1, 5, none⟩ = some (.string ⟨#[]⟩) := J2.out.cell 5
  exact bodyPost_ret (v := .tuple #[.agg #[.int .i64 0, .bool false, .int .u64 0, .int .u64 0, .string ⟨#[]⟩, .string ⟨#[]⟩], .agg #[.int .i64 0, .bool false, .int .u64 0, .int .u64 0, .string ⟨#[]⟩, .string ⟨#[]⟩], .int .i64 180]) (by simp [results, Tryd.results32, go_sem, d0, e0, d1, e1, d2, e2, d3, e3, d4, e4, d5, e5]) rfl ⟨rfl, JL.out⟩
set_option maxRecDepth 100000 in
set_option maxHeartbeats 1000000 in
theorem close_yes (st0 : Int) (o : Bool) (lk pr : Int) (p q : ByteArray) (w : World) (h : st0 = 3) :
    Calls Tryd.prog 34 #[.agg #[.int .i64 st0, .bool o, .int .u64 lk, .int .u64 pr, .string p, .string q]] w fun e w' => e = .returned (.tuple #[.agg #[.int .i64 4, .bool o, .int .u64 lk, .int .u64 pr, .string p, .string q], .int .i64 0]) ∧ Below w.heap.size w w' := by
  have HH := Lib.hid h
  clear h
  go_enter Tryd.func34, Tryd.ntmps34
  go_wp2_with fail
  have h0 := ((Blk.new w 57 #[.int .i64 st0, .bool o, .int .u64 lk, .int .u64 pr, .string p, .string q]).alloc (.cells #[.int .i64 0, .bool false, .int .u64 0, .int .u64 0, .string ⟨#[]⟩, .string ⟨#[]⟩] 57))
  have h1 := (Blk.new (w.alloc (.cells #[.int .i64 st0, .bool o, .int .u64 lk, .int .u64 pr, .string p, .string q] 57)) 57 #[.int .i64 0, .bool false, .int .u64 0, .int .u64 0, .string ⟨#[]⟩, .string ⟨#[]⟩])
  rw [show (w.alloc (.cells #[.int .i64 st0, .bool o, .int .u64 lk, .int .u64 pr, .string p, .string q] 57)).heap.size = w.heap.size + 1 by simp] at h1
  have hL := (balloc (balloc (Below.refl _ w) (.cells #[.int .i64 st0, .bool o, .int .u64 lk, .int .u64 pr, .string p, .string q] 57)) (.cells #[.int .i64 0, .bool false, .int .u64 0, .int .u64 0, .string ⟨#[]⟩, .string ⟨#[]⟩] 57))
  generalize ((w.alloc (.cells #[.int .i64 st0, .bool o, .int .u64 lk, .int .u64 pr, .string p, .string q] 57)).alloc (.cells #[.int .i64 0, .bool false, .int .u64 0, .int .u64 0, .string ⟨#[]⟩, .string ⟨#[]⟩] 57)) = w1 at h0 h1 hL ⊢
  refine (goes_yes 0 st0 o lk pr p q 3 4 3 0 _ HH.out).mono ?_
  rintro e w2 ⟨rfl, hb2⟩
  have hL2 := balloc (balloc (bstep hL hb2) (.cells #[.int .i64 4, .bool o, .int .u64 lk, .int .u64 pr, .string p, .string q] 57)) (.cells #[.int .i64 3, .bool o, .int .u64 0, .int .u64 0, .string q, .string p] 57)
  have i1 := ((h1.below hb2).alloc (.cells #[.int .i64 4, .bool o, .int .u64 lk, .int .u64 pr, .string p, .string q] 57)).alloc (.cells #[.int .i64 3, .bool o, .int .u64 0, .int .u64 0, .string q, .string p] 57)
  have i2 := (Blk.new w2 57 #[.int .i64 4, .bool o, .int .u64 lk, .int .u64 pr, .string p, .string q]).alloc (.cells #[.int .i64 3, .bool o, .int .u64 0, .int .u64 0, .string q, .string p] 57)
  have hne : w2.heap.size ≠ w.heap.size + 1 := by have := (h1.below hb2).lt; omega
  clear hL hb2 h0 h1
  have HL2 := Lib.hid hL2
  have I1 := Lib.hid i1
  have I2 := Lib.hid i2
  clear hL2 i1 i2
  go_upto_region 2 with fail
  generalize (w2.alloc (.cells #[.int .i64 4, .bool o, .int .u64 lk, .int .u64 pr, .string p, .string q] 57)).alloc (.cells #[.int .i64 3, .bool o, .int .u64 0, .int .u64 0, .string q, .string p] 57) = w3 at HL2 I1 I2 ⊢
  generalize w2.heap.size = Q at hne I2 ⊢
  have d0 : w3.cell? ⟨w.heap.size + 1, 0, none⟩ = some (.int .i64 0) := I1.out.cell 0
  have fd0 := I1.out.frozen 0
  have d1 : w3.cell? ⟨w.heap.size + 1, 1, none⟩ = some (.bool false) := I1.out.cell 1
  have fd1 := I1.out.frozen 1
  have d2 : w3.cell? ⟨w.heap.size + 1, 2, none⟩ = some (.int .u64 0) := I1.out.cell 2
  have fd2 := I1.out.frozen 2
  have d3 : w3.cell? ⟨w.heap.size + 1, 3, none⟩ = some (.int .u64 0) := I1.out.cell 3
  have fd3 := I1.out.frozen 3
  have d4 : w3.cell? ⟨w.heap.size + 1, 4, none⟩ = some (.string ⟨#[]⟩) := I1.out.cell 4
  have fd4 := I1.out.frozen 4
  have d5 : w3.cell? ⟨w.heap.size + 1, 5, none⟩ = some (.string ⟨#[]⟩) := I1.out.cell 5
  have fd5 := I1.out.frozen 5
  have e0 : w3.cell? ⟨Q, 0, none⟩ = some (.int .i64 4) := I2.out.cell 0
  have e1 : w3.cell? ⟨Q, 1, none⟩ = some (.bool o) := I2.out.cell 1
  have e2 : w3.cell? ⟨Q, 2, none⟩ = some (.int .u64 lk) := I2.out.cell 2
  have e3 : w3.cell? ⟨Q, 3, none⟩ = some (.int .u64 pr) := I2.out.cell 3
  have e4 : w3.cell? ⟨Q, 4, none⟩ = some (.string p) := I2.out.cell 4
  have e5 : w3.cell? ⟨Q, 5, none⟩ = some (.string q) := I2.out.cell 5
  have J1 := Lib.hid (I1.out.set6 (.int .i64 4) (.bool o) (.int .u64 lk) (.int .u64 pr) (.string p) (.string q))
  have JL := Lib.hid (below_set6 HL2.out (w.heap.size + 1) (by omega) (.int .i64 4) (.bool o) (.int .u64 lk) (.int .u64 pr) (.string p) (.string q))
  clear I1 I2 HL2
  go_wp2_with fail
  simp only [setC6] at J1 JL
  generalize ((((((w3.setCell ⟨w.heap.size + 1, 0, none⟩ (.int .i64 4)).setCell ⟨w.heap.size + 1, 1, none⟩ (.bool o)).setCell ⟨w.heap.size + 1, 2, none⟩ (.int .u64 lk)).setCell ⟨w.heap.size + 1, 3, none⟩ (.int .u64 pr)).setCell ⟨w.heap.size + 1, 4, none⟩ (.string p)).setCell ⟨w.heap.size + 1, 5, none⟩ (.string q)) = w4 at J1 JL ⊢
  clear d0 fd0 e0 d1 fd1 e1 d2 fd2 e2 d3 fd3 e3 d4 fd4 e4 d5 fd5 e5
  have d0 : w4.cell? ⟨w.heap.size + 1, 0, none⟩ = some (.int .i64 4) := J1.out.cell 0
  have d1 : w4.cell? ⟨w.heap.size + 1, 1, none⟩ = some (.bool o) := J1.out.cell 1
  have d2 : w4.cell? ⟨w.heap.size + 1, 2, none⟩ = some (.int .u64 lk) := J1.out.cell 2
  have d3 : w4.cell? ⟨w.heap.size + 1, 3, none⟩ = some (.int .u64 pr) := J1.out.cell 3
  have d4 : w4.cell? ⟨w.heap.size + 1, 4, none⟩ = some (.string p) := J1.out.cell 4
  have d5 : w4.cell? ⟨w.heap.size + 1, 5, none⟩ = some (.string q) := J1.out.cell 5
  exact bodyPost_ret (v := .tuple #[.agg #[.int .i64 4, .bool o, .int .u64 lk, .int .u64 pr, .string p, .string q], .int .i64 0]) (by simp [results, Tryd.results34, go_sem, d0, d1, d2, d3, d4, d5]) rfl ⟨rfl, JL.out⟩
set_option maxRecDepth 100000 in
set_option maxHeartbeats 1000000 in
theorem close_no (st0 : Int) (o : Bool) (lk pr : Int) (p q : ByteArray) (w : World) (h : st0 ≠ 3) :
    Calls Tryd.prog 34 #[.agg #[.int .i64 st0, .bool o, .int .u64 lk, .int .u64 pr, .string p, .string q]] w fun e w' => e = .returned (.tuple #[.agg #[.int .i64 0, .bool false, .int .u64 0, .int .u64 0, .string ⟨#[]⟩, .string ⟨#[]⟩], .int .i64 180]) ∧ Below w.heap.size w w' := by
  have HH := Lib.hid h
  clear h
  go_enter Tryd.func34, Tryd.ntmps34
  go_wp2_with fail
  have h0 := ((Blk.new w 57 #[.int .i64 st0, .bool o, .int .u64 lk, .int .u64 pr, .string p, .string q]).alloc (.cells #[.int .i64 0, .bool false, .int .u64 0, .int .u64 0, .string ⟨#[]⟩, .string ⟨#[]⟩] 57))
  have h1 := (Blk.new (w.alloc (.cells #[.int .i64 st0, .bool o, .int .u64 lk, .int .u64 pr, .string p, .string q] 57)) 57 #[.int .i64 0, .bool false, .int .u64 0, .int .u64 0, .string ⟨#[]⟩, .string ⟨#[]⟩])
  rw [show (w.alloc (.cells #[.int .i64 st0, .bool o, .int .u64 lk, .int .u64 pr, .string p, .string q] 57)).heap.size = w.heap.size + 1 by simp] at h1
  have hL := (balloc (balloc (Below.refl _ w) (.cells #[.int .i64 st0, .bool o, .int .u64 lk, .int .u64 pr, .string p, .string q] 57)) (.cells #[.int .i64 0, .bool false, .int .u64 0, .int .u64 0, .string ⟨#[]⟩, .string ⟨#[]⟩] 57))
  generalize ((w.alloc (.cells #[.int .i64 st0, .bool o, .int .u64 lk, .int .u64 pr, .string p, .string q] 57)).alloc (.cells #[.int .i64 0, .bool false, .int .u64 0, .int .u64 0, .string ⟨#[]⟩, .string ⟨#[]⟩] 57)) = w1 at h0 h1 hL ⊢
  refine (goes_no 0 st0 o lk pr p q 3 4 3 0 _ HH.out).mono ?_
  rintro e w2 ⟨rfl, hb2⟩
  have hL2 := balloc (balloc (bstep hL hb2) (.cells #[.int .i64 0, .bool false, .int .u64 0, .int .u64 0, .string ⟨#[]⟩, .string ⟨#[]⟩] 57)) (.cells #[.int .i64 0, .bool false, .int .u64 0, .int .u64 0, .string ⟨#[]⟩, .string ⟨#[]⟩] 57)
  have i1 := ((h1.below hb2).alloc (.cells #[.int .i64 0, .bool false, .int .u64 0, .int .u64 0, .string ⟨#[]⟩, .string ⟨#[]⟩] 57)).alloc (.cells #[.int .i64 0, .bool false, .int .u64 0, .int .u64 0, .string ⟨#[]⟩, .string ⟨#[]⟩] 57)
  have i2 := (Blk.new w2 57 #[.int .i64 0, .bool false, .int .u64 0, .int .u64 0, .string ⟨#[]⟩, .string ⟨#[]⟩]).alloc (.cells #[.int .i64 0, .bool false, .int .u64 0, .int .u64 0, .string ⟨#[]⟩, .string ⟨#[]⟩] 57)
  have hne : w2.heap.size ≠ w.heap.size + 1 := by have := (h1.below hb2).lt; omega
  clear hL hb2 h0 h1
  have HL2 := Lib.hid hL2
  have I1 := Lib.hid i1
  have I2 := Lib.hid i2
  clear hL2 i1 i2
  go_upto_region 2 with fail
  generalize (w2.alloc (.cells #[.int .i64 0, .bool false, .int .u64 0, .int .u64 0, .string ⟨#[]⟩, .string ⟨#[]⟩] 57)).alloc (.cells #[.int .i64 0, .bool false, .int .u64 0, .int .u64 0, .string ⟨#[]⟩, .string ⟨#[]⟩] 57) = w3 at HL2 I1 I2 ⊢
  generalize w2.heap.size = Q at hne I2 ⊢
  have d0 : w3.cell? ⟨w.heap.size + 1, 0, none⟩ = some (.int .i64 0) := I1.out.cell 0
  have fd0 := I1.out.frozen 0
  have d1 : w3.cell? ⟨w.heap.size + 1, 1, none⟩ = some (.bool false) := I1.out.cell 1
  have fd1 := I1.out.frozen 1
  have d2 : w3.cell? ⟨w.heap.size + 1, 2, none⟩ = some (.int .u64 0) := I1.out.cell 2
  have fd2 := I1.out.frozen 2
  have d3 : w3.cell? ⟨w.heap.size + 1, 3, none⟩ = some (.int .u64 0) := I1.out.cell 3
  have fd3 := I1.out.frozen 3
  have d4 : w3.cell? ⟨w.heap.size + 1, 4, none⟩ = some (.string ⟨#[]⟩) := I1.out.cell 4
  have fd4 := I1.out.frozen 4
  have d5 : w3.cell? ⟨w.heap.size + 1, 5, none⟩ = some (.string ⟨#[]⟩) := I1.out.cell 5
  have fd5 := I1.out.frozen 5
  have e0 : w3.cell? ⟨Q, 0, none⟩ = some (.int .i64 0) := I2.out.cell 0
  have e1 : w3.cell? ⟨Q, 1, none⟩ = some (.bool false) := I2.out.cell 1
  have e2 : w3.cell? ⟨Q, 2, none⟩ = some (.int .u64 0) := I2.out.cell 2
  have e3 : w3.cell? ⟨Q, 3, none⟩ = some (.int .u64 0) := I2.out.cell 3
  have e4 : w3.cell? ⟨Q, 4, none⟩ = some (.string ⟨#[]⟩) := I2.out.cell 4
  have e5 : w3.cell? ⟨Q, 5, none⟩ = some (.string ⟨#[]⟩) := I2.out.cell 5
  have J1 := Lib.hid (I1.out.set6 (.int .i64 0) (.bool false) (.int .u64 0) (.int .u64 0) (.string ⟨#[]⟩) (.string ⟨#[]⟩))
  have JL := Lib.hid (below_set6 HL2.out (w.heap.size + 1) (by omega) (.int .i64 0) (.bool false) (.int .u64 0) (.int .u64 0) (.string ⟨#[]⟩) (.string ⟨#[]⟩))
  clear I1 I2 HL2
  go_wp2_with fail
  simp only [setC6] at J1 JL
  generalize ((((((w3.setCell ⟨w.heap.size + 1, 0, none⟩ (.int .i64 0)).setCell ⟨w.heap.size + 1, 1, none⟩ (.bool false)).setCell ⟨w.heap.size + 1, 2, none⟩ (.int .u64 0)).setCell ⟨w.heap.size + 1, 3, none⟩ (.int .u64 0)).setCell ⟨w.heap.size + 1, 4, none⟩ (.string ⟨#[]⟩)).setCell ⟨w.heap.size + 1, 5, none⟩ (.string ⟨#[]⟩)) = w4 at J1 JL ⊢
  clear d0 fd0 e0 d1 fd1 e1 d2 fd2 e2 d3 fd3 e3 d4 fd4 e4 d5 fd5 e5
  have d0 : w4.cell? ⟨w.heap.size + 1, 0, none⟩ = some (.int .i64 0) := J1.out.cell 0
  have d1 : w4.cell? ⟨w.heap.size + 1, 1, none⟩ = some (.bool false) := J1.out.cell 1
  have d2 : w4.cell? ⟨w.heap.size + 1, 2, none⟩ = some (.int .u64 0) := J1.out.cell 2
  have d3 : w4.cell? ⟨w.heap.size + 1, 3, none⟩ = some (.int .u64 0) := J1.out.cell 3
  have d4 : w4.cell? ⟨w.heap.size + 1, 4, none⟩ = some (.string ⟨#[]⟩) := J1.out.cell 4
  have d5 : w4.cell? ⟨w.heap.size + 1, 5, none⟩ = some (.string ⟨#[]⟩) := J1.out.cell 5
  exact bodyPost_ret (v := .tuple #[.agg #[.int .i64 0, .bool false, .int .u64 0, .int .u64 0, .string ⟨#[]⟩, .string ⟨#[]⟩], .int .i64 180]) (by simp [results, Tryd.results34, go_sem, d0, d1, d2, d3, d4, d5]) rfl ⟨rfl, JL.out⟩
set_option maxRecDepth 100000 in
set_option maxHeartbeats 1000000 in
theorem try_is (o : Bool) (lk pl : Int) (p q : ByteArray) (peer : Int) (w : World) :
    Calls Tryd.prog 31 #[.bool o, .int .u64 lk, .int .u64 pl, .string p, .string q, .int .u64 peer] w fun e w' => e = .returned (.tuple #[.agg #[.int .i64 2, .bool o, .int .u64 lk, .int .u64 peer, .string p, .string q], .agg #[.int .i64 1, .bool o, .int .u64 pl, .int .u64 0, .string q, .string p]]) ∧ Below w.heap.size w w' := by
  go_enter Tryd.func31, Tryd.ntmps31
  go_wp2_with fail
  have h0 := ((Blk.new w 57 #[.int .i64 0, .bool false, .int .u64 0, .int .u64 0, .string ⟨#[]⟩, .string ⟨#[]⟩]).alloc (.cells #[.int .i64 0, .bool false, .int .u64 0, .int .u64 0, .string ⟨#[]⟩, .string ⟨#[]⟩] 57))
  have h1 := (Blk.new (w.alloc (.cells #[.int .i64 0, .bool false, .int .u64 0, .int .u64 0, .string ⟨#[]⟩, .string ⟨#[]⟩] 57)) 57 #[.int .i64 0, .bool false, .int .u64 0, .int .u64 0, .string ⟨#[]⟩, .string ⟨#[]⟩])
  rw [show (w.alloc (.cells #[.int .i64 0, .bool false, .int .u64 0, .int .u64 0, .string ⟨#[]⟩, .string ⟨#[]⟩] 57)).heap.size = w.heap.size + 1 by simp] at h1
  have hL := (balloc (balloc (Below.refl _ w) (.cells #[.int .i64 0, .bool false, .int .u64 0, .int .u64 0, .string ⟨#[]⟩, .string ⟨#[]⟩] 57)) (.cells #[.int .i64 0, .bool false, .int .u64 0, .int .u64 0, .string ⟨#[]⟩, .string ⟨#[]⟩] 57))
  generalize ((w.alloc (.cells #[.int .i64 0, .bool false, .int .u64 0, .int .u64 0, .string ⟨#[]⟩, .string ⟨#[]⟩] 57)).alloc (.cells #[.int .i64 0, .bool false, .int .u64 0, .int .u64 0, .string ⟨#[]⟩, .string ⟨#[]⟩] 57)) = w1 at h0 h1 hL ⊢
  refine (init_is o lk p q _).mono ?_
  rintro e w2 ⟨rfl, hb2⟩
  have hL2 := bstep hL hb2
  have i0 := h0.below hb2
  have i1 := h1.below hb2
  clear hL hb2 h0 h1
  have d0 : w2.cell? ⟨w.heap.size, 0, none⟩ = some (.int .i64 0) := i0.cell 0
  have fd0 := i0.frozen 0
  have d1 : w2.cell? ⟨w.heap.size, 1, none⟩ = some (.bool false) := i0.cell 1
  have fd1 := i0.frozen 1
  have d2 : w2.cell? ⟨w.heap.size, 2, none⟩ = some (.int .u64 0) := i0.cell 2
  have fd2 := i0.frozen 2
  have d3 : w2.cell? ⟨w.heap.size, 3, none⟩ = some (.int .u64 0) := i0.cell 3
  have fd3 := i0.frozen 3
  have d4 : w2.cell? ⟨w.heap.size, 4, none⟩ = some (.string ⟨#[]⟩) := i0.cell 4
  have fd4 := i0.frozen 4
  have d5 : w2.cell? ⟨w.heap.size, 5, none⟩ = some (.string ⟨#[]⟩) := i0.cell 5
  have fd5 := i0.frozen 5
  have J0 := Lib.hid (i0.set6 (.int .i64 1) (.bool o) (.int .u64 lk) (.int .u64 0) (.string p) (.string q))
  have J1 := Lib.hid (i1.other6 w.heap.size (by omega) (.int .i64 1) (.bool o) (.int .u64 lk) (.int .u64 0) (.string p) (.string q))
  have JL := Lib.hid (below_set6 hL2 w.heap.size (by omega) (.int .i64 1) (.bool o) (.int .u64 lk) (.int .u64 0) (.string p) (.string q))
  clear i0 i1 hL2
  go_upto_region 2 with fail
  simp only [setC6] at J0 J1 JL
  generalize ((((((w2.setCell ⟨w.heap.size, 0, none⟩ (.int .i64 1)).setCell ⟨w.heap.size, 1, none⟩ (.bool o)).setCell ⟨w.heap.size, 2, none⟩ (.int .u64 lk)).setCell ⟨w.heap.size, 3, none⟩ (.int .u64 0)).setCell ⟨w.heap.size, 4, none⟩ (.string p)).setCell ⟨w.heap.size, 5, none⟩ (.string q)) = w3 at J0 J1 JL ⊢
  clear d0 fd0 d1 fd1 d2 fd2 d3 fd3 d4 fd4 d5 fd5
  have d0 : w3.cell? ⟨w.heap.size, 0, none⟩ = some (.int .i64 1) := J0.out.cell 0
  have d1 : w3.cell? ⟨w.heap.size, 1, none⟩ = some (.bool o) := J0.out.cell 1
  have d2 : w3.cell? ⟨w.heap.size, 2, none⟩ = some (.int .u64 lk) := J0.out.cell 2
  have d3 : w3.cell? ⟨w.heap.size, 3, none⟩ = some (.int .u64 0) := J0.out.cell 3
  have d4 : w3.cell? ⟨w.heap.size, 4, none⟩ = some (.string p) := J0.out.cell 4
  have d5 : w3.cell? ⟨w.heap.size, 5, none⟩ = some (.string q) := J0.out.cell 5
  go_wp2_with fail
  refine (mirror_is 1 o lk 0 p q 1 pl 0 _).mono ?_
  rintro e w4 ⟨rfl, hb4⟩
  have hL4 := bstep JL.out hb4
  have i0 := J0.out.below hb4
  have i1 := J1.out.below hb4
  clear hb4 J0 J1 JL d0 d1 d2 d3 d4 d5
  have e0 : w4.cell? ⟨w.heap.size + 1, 0, none⟩ = some (.int .i64 0) := i1.cell 0
  have fe0 := i1.frozen 0
  have e1 : w4.cell? ⟨w.heap.size + 1, 1, none⟩ = some (.bool false) := i1.cell 1
  have fe1 := i1.frozen 1
  have e2 : w4.cell? ⟨w.heap.size + 1, 2, none⟩ = some (.int .u64 0) := i1.cell 2
  have fe2 := i1.frozen 2
  have e3 : w4.cell? ⟨w.heap.size + 1, 3, none⟩ = some (.int .u64 0) := i1.cell 3
  have fe3 := i1.frozen 3
  have e4 : w4.cell? ⟨w.heap.size + 1, 4, none⟩ = some (.string ⟨#[]⟩) := i1.cell 4
  have fe4 := i1.frozen 4
  have e5 : w4.cell? ⟨w.heap.size + 1, 5, none⟩ = some (.string ⟨#[]⟩) := i1.cell 5
  have fe5 := i1.frozen 5
  have J0 := Lib.hid (i0.other6 (w.heap.size + 1) (by omega) (.int .i64 1) (.bool o) (.int .u64 pl) (.int .u64 0) (.string q) (.string p))
  have J1 := Lib.hid (i1.set6 (.int .i64 1) (.bool o) (.int .u64 pl) (.int .u64 0) (.string q) (.string p))
  have JL := Lib.hid (below_set6 hL4 (w.heap.size + 1) (by omega) (.int .i64 1) (.bool o) (.int .u64 pl) (.int .u64 0) (.string q) (.string p))
  clear i0 i1 hL4
  go_upto_region 3 with fail
  simp only [setC6] at J0 J1 JL
  generalize ((((((w4.setCell ⟨w.heap.size + 1, 0, none⟩ (.int .i64 1)).setCell ⟨w.heap.size + 1, 1, none⟩ (.bool o)).setCell ⟨w.heap.size + 1, 2, none⟩ (.int .u64 pl)).setCell ⟨w.heap.size + 1, 3, none⟩ (.int .u64 0)).setCell ⟨w.heap.size + 1, 4, none⟩ (.string q)).setCell ⟨w.heap.size + 1, 5, none⟩ (.string p)) = w5 at J0 J1 JL ⊢
  clear e0 fe0 e1 fe1 e2 fe2 e3 fe3 e4 fe4 e5 fe5
  have d0 : w5.cell? ⟨w.heap.size, 0, none⟩ = some (.int .i64 1) := J0.out.cell 0
  have fd0 := J0.out.frozen 0
  have d1 : w5.cell? ⟨w.heap.size, 1, none⟩ = some (.bool o) := J0.out.cell 1
  have fd1 := J0.out.frozen 1
  have d2 : w5.cell? ⟨w.heap.size, 2, none⟩ = some (.int .u64 lk) := J0.out.cell 2
  have fd2 := J0.out.frozen 2
  have d3 : w5.cell? ⟨w.heap.size, 3, none⟩ = some (.int .u64 0) := J0.out.cell 3
  have fd3 := J0.out.frozen 3
  have d4 : w5.cell? ⟨w.heap.size, 4, none⟩ = some (.string p) := J0.out.cell 4
  have fd4 := J0.out.frozen 4
  have d5 : w5.cell? ⟨w.heap.size, 5, none⟩ = some (.string q) := J0.out.cell 5
  have fd5 := J0.out.frozen 5
  have K0 := Lib.hid ((J0.out.set_ 0 (.int .i64 2)).set_ 3 (.int .u64 peer))
  have K1 := Lib.hid ((J1.out.other w.heap.size 0 (.int .i64 2) (by omega)).other w.heap.size 3 (.int .u64 peer) (by omega))
  have KL := Lib.hid ((JL.out.setCell (p := ⟨w.heap.size, 0, none⟩) (by simp) (.int .i64 2)).setCell (p := ⟨w.heap.size, 3, none⟩) (by simp) (.int .u64 peer))
  clear J0 J1 JL
  go_wp2_with fail
  generalize (w5.setCell ⟨w.heap.size, 0, none⟩ (.int .i64 2)).setCell ⟨w.heap.size, 3, none⟩ (.int .u64 peer) = w6 at K0 K1 KL ⊢
  clear d0 fd0 d1 fd1 d2 fd2 d3 fd3 d4 fd4 d5 fd5
  have d0 : w6.cell? ⟨w.heap.size, 0, none⟩ = some (.int .i64 2) := K0.out.cell 0
  have d1 : w6.cell? ⟨w.heap.size, 1, none⟩ = some (.bool o) := K0.out.cell 1
  have d2 : w6.cell? ⟨w.heap.size, 2, none⟩ = some (.int .u64 lk) := K0.out.cell 2
  have d3 : w6.cell? ⟨w.heap.size, 3, none⟩ = some (.int .u64 peer) := K0.out.cell 3
  have d4 : w6.cell? ⟨w.heap.size, 4, none⟩ = some (.string p) := K0.out.cell 4
  have d5 : w6.cell? ⟨w.heap.size, 5, none⟩ = some (.string q) := K0.out.cell 5
  have e0 : w6.cell? ⟨w.heap.size + 1, 0, none⟩ = some (.int .i64 1) := K1.out.cell 0
  have e1 : w6.cell? ⟨w.heap.size + 1, 1, none⟩ = some (.bool o) := K1.out.cell 1
  have e2 : w6.cell? ⟨w.heap.size + 1, 2, none⟩ = some (.int .u64 pl) := K1.out.cell 2
  have e3 : w6.cell? ⟨w.heap.size + 1, 3, none⟩ = some (.int .u64 0) := K1.out.cell 3
  have e4 : w6.cell? ⟨w.heap.size + 1, 4, none⟩ = some (.string q) := K1.out.cell 4
  have e5 : w6.cell? ⟨w.heap.size + 1, 5, none⟩ = some (.string p) := K1.out.cell 5
  exact bodyPost_ret (v := .tuple #[.agg #[.int .i64 2, .bool o, .int .u64 lk, .int .u64 peer, .string p, .string q], .agg #[.int .i64 1, .bool o, .int .u64 pl, .int .u64 0, .string q, .string p]]) (by simp [results, Tryd.results31, go_sem, d0, e0, d1, e1, d2, e2, d3, e3, d4, e4, d5, e5]) rfl ⟨rfl, KL.out⟩
end Go.Proofs.YtpekbnkmnellpaaDoor
