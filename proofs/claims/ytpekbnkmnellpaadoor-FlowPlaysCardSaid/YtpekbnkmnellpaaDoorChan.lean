/-
  The walks of channel's ends: Init, Try, Ack, Confirm, Close, Closed.
-/
import Derived.Test.YtpekbnkmnellpaaDoorShaMix
import Derived.Deep.RegionWith
import Derived.Deep.RegionHeld3
import Derived.Deep.DeepCutAuto
import Derived.Outline
namespace Go.Proofs.YtpekbnkmnellpaaDoor
open Go.RowKit
set_option linter.unusedVariables false

/-- an end's value -/
abbrev chV (st : Int) (o : Bool) (lk pr : Int) (p q : ByteArray) : Value := .agg #[.int .i64 st, .bool o, .int .u64 lk, .int .u64 pr, .string p, .string q]
abbrev chC (st : Int) (o : Bool) (lk pr : Int) (p q : ByteArray) : Array Value := #[.int .i64 st, .bool o, .int .u64 lk, .int .u64 pr, .string p, .string q]
abbrev setC6 (w : World) (g : Nat) (u0 u1 u2 u3 u4 u5 : Value) : World := (((((w.setCell ⟨g, 0, none⟩ u0).setCell ⟨g, 1, none⟩ u1).setCell ⟨g, 2, none⟩ u2).setCell ⟨g, 3, none⟩ u3).setCell ⟨g, 4, none⟩ u4).setCell ⟨g, 5, none⟩ u5
theorem Blk.set6 {w : World} {g : Nat} {t : TypeId} {a0 a1 a2 a3 a4 a5 : Value} (h : Blk w g t #[a0, a1, a2, a3, a4, a5]) (u0 u1 u2 u3 u4 u5 : Value) : Blk (setC6 w g u0 u1 u2 u3 u4 u5) g t #[u0, u1, u2, u3, u4, u5] :=
  (((((h.set_ 0 u0).set_ 1 u1).set_ 2 u2).set_ 3 u3).set_ 4 u4).set_ 5 u5
theorem Blk.other6 {w : World} {g : Nat} {t : TypeId} {cs : Array Value} (h : Blk w g t cs) (g' : Nat) (hne : g' ≠ g) (u0 u1 u2 u3 u4 u5 : Value) : Blk (setC6 w g' u0 u1 u2 u3 u4 u5) g t cs :=
  (((((h.other g' 0 u0 hne).other g' 1 u1 hne).other g' 2 u2 hne).other g' 3 u3 hne).other g' 4 u4 hne).other g' 5 u5 hne
theorem below_set6 {B : Nat} {a w : World} (h : Below B a w) (g : Nat) (hg : B ≤ g) (u0 u1 u2 u3 u4 u5 : Value) : Below B a (setC6 w g u0 u1 u2 u3 u4 u5) :=
  (((((h.setCell (p := ⟨g, 0, none⟩) hg u0).setCell (p := ⟨g, 1, none⟩) hg u1).setCell (p := ⟨g, 2, none⟩) hg u2).setCell (p := ⟨g, 3, none⟩) hg u3).setCell (p := ⟨g, 4, none⟩) hg u4).setCell (p := ⟨g, 5, none⟩) hg u5
set_option maxHeartbeats 1000000 in
theorem init_is (o : Bool) (lk : Int) (p q : ByteArray) (w : World) :
    Calls Tryd.prog 30 #[.bool o, .int .u64 lk, .string p, .string q] w fun e w' => e = .returned (chV 1 o lk 0 p q) ∧ Below w.heap.size w w' := by
  go_enter Tryd.func30, Tryd.ntmps30
  go_wp2_with fail
  refine bodyPost_ret (v := chV 1 o lk 0 p q) (by simp [results, Tryd.results30, go_sem]) rfl ⟨rfl, ?_⟩
  exact balloc (Below.refl _ w) _
set_option maxHeartbeats 1000000 in
theorem mirror_is (st0 : Int) (o : Bool) (lk pr : Int) (p q : ByteArray) (st pl own : Int) (w : World) :
    Calls Tryd.prog 73 #[chV st0 o lk pr p q, .int .i64 st, .int .u64 pl, .int .u64 own] w fun e w' => e = .returned (chV st o pl own q p) ∧ Below w.heap.size w w' := by
  go_enter Tryd.func73, Tryd.ntmps73
  go_wp2_with fail
  refine bodyPost_ret (v := chV st o pl own q p) (by simp [results, Tryd.results73, go_sem]) rfl ⟨rfl, ?_⟩
  exact balloc (balloc (Below.refl _ w) _) _
set_option maxHeartbeats 1000000 in
theorem goes_no (own : Int) (st0 : Int) (o : Bool) (lk pr : Int) (p q : ByteArray) (fr to_ th pl : Int) (w : World) (h : st0 ≠ fr) :
    Calls Tryd.prog 74 #[.int .u64 own, chV st0 o lk pr p q, .int .i64 fr, .int .i64 to_, .int .i64 th, .int .u64 pl] w fun e w' => e = .returned (.tuple #[chV 0 false 0 0 ⟨#[]⟩ ⟨#[]⟩, chV 0 false 0 0 ⟨#[]⟩ ⟨#[]⟩, .int .i64 180]) ∧ Below w.heap.size w w' := by
  have t : (st0 != fr) = true := by simp [h]
  clear h
  go_enter Tryd.func74, Tryd.ntmps74
  go_wp2_with fail
  refine bodyPost_ret (v := .tuple #[chV 0 false 0 0 ⟨#[]⟩ ⟨#[]⟩, chV 0 false 0 0 ⟨#[]⟩ ⟨#[]⟩, .int .i64 180]) (by simp [results, Tryd.results74, go_sem]) rfl ⟨rfl, ?_⟩
  exact balloc (balloc (balloc (Below.refl _ w) _) _) _
set_option maxRecDepth 100000 in
set_option maxHeartbeats 1000000 in
theorem goes_yes (own : Int) (st0 : Int) (o : Bool) (lk pr : Int) (p q : ByteArray) (fr to_ th pl : Int) (w : World) (h : st0 = fr) :
    Calls Tryd.prog 74 #[.int .u64 own, chV st0 o lk pr p q, .int .i64 fr, .int .i64 to_, .int .i64 th, .int .u64 pl] w fun e w' => e = .returned (.tuple #[chV to_ o lk pr p q, chV th o pl own q p, .int .i64 0]) ∧ Below w.heap.size w w' := by
  have t : (st0 != fr) = false := by simp [h]
  clear h
  go_enter Tryd.func74, Tryd.ntmps74
  go_upto_region 3 with fail
  have h0 := ((Blk.new w 57 (chC st0 o lk pr p q)).alloc (.cells #[.int .i64 0, .bool false, .int .u64 0, .int .u64 0, .string ⟨#[]⟩, .string ⟨#[]⟩] 57)).alloc (.cells #[.int .i64 0, .bool false, .int .u64 0, .int .u64 0, .string ⟨#[]⟩, .string ⟨#[]⟩] 57)
  have h1 := (Blk.new (w.alloc (.cells (chC st0 o lk pr p q) 57)) 57 #[.int .i64 0, .bool false, .int .u64 0, .int .u64 0, .string ⟨#[]⟩, .string ⟨#[]⟩]).alloc (.cells #[.int .i64 0, .bool false, .int .u64 0, .int .u64 0, .string ⟨#[]⟩, .string ⟨#[]⟩] 57)
  have h2 := Blk.new ((w.alloc (.cells (chC st0 o lk pr p q) 57)).alloc (.cells #[.int .i64 0, .bool false, .int .u64 0, .int .u64 0, .string ⟨#[]⟩, .string ⟨#[]⟩] 57)) 57 #[.int .i64 0, .bool false, .int .u64 0, .int .u64 0, .string ⟨#[]⟩, .string ⟨#[]⟩]
  have hL := balloc (balloc (balloc (Below.refl _ w) (.cells (chC st0 o lk pr p q) 57)) (.cells #[.int .i64 0, .bool false, .int .u64 0, .int .u64 0, .string ⟨#[]⟩, .string ⟨#[]⟩] 57)) (.cells #[.int .i64 0, .bool false, .int .u64 0, .int .u64 0, .string ⟨#[]⟩, .string ⟨#[]⟩] 57)
  rw [show (w.alloc (.cells (chC st0 o lk pr p q) 57)).heap.size = w.heap.size + 1 by simp] at h1
  rw [show ((w.alloc (.cells (chC st0 o lk pr p q) 57)).alloc (.cells #[.int .i64 0, .bool false, .int .u64 0, .int .u64 0, .string ⟨#[]⟩, .string ⟨#[]⟩] 57)).heap.size = w.heap.size + 1 + 1 by simp] at h2
  generalize ((w.alloc (.cells (chC st0 o lk pr p q) 57)).alloc (.cells #[.int .i64 0, .bool false, .int .u64 0, .int .u64 0, .string ⟨#[]⟩, .string ⟨#[]⟩] 57)).alloc (.cells #[.int .i64 0, .bool false, .int .u64 0, .int .u64 0, .string ⟨#[]⟩, .string ⟨#[]⟩] 57) = w1 at h0 h1 h2 hL ⊢
  have c0 : w1.cell? ⟨w.heap.size, 0, none⟩ = some (.int .i64 st0) := h0.cell 0
  have c1 : w1.cell? ⟨w.heap.size, 1, none⟩ = some (.bool o) := h0.cell 1
  have c2 : w1.cell? ⟨w.heap.size, 2, none⟩ = some (.int .u64 lk) := h0.cell 2
  have c3 : w1.cell? ⟨w.heap.size, 3, none⟩ = some (.int .u64 pr) := h0.cell 3
  have c4 : w1.cell? ⟨w.heap.size, 4, none⟩ = some (.string p) := h0.cell 4
  have c5 : w1.cell? ⟨w.heap.size, 5, none⟩ = some (.string q) := h0.cell 5
  have H0 := Lib.hid h0
  have H1 := Lib.hid h1
  have H2 := Lib.hid h2
  have HL := Lib.hid hL
  clear h0 h1 h2 hL
  go_region_held3 (fun w' => w'.cell? ⟨w.heap.size, 0, none⟩ = some (.int .i64 st0) ∧ w'.cell? ⟨w.heap.size, 1, none⟩ = some (.bool o) ∧ w'.cell? ⟨w.heap.size, 2, none⟩ = some (.int .u64 lk) ∧ w'.cell? ⟨w.heap.size, 3, none⟩ = some (.int .u64 pr) ∧ w'.cell? ⟨w.heap.size, 4, none⟩ = some (.string p) ∧ w'.cell? ⟨w.heap.size, 5, none⟩ = some (.string q)) (first | go_keep | with_reducible exact ⟨k0, k1, k2, k3, k4, k5⟩ | (refine ⟨?_, ?_, ?_, ?_, ?_, ?_⟩ <;> go_simp))
    (first | (go_at_call 73; refine (mirror_is st0 o lk pr p q th pl own _).mono ?_; rintro e w2 ⟨rfl, hb2⟩; have hL2 := bstep HL.out.drew hb2; have i0 := H0.out.drew.below hb2; have i1 := H1.out.drew.below hb2; have i2 := H2.out.drew.below hb2; have k0 := i0.cell 0; have k1 := i0.cell 1; have k2 := i0.cell 2; have k3 := i0.cell 3; have k4 := i0.cell 4; have k5 := i0.cell 5; have d0 := i1.cell 0; have fd0 := i1.frozen 0; have d1 := i1.cell 1; have fd1 := i1.frozen 1; have d2 := i1.cell 2; have fd2 := i1.frozen 2; have d3 := i1.cell 3; have fd3 := i1.frozen 3; have d4 := i1.cell 4; have fd4 := i1.frozen 4; have d5 := i1.cell 5; have fd5 := i1.frozen 5; have e0 := i2.cell 0; have fe0 := i2.frozen 0; have e1 := i2.cell 1; have fe1 := i2.frozen 1; have e2 := i2.cell 2; have fe2 := i2.frozen 2; have e3 := i2.cell 3; have fe3 := i2.frozen 3; have e4 := i2.cell 4; have fe4 := i2.frozen 4; have e5 := i2.cell 5; have fe5 := i2.frozen 5; simp only [List.getElem?_toArray, List.getElem?_cons_zero, List.getElem?_cons_succ] at k0 d0 e0 k1 d1 e1 k2 d2 e2 k3 d3 e3 k4 d4 e4 k5 d5 e5; have HL2 := Lib.hid hL2; have I1 := Lib.hid i1; have I2 := Lib.hid i2; clear hL2 hb2 i0 i1 i2 c0 c1 c2 c3 c4 c5))
  have j1 := (I1.out.set6 (.int .i64 st0) (.bool o) (.int .u64 lk) (.int .u64 pr) (.string p) (.string q)).other6 (w.heap.size + 1 + 1) (by omega) (.int .i64 th) (.bool o) (.int .u64 pl) (.int .u64 own) (.string q) (.string p)
  have j2 := (I2.out.other6 (w.heap.size + 1) (by omega) (.int .i64 st0) (.bool o) (.int .u64 lk) (.int .u64 pr) (.string p) (.string q)).set6 (.int .i64 th) (.bool o) (.int .u64 pl) (.int .u64 own) (.string q) (.string p)
  have jl := below_set6 (below_set6 HL2.out (w.heap.size + 1) (by omega) (.int .i64 st0) (.bool o) (.int .u64 lk) (.int .u64 pr) (.string p) (.string q)) (w.heap.size + 1 + 1) (by omega) (.int .i64 th) (.bool o) (.int .u64 pl) (.int .u64 own) (.string q) (.string p)
  simp only [setC6] at j1 j2 jl
  generalize ((((((((((((w2.setCell ⟨w.heap.size + 1, 0, none⟩ (.int .i64 st0)).setCell ⟨w.heap.size + 1, 1, none⟩ (.bool o)).setCell ⟨w.heap.size + 1, 2, none⟩ (.int .u64 lk)).setCell ⟨w.heap.size + 1, 3, none⟩ (.int .u64 pr)).setCell ⟨w.heap.size + 1, 4, none⟩ (.string p)).setCell ⟨w.heap.size + 1, 5, none⟩ (.string q)).setCell ⟨w.heap.size + 1 + 1, 0, none⟩ (.int .i64 th)).setCell ⟨w.heap.size + 1 + 1, 1, none⟩ (.bool o)).setCell ⟨w.heap.size + 1 + 1, 2, none⟩ (.int .u64 pl)).setCell ⟨w.heap.size + 1 + 1, 3, none⟩ (.int .u64 own)).setCell ⟨w.heap.size + 1 + 1, 4, none⟩ (.string q)).setCell ⟨w.heap.size + 1 + 1, 5, none⟩ (.string p)) = w3 at j1 j2 jl ⊢
  have J1 := Lib.hid (j1.set_ 0 (.int .i64 to_))
  have J2 := Lib.hid (j2.other (w.heap.size + 1) 0 (.int .i64 to_) (by omega))
  have JL := Lib.hid (jl.setCell (p := ⟨w.heap.size + 1, 0, none⟩) (by simp) (.int .i64 to_))
  have c0 : w3.cell? ⟨w.heap.size + 1, 0, none⟩ = some (.int .i64 st0) := j1.cell 0
  have f0 := j1.frozen 0
  clear j1 j2 jl k0 k1 k2 k3 k4 k5 d0 d1 d2 d3 d4 d5 e0 e1 e2 e3 e4 e5 fd0 fd1 fd2 fd3 fd4 fd5 fe0 fe1 fe2 fe3 fe4 fe5
  go_wp2_with fail
  generalize w3.setCell ⟨w.heap.size + 1, 0, none⟩ (.int .i64 to_) = w4 at J1 J2 JL ⊢
  have d0 : w4.cell? ⟨w.heap.size + 1, 0, none⟩ = some (.int .i64 to_) := J1.out.cell 0
  have d1 : w4.cell? ⟨w.heap.size + 1, 1, none⟩ = some (.bool o) := J1.out.cell 1
  have d2 : w4.cell? ⟨w.heap.size + 1, 2, none⟩ = some (.int .u64 lk) := J1.out.cell 2
  have d3 : w4.cell? ⟨w.heap.size + 1, 3, none⟩ = some (.int .u64 pr) := J1.out.cell 3
  have d4 : w4.cell? ⟨w.heap.size + 1, 4, none⟩ = some (.string p) := J1.out.cell 4
  have d5 : w4.cell? ⟨w.heap.size + 1, 5, none⟩ = some (.string q) := J1.out.cell 5
  have e0 : w4.cell? ⟨w.heap.size + 1 + 1, 0, none⟩ = some (.int .i64 th) := J2.out.cell 0
  have e1 : w4.cell? ⟨w.heap.size + 1 + 1, 1, none⟩ = some (.bool o) := J2.out.cell 1
  have e2 : w4.cell? ⟨w.heap.size + 1 + 1, 2, none⟩ = some (.int .u64 pl) := J2.out.cell 2
  have e3 : w4.cell? ⟨w.heap.size + 1 + 1, 3, none⟩ = some (.int .u64 own) := J2.out.cell 3
  have e4 : w4.cell? ⟨w.heap.size + 1 + 1, 4, none⟩ = some (.string q) := J2.out.cell 4
  have e5 : w4.cell? ⟨w.heap.size + 1 + 1, 5, none⟩ = some (.string p) := J2.out.cell 5
  exact bodyPost_ret (v := .tuple #[chV to_ o lk pr p q, chV th o pl own q p, .int .i64 0]) (by simp [results, Tryd.results74, go_sem, d0, d1, d2, d3, d4, d5, e0, e1, e2, e3, e4, e5]) rfl ⟨rfl, JL.out⟩
end Go.Proofs.YtpekbnkmnellpaaDoor
