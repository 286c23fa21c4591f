/-
  The walk of voussoirlaw18.input: what a packet's commitment sums.
-/
import Derived.Test.YtpekbnkmnellpaaDoorRef1
namespace Go.Proofs.YtpekbnkmnellpaaDoor
open Go.RowKit
set_option linter.unusedVariables false

set_option maxRecDepth 100000 in
set_option maxHeartbeats 1000000 in
theorem inp_is (p : Pk) (w : World) (hp : p.ok) :
    Calls Tryd.prog 17 #[p.v] w fun e w' => e = .returned (.string ⟨p.inp.toArray⟩) ∧ Below w.heap.size w w' := by
  obtain ⟨sq, fr, to_, dt, tm⟩ := p
  have HP := Lib.hid hp
  have hdt : dt.size ≤ 140737488351232 := hp.data
  clear hp
  have HN := Lib.hid (Pk.inp_len ⟨sq, fr, to_, dt, tm⟩)
  show Calls Tryd.prog 17 #[.agg #[.int .u64 sq, .int .u64 fr, .int .u64 to_, .string dt, .int .u64 tm]] w fun e w' => e = .returned (.string ⟨(Pk.inp ⟨sq, fr, to_, dt, tm⟩).toArray⟩) ∧ Below w.heap.size w w'
  go_enter Tryd.func17, Tryd.ntmps17
  go_wp2_with fail
  have hP := Blk.new w 24 #[.int .u64 sq, .int .u64 fr, .int .u64 to_, .string dt, .int .u64 tm]
  have hL := balloc (Below.refl _ w) (.cells #[.int .u64 sq, .int .u64 fr, .int .u64 to_, .string dt, .int .u64 tm] 24)
  have hs : (w.alloc (.cells #[.int .u64 sq, .int .u64 fr, .int .u64 to_, .string dt, .int .u64 tm] 24)).heap.size = w.heap.size + 1 := by simp
  generalize w.alloc (.cells #[.int .u64 sq, .int .u64 fr, .int .u64 to_, .string dt, .int .u64 tm] 24) = w0 at hP hL hs ⊢
  refine (rnewwriter_is w0).mono ?_
  rintro e w1 ⟨rfl, rfl⟩
  have hW := Blk.new w0 126 #[.string ⟨#[]⟩]
  have hP1 := hP.alloc (.cells #[.string ⟨#[]⟩] 126)
  have hL1 := balloc hL (.cells #[.string ⟨#[]⟩] 126)
  have hg : w.heap.size < w0.heap.size := by omega
  clear hP hL hs
  generalize w0.alloc (.cells #[.string ⟨#[]⟩] 126) = w1 at hW hP1 hL1 ⊢
  generalize w0.heap.size = g at hW hg ⊢
  have HW1 := Lib.hid hW
  have HP1 := Lib.hid hP1
  have HL1 := Lib.hid hL1
  clear hW hP1 hL1
  have p0 : w1.cell? ⟨w.heap.size, 0, none⟩ = some (.int .u64 sq) := HP1.out.cell 0
  go_wp2_with fail
  refine (rnum_is w1 g [] sq HW1.out (by simp) HP.out.seq).mono ?_
  rintro e w2 ⟨rfl, hw2, ho2⟩
  have HP2 := Lib.hid (HP1.out.only ho2 (by simp; omega))
  have HL2 := Lib.hid (HL1.out.trans (ho2.below (B := w.heap.size) (by simp; omega) HL1.out.size))
  have HW2 := Lib.hid hw2
  clear hw2 ho2 p0 HP1 HL1 HW1
  have p1 : w2.cell? ⟨w.heap.size, 1, none⟩ = some (.int .u64 fr) := HP2.out.cell 1
  go_wp2_with fail
  refine (rnum_is w2 g _ fr HW2.out (by simp [nB_len]) HP.out.src).mono ?_
  rintro e w3 ⟨rfl, hw3, ho3⟩
  have HP3 := Lib.hid (HP2.out.only ho3 (by simp; omega))
  have HL3 := Lib.hid (HL2.out.trans (ho3.below (B := w.heap.size) (by simp; omega) HL2.out.size))
  have HW3 := Lib.hid hw3
  clear hw3 ho3 p1 HP2 HL2 HW2
  have p2 : w3.cell? ⟨w.heap.size, 2, none⟩ = some (.int .u64 to_) := HP3.out.cell 2
  go_wp2_with fail
  refine (rnum_is w3 g _ to_ HW3.out (by simp [nB_len]) HP.out.dst).mono ?_
  rintro e w4 ⟨rfl, hw4, ho4⟩
  have HP4 := Lib.hid (HP3.out.only ho4 (by simp; omega))
  have HL4 := Lib.hid (HL3.out.trans (ho4.below (B := w.heap.size) (by simp; omega) HL3.out.size))
  have HW4 := Lib.hid hw4
  clear hw4 ho4 p2 HP3 HL3 HW3
  have p4 : w4.cell? ⟨w.heap.size, 4, none⟩ = some (.int .u64 tm) := HP4.out.cell 4
  go_wp2_with fail
  refine (rnum_is w4 g _ tm HW4.out (by simp [nB_len]) HP.out.timeout).mono ?_
  rintro e w5 ⟨rfl, hw5, ho5⟩
  have HP5 := Lib.hid (HP4.out.only ho5 (by simp; omega))
  have HL5 := Lib.hid (HL4.out.trans (ho5.below (B := w.heap.size) (by simp; omega) HL4.out.size))
  have e5 : [] ++ nB sq 8 ++ nB fr 8 ++ nB to_ 8 ++ nB tm 8 = numsL [sq, fr, to_, tm] := by simp [numsL]
  rw [e5] at hw5
  have HW5 := Lib.hid hw5
  have HN' : Hid ((inpL 13 [⟨(numsL [sq, fr, to_, tm]).toArray⟩, dt]).length ≤ 140737488355328) := Lib.hid (by have := HN.out; unfold Pk.inp at this; rw [this]; show 41 + dt.size ≤ _; omega)
  clear hw5 ho5 p4 HP4 HL4 HW4 e5 HN
  have HE : Hid (Pk.inp ⟨sq, fr, to_, dt, tm⟩ = inpL 13 [⟨(numsL [sq, fr, to_, tm]).toArray⟩, dt]) := Lib.hid rfl
  generalize numsL [sq, fr, to_, tm] = X at HW5 HN' HE
  have cd : w5.cell? ⟨w.heap.size, 3, none⟩ = some (.string dt) := HP5.out.cell 3
  go_upto_region 6 with fail
  go_region_held3 (fun w' => w'.cell? ⟨w.heap.size, 3, none⟩ = some (.string dt)) (first | go_keep | exact cd9)
    (first | (go_at_call 67; refine (rbytes_is _ g ⟨X.toArray⟩ (by exact HW5.out.drew)).mono ?_; rintro e w' ⟨rfl, rfl⟩) | (go_at_call 18; refine (rinp13 ⟨X.toArray⟩ dt w5.heap.size _ (by exact Blk.drew (Blk.new w5 _ _)) HN'.out).mono ?_; rintro e w' ⟨rfl, hb9⟩; have cd9 := (((HP5.out.alloc _).drew).below hb9).cell 3))
  go_wp2_with fail
  go_ret
  exact ⟨by rw [HE.out]; rfl, bstep (balloc HL5.out _).drew hb9⟩
end Go.Proofs.YtpekbnkmnellpaaDoor
