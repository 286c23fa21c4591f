/-
  The walks of the store: Root, Value.
-/
import Derived.Test.YtichklplcpkjdaaDoorStoE
namespace Go.Proofs.YtichklplcpkjdaaDoor
open Go.RowKit
set_option linter.unusedVariables false

set_option maxHeartbeats 1000000 in
theorem root_is (i : Nat) (Z : Nat → Prop) (s t n : Nat) (hn : n ≤ 4194304) (f : PM) (l : List PM) (w : World) (h : StAt w Z s t n f l) (hl : l.length ≤ 1000) (hi : i < l.length) :
    Calls Tryd.prog 13 #[.pointer (some ⟨s, 0, none⟩), .int .i64 (i : Int)] w fun e w' => e = .returned (.tuple #[.string (rootP l[i]), .int .i64 0]) ∧ Below w.heap.size w w' := by
  have HA := Lib.hid (at_good i Z s t n f l w h hl hi)
  have HG := Lib.hid h.glob
  clear h
  generalize l[i] = fi at HA ⊢
  simp only [ptr] at HA
  go_enter Tryd.func13, Tryd.ntmps13
  go_wp2_with fail
  refine HA.out.mono ?_
  rintro e w1 ⟨x, y, rfl, hT, hb1⟩
  have HT := Lib.hid hT
  have HB1 := Lib.hid hb1
  have hcell := Blk.new w1 42 #[.pointer none]
  have c0 := hcell.cell 0
  have f0 := hcell.frozen 0
  clear hT hb1 hcell
  go_wp2_with fail
  have hb2 := balloc (Below.refl _ w1) (.cells #[.pointer (some ⟨x, 0, none⟩)] 42)
  refine (troot_is _ ((HG.out.next HB1.out).next hb2) x y n fi (HT.out.below hb2) hn).mono ?_
  rintro e w2 ⟨rfl, hb3⟩
  have HB3 := Lib.hid (bstep (bstep HB1.out hb2) hb3)
  clear hb2 hb3
  go_wp2_with fail
  go_ret2
  exact ⟨rfl, HB3.out⟩
set_option maxHeartbeats 1000000 in
theorem value_is (i : Nat) (p : Pa) (hp : p.ok) (Z : Nat → Prop) (s t n : Nat) (f : PM) (l : List PM) (w : World) (h : StAt w Z s t n f l) (hl : l.length ≤ 1000) (hi : i < l.length) :
    Calls Tryd.prog 12 #[.pointer (some ⟨s, 0, none⟩), .int .i64 (i : Int), p.v] w fun e w' => e = .returned (.tuple #[.string (valF l[i] p), .bool (hasF l[i] p)]) ∧ Below w.heap.size w w' := by
  obtain ⟨fi, hfi⟩ : ∃ fi, l[i] = fi := ⟨_, rfl⟩
  rw [hfi]
  have HA : Hid (∀ W, Below w.heap.size w W → Calls Tryd.prog 28 #[.pointer (some ⟨s, 0, none⟩), .int .i64 (i : Int)] W fun e w' => ∃ x y, e = .returned (.tuple #[.agg #[ptr x], .int .i64 0]) ∧ TAt w' x y n fi ∧ Below W.heap.size W w') := Lib.hid (fun W hb => hfi ▸ at_good i Z s t n f l W (h.below hb) hl hi)
  have HS := Lib.hid (fun (x y : Nat) (W : World) => sget_is p hp x y n fi W)
  have HG := Lib.hid h.glob
  have HF := Lib.hid h.forms
  clear h hfi hp
  generalize valF fi p = va at HS ⊢
  generalize hasF fi p = ha at HS ⊢
  obtain ⟨pk, pa, pb⟩ := p
  simp only [Pa.v, ptr] at HA HS ⊢
  have hb0 := balloc (Below.refl _ w) (.cells #[.int .i64 pk, .int .u64 pa, .int .u64 pb] 25)
  have hB := Blk.new w 25 #[.int .i64 pk, .int .u64 pa, .int .u64 pb]
  have HA1 := Lib.hid (HA.out _ hb0)
  go_enter Tryd.func12, Tryd.ntmps12
  go_wp2_with fail
  refine HA1.out.mono ?_
  rintro e w1 ⟨x, y, rfl, hT, hb1⟩
  have HT := Lib.hid hT
  have HB1 := Lib.hid (bstep hb0 hb1)
  have hP := (hB.below hb1).alloc (.cells #[.pointer (some ⟨x, 0, none⟩)] 42)
  have p0 := hP.cell 0
  have p1 := hP.cell 1
  have p2 := hP.cell 2
  have hcell := Blk.new w1 42 #[.pointer none]
  have c0 := hcell.cell 0
  have f0 := hcell.frozen 0
  clear hT hb1 hcell hB hb0 hP
  go_wp2_with fail
  have hb2 := balloc (Below.refl _ w1) (.cells #[.pointer (some ⟨x, 0, none⟩)] 42)
  refine (HS.out x y _ ((HG.out.next HB1.out).next hb2) ((HF.out.below HB1.out).below hb2) (HT.out.below hb2)).mono ?_
  rintro e w2 ⟨rfl, hb3⟩
  have HB3 := Lib.hid (bstep (bstep HB1.out hb2) hb3)
  clear hb2 hb3
  go_wp2_with fail
  go_ret2
  exact ⟨rfl, HB3.out⟩
set_option maxHeartbeats 1000000 in
theorem value_bad (i : Int) (hlo : -9223372036854775808 ≤ i) (hhi : i ≤ 9223372036854775807) (p : Pa) (Z : Nat → Prop) (s t n : Nat) (f : PM) (l : List PM) (w : World) (h : StAt w Z s t n f l) (hl : l.length ≤ 1000) (hi : i < 0 ∨ (l.length : Int) ≤ i) :
    Calls Tryd.prog 12 #[.pointer (some ⟨s, 0, none⟩), .int .i64 i, p.v] w fun e w' => e = .returned (.tuple #[.string ByteArray.empty, .bool false]) ∧ Below w.heap.size w w' := by
  obtain ⟨pk, pa, pb⟩ := p
  simp only [Pa.v]
  have HB0 := Lib.hid (balloc (Below.refl _ w) (.cells #[.int .i64 pk, .int .u64 pa, .int .u64 pb] 25))
  have HA := Lib.hid (at_bad i hlo hhi Z s t n f l _ (h.below HB0.out) hl hi)
  clear h
  go_enter Tryd.func12, Tryd.ntmps12
  go_wp2_with fail
  refine HA.out.mono ?_
  rintro e w1 ⟨rfl, hb1⟩
  have HB1 := Lib.hid (bstep HB0.out hb1)
  have hcell := Blk.new w1 42 #[.pointer none]
  have c0 := hcell.cell 0
  have f0 := hcell.frozen 0
  clear hb1 hcell
  go_wp2_with fail
  go_ret2
  exact ⟨rfl, balloc HB1.out _⟩
end Go.Proofs.YtichklplcpkjdaaDoor
