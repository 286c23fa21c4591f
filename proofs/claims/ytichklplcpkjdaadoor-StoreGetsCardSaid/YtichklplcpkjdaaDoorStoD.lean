/-
  The walks of the store: state's Get, Set, Delete; New, Height, at, Root, Value.
-/
import Derived.Test.YtichklplcpkjdaaDoorStoC
namespace Go.Proofs.YtichklplcpkjdaaDoor
open Go.RowKit
set_option linter.unusedVariables false

theorem pp_is (p : Pa) (h : p.ok) (w : World) (F : FormsAt w) :
    Calls Tryd.prog 30 #[p.v] w fun e w' => e = .returned (.tuple #[.string p.key, .int .i64 0]) ∧ Below w.heap.size w w' := by
  obtain ⟨h1, h2, h3, h4, h5⟩ := h
  refine (pprint_good p.k p.a p.b w h1 h2 (by omega) (by omega) (by omega) (by omega) F).mono ?_
  rintro e w' ⟨he, hb⟩
  refine ⟨?_, hb⟩
  rcases he with ⟨_, he⟩ | ⟨hn, _⟩
  · rw [he]; rfl
  · refine absurd ?_ hn
    cases hf : (Pth.fm p.k).2.2
    · right; rw [h5 hf]; rfl
    · left; rfl
/-- what stands at a path -/
def valF (f : PM) (p : Pa) : ByteArray := (f (pathP p.key)).getD ByteArray.empty
def hasF (f : PM) (p : Pa) : Bool := (f (pathP p.key)).isSome
set_option maxHeartbeats 1000000 in
theorem sget_is (p : Pa) (hp : p.ok) (t b n : Nat) (f : PM) (w : World) (G : Glob w) (F : FormsAt w) (h : TAt w t b n f) :
    Calls Tryd.prog 14 #[.agg #[ptr t], p.v] w fun e w' => e = .returned (.tuple #[.string (valF f p), .bool (hasF f p)]) ∧ Below w.heap.size w w' := by
  have HPP : Hid (∀ W, FormsAt W → Calls Tryd.prog 30 #[p.v] W fun e w' => e = .returned (.tuple #[.string p.key, .int .i64 0]) ∧ Below W.heap.size W w') := Lib.hid (fun W g => pp_is p hp W g)
  have HTG : Hid (∀ W, Glob W → TAt W t b n f → Calls Tryd.prog 31 #[.pointer (some ⟨t, 0, none⟩), .string p.key] W fun e w' => e = .returned (.tuple #[.string (valF f p), .bool (hasF f p)]) ∧ Below W.heap.size W w') := Lib.hid (fun W g hT => tget_is W g t b n f p.key hT (by have := Pa.key_size hp; omega))
  have HG := Lib.hid G
  have HF := Lib.hid F
  have HT := Lib.hid h
  clear G F h hp
  generalize p.key = key at HPP HTG ⊢
  generalize valF f p = va at HTG ⊢
  generalize hasF f p = ha at HTG ⊢
  obtain ⟨pk, pa, pb⟩ := p
  simp only [Pa.v, ptr] at HPP ⊢
  go_enter Tryd.func14, Tryd.ntmps14
  go_wp2_with fail
  have hb0 := balloc (balloc (Below.refl _ w) (.cells #[.pointer (some ⟨t, 0, none⟩)] 42)) (.cells #[.int .i64 pk, .int .u64 pa, .int .u64 pb] 25)
  have hB := (Blk.new w 42 #[.pointer (some ⟨t, 0, none⟩)]).alloc (.cells #[.int .i64 pk, .int .u64 pa, .int .u64 pb] 25)
  refine (HPP.out _ (HF.out.below hb0)).mono ?_
  rintro e w1 ⟨rfl, hb1⟩
  have HB1 := Lib.hid (bstep hb0 hb1)
  have c0 := (hB.below hb1).cell 0
  clear hb0 hb1 hB
  go_wp2_with fail
  refine (HTG.out _ (HG.out.next HB1.out) (HT.out.below HB1.out)).mono ?_
  rintro e w2 ⟨rfl, hb2⟩
  have HB2 := Lib.hid (bstep HB1.out hb2)
  clear hb2
  go_wp2_with fail
  go_ret2
  exact ⟨rfl, HB2.out⟩
set_option maxHeartbeats 1000000 in
theorem sset_is (p : Pa) (hp : p.ok) (v : ByteArray) (hv : v.size ≤ 140737488351232) (Z : Nat → Prop) (s t n : Nat) (hn : n < maxLen) (f : PM) (l : List PM) (w : World) (h : StAt w Z s t n f l) :
    Calls Tryd.prog 19 #[.agg #[ptr t], p.v, .string v] w fun e w' => e = .returned (.int .i64 0) ∧ StAt w' Z s t (n + 1) (updP f (pathP p.key) (some v)) l ∧ Kp Z w w' := by
  have HPP : Hid (∀ W, FormsAt W → Calls Tryd.prog 30 #[p.v] W fun e w' => e = .returned (.tuple #[.string p.key, .int .i64 0]) ∧ Below W.heap.size W w') := Lib.hid (fun W g => pp_is p hp W g)
  have HTS : Hid (∀ W, StAt W Z s t n f l → Calls Tryd.prog 33 #[.pointer (some ⟨t, 0, none⟩), .string p.key, .string v] W fun e w' => e = .returned (.tuple #[]) ∧ StAt w' Z s t (n + 1) (updP f (pathP p.key) (some v)) l ∧ Kp Z W w') := Lib.hid (fun W hS => by
    obtain ⟨b, hT, hq⟩ := hS.turn
    refine (tset_is W hS.glob t b n f p.key v hT (by have := Pa.key_size hp; omega) hv hn).mono ?_
    rintro e w' ⟨he, h1, h2⟩
    obtain ⟨h3, h4⟩ := hq w' (n + 1) _ (by omega) h1 h2
    exact ⟨he, h3, h4⟩)
  have HS := Lib.hid h
  clear h hp
  generalize p.key = key at HPP HTS ⊢
  generalize updP f (pathP key) (some v) = f' at HTS ⊢
  obtain ⟨pk, pa, pb⟩ := p
  simp only [Pa.v, ptr] at HPP ⊢
  go_enter Tryd.func19, Tryd.ntmps19
  go_wp2_with fail
  have hb0 := balloc (balloc (Below.refl _ w) (.cells #[.pointer (some ⟨t, 0, none⟩)] 42)) (.cells #[.int .i64 pk, .int .u64 pa, .int .u64 pb] 25)
  have hB := (Blk.new w 42 #[.pointer (some ⟨t, 0, none⟩)]).alloc (.cells #[.int .i64 pk, .int .u64 pa, .int .u64 pb] 25)
  refine (HPP.out _ (HS.out.forms.below hb0)).mono ?_
  rintro e w1 ⟨rfl, hb1⟩
  have HB1 := Lib.hid (bstep hb0 hb1)
  have c0 := (hB.below hb1).cell 0
  clear hb0 hb1 hB
  go_wp2_with fail
  refine (HTS.out _ (HS.out.below HB1.out)).mono ?_
  rintro e w2 ⟨rfl, hs2, hk2⟩
  have HS2 := Lib.hid hs2
  have HK2 := Lib.hid ((Kp.of_below HB1.out HS.out.zlt).trans hk2)
  clear hs2 hk2
  go_wp2_with fail
  go_ret
  exact ⟨rfl, HS2.out, HK2.out⟩
set_option maxHeartbeats 1000000 in
theorem sdel_is (p : Pa) (hp : p.ok) (Z : Nat → Prop) (s t n : Nat) (f : PM) (l : List PM) (w : World) (h : StAt w Z s t n f l) :
    Calls Tryd.prog 18 #[.agg #[ptr t], p.v] w fun e w' => e = .returned (.int .i64 0) ∧ StAt w' Z s t n (updP f (pathP p.key) none) l ∧ Kp Z w w' := by
  have HPP : Hid (∀ W, FormsAt W → Calls Tryd.prog 30 #[p.v] W fun e w' => e = .returned (.tuple #[.string p.key, .int .i64 0]) ∧ Below W.heap.size W w') := Lib.hid (fun W g => pp_is p hp W g)
  have HTS : Hid (∀ W, StAt W Z s t n f l → Calls Tryd.prog 32 #[.pointer (some ⟨t, 0, none⟩), .string p.key] W fun e w' => e = .returned (.tuple #[]) ∧ StAt w' Z s t n (updP f (pathP p.key) none) l ∧ Kp Z W w') := Lib.hid (fun W hS => by
    obtain ⟨b, hT, hq⟩ := hS.turn
    refine (tdel_is W hS.glob t b n f p.key hT (by have := Pa.key_size hp; omega)).mono ?_
    rintro e w' ⟨he, h1, h2⟩
    obtain ⟨h3, h4⟩ := hq w' n _ (Nat.le_refl _) h1 h2
    exact ⟨he, h3, h4⟩)
  have HS := Lib.hid h
  clear h hp
  generalize p.key = key at HPP HTS ⊢
  generalize updP f (pathP key) none = f' at HTS ⊢
  obtain ⟨pk, pa, pb⟩ := p
  simp only [Pa.v, ptr] at HPP ⊢
  go_enter Tryd.func18, Tryd.ntmps18
  go_wp2_with fail
  have hb0 := balloc (balloc (Below.refl _ w) (.cells #[.pointer (some ⟨t, 0, none⟩)] 42)) (.cells #[.int .i64 pk, .int .u64 pa, .int .u64 pb] 25)
  have hB := (Blk.new w 42 #[.pointer (some ⟨t, 0, none⟩)]).alloc (.cells #[.int .i64 pk, .int .u64 pa, .int .u64 pb] 25)
  refine (HPP.out _ (HS.out.forms.below hb0)).mono ?_
  rintro e w1 ⟨rfl, hb1⟩
  have HB1 := Lib.hid (bstep hb0 hb1)
  have c0 := (hB.below hb1).cell 0
  clear hb0 hb1 hB
  go_wp2_with fail
  refine (HTS.out _ (HS.out.below HB1.out)).mono ?_
  rintro e w2 ⟨rfl, hs2, hk2⟩
  have HS2 := Lib.hid hs2
  have HK2 := Lib.hid ((Kp.of_below HB1.out HS.out.zlt).trans hk2)
  clear hs2 hk2
  go_wp2_with fail
  go_ret
  exact ⟨rfl, HS2.out, HK2.out⟩
set_option maxHeartbeats 1000000 in
theorem height_is (Z : Nat → Prop) (s t n : Nat) (f : PM) (l : List PM) (w : World) (h : StAt w Z s t n f l) (hl : l.length ≤ 1000) :
    Calls Tryd.prog 15 #[.pointer (some ⟨s, 0, none⟩)] w fun e w' => e = .returned (.int .i64 ((l.length : Int) - 1)) ∧ w = w' := by
  obtain ⟨g, cap, hb⟩ := h.blk
  have c1 := hb.cell 1
  have hw : IntKind.i64.wrap ((l.length : Int) - 1) = (l.length : Int) - 1 := by rw [IntKind.wrap_i64]; omega
  clear hb h
  generalize l.length = k at c1 hw hl ⊢
  go_enter Tryd.func15, Tryd.ntmps15
  go_wp2_with fail
  go_ret
  exact ⟨rfl, rfl⟩
end Go.Proofs.YtichklplcpkjdaaDoor
