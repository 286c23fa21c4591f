/-
  The walks of maps.Clone and of channel's Copy.
-/
import Derived.Test.YtpekbnkmnellpaaDoorFlowB
import Derived.Test.YtpekbnkmnellpaaDoorRegAll
import Derived.Shelf.SlMaps.Clone
import Derived.Laws.Externs
import Derived.Deep.RegionHeld3
namespace Go.Proofs.YtpekbnkmnellpaaDoor
open Go.RowKit Go.Maps
set_option linter.unusedVariables false

set_option maxRecDepth 100000 in
set_option maxHeartbeats 1000000 in
theorem cloneS_is (b : Nat) (es : Array MapEntry) (clock : Nat) (w : World) (hb : w.heap[b]? = some (.map es clock)) :
    Calls Tryd.prog 75 #[.map (some b)] w fun e w' => e = .returned (.map (some w.heap.size)) ∧ w' = w.alloc (.map es clock) := by
  have hq := fun w => run_eql_map_nil_sl (P := Tryd.prog) w 91 _ _ (some b) Tryd.underlying91
  have HB := Lib.hid hb
  clear hb
  go_enter Tryd.func75, Tryd.ntmps75
  go_wp2
  rw [run_callFunc_extern Tryd.func98 (by kernel_rfl) (by kernel_rfl) (by kernel_rfl) (e := Extern.MapsClone.clone) (by kernel_rfl), run_maps_clone_sl w 91 HB.out]
  simp only [Result.andThen]
  rw [Oper.upon_value]
  go_wp2
  rw [run_typeAssert_map_sl _ 91 _ _ _ _ Tryd.underlying91]
  simp only [Result.andThen]
  rw [Oper.upon_value]
  go_wp2
  go_ret
  exact ⟨rfl, rfl⟩
set_option maxRecDepth 100000 in
set_option maxHeartbeats 1000000 in
theorem cloneB_is (b : Nat) (es : Array MapEntry) (clock : Nat) (w : World) (hb : w.heap[b]? = some (.map es clock)) :
    Calls Tryd.prog 76 #[.map (some b)] w fun e w' => e = .returned (.map (some w.heap.size)) ∧ w' = w.alloc (.map es clock) := by
  have hq := fun w => run_eql_map_nil_sl (P := Tryd.prog) w 92 _ _ (some b) Tryd.underlying92
  have HB := Lib.hid hb
  clear hb
  go_enter Tryd.func76, Tryd.ntmps76
  go_wp2
  rw [run_callFunc_extern Tryd.func98 (by kernel_rfl) (by kernel_rfl) (by kernel_rfl) (e := Extern.MapsClone.clone) (by kernel_rfl), run_maps_clone_sl w 92 HB.out]
  simp only [Result.andThen]
  rw [Oper.upon_value]
  go_wp2
  rw [run_typeAssert_map_sl _ 92 _ _ _ _ Tryd.underlying92]
  simp only [Result.andThen]
  rw [Oper.upon_value]
  go_wp2
  go_ret
  exact ⟨rfl, rfl⟩
theorem MapS.block {w : World} {b n : Nat} {f : Int → Option ByteArray} (h : MapS w b n f) : ∃ es clock, w.heap[b]? = some (.map es clock) ∧ ∀ w' b', w'.heap[b']? = some (.map es clock) → MapS w' b' n f := by
  obtain ⟨D, ⟨es, clock, h1, h2⟩, hr⟩ := h
  exact ⟨es, clock, h1, fun w' b' hb => ⟨D, ⟨es, clock, hb, h2⟩, hr⟩⟩
theorem MapB.block {w : World} {b n : Nat} {f : Int → Bool} (h : MapB w b n f) : ∃ es clock, w.heap[b]? = some (.map es clock) ∧ ∀ w' b', w'.heap[b']? = some (.map es clock) → MapB w' b' n f := by
  obtain ⟨D, ⟨es, clock, h1, h2⟩, hr⟩ := h
  exact ⟨es, clock, h1, fun w' b' hb => ⟨D, ⟨es, clock, hb, h2⟩, hr⟩⟩
/-- behind the three clones -/
structure CpMid (w w1 : World) (f ms mw mg n : Nat) (cs : Array Value) (st wt : Int → Option ByteArray) (gt : Int → Bool) (w' : World) : Prop where
  c : Blk w' w.heap.size 98 cs
  s : w'.cell? ⟨f, 6, none⟩ = some (.map (some ms)) ∧ w'.cell? ⟨f, 7, none⟩ = some (.map (some mw)) ∧ w'.cell? ⟨f, 8, none⟩ = some (.map (some mg))
  m1 : MapS w' w1.heap.size n st
  m2 : MapS w' (w1.heap.size + 1) n wt
  m3 : MapB w' (w1.heap.size + 2) n gt
  bel : Below w.heap.size w w'
set_option maxRecDepth 100000 in
set_option maxHeartbeats 1000000 in
theorem flcopy_is (w : World) (f ms mw mg n : Nat) (od : Bool) (sd rv ak : Int) (st wt : Int → Option ByteArray) (gt : Int → Bool) (F : FlowAt w ⟨f, ms, mw, mg⟩ n ⟨od, sd, rv, ak, st, wt, gt⟩) :
    Calls Tryd.prog 36 #[.pointer (some ⟨f, 0, none⟩)] w fun e w' => e = .returned (.pointer (some ⟨w.heap.size, 0, none⟩)) ∧ FlowAt w' ⟨w.heap.size, w.heap.size + 1, w.heap.size + 2, w.heap.size + 3⟩ n ⟨od, sd, rv, ak, st, wt, gt⟩ ∧ Below w.heap.size w w' := by
  obtain ⟨f0, hf0⟩ : ∃ x, (if od then 68 else 70) = x := ⟨_, rfl⟩
  obtain ⟨f1, hf1⟩ : ∃ x, (if od then 69 else 71) = x := ⟨_, rfl⟩
  have hB : Blk w f 98 #[.func (.func f0) #[] #[], .func (.func f1) #[] #[], .bool od, .int .u64 sd, .int .u64 rv, .int .u64 ak, .map (some ms), .map (some mw), .map (some mg)] := by rw [← hf0, ← hf1]; exact F.blk
  have HF := Lib.hid F
  have HB := Lib.hid hB
  clear F hB
  have c0 : w.cell? ⟨f, 0, none⟩ = some (.func (.func f0) #[] #[]) := HB.out.cell 0
  have c1 : w.cell? ⟨f, 1, none⟩ = some (.func (.func f1) #[] #[]) := HB.out.cell 1
  have c2 : w.cell? ⟨f, 2, none⟩ = some (.bool od) := HB.out.cell 2
  have c3 : w.cell? ⟨f, 3, none⟩ = some (.int .u64 sd) := HB.out.cell 3
  have c4 : w.cell? ⟨f, 4, none⟩ = some (.int .u64 rv) := HB.out.cell 4
  have c5 : w.cell? ⟨f, 5, none⟩ = some (.int .u64 ak) := HB.out.cell 5
  have c6 : w.cell? ⟨f, 6, none⟩ = some (.map (some ms)) := HB.out.cell 6
  have c7 : w.cell? ⟨f, 7, none⟩ = some (.map (some mw)) := HB.out.cell 7
  have c8 : w.cell? ⟨f, 8, none⟩ = some (.map (some mg)) := HB.out.cell 8
  go_enter Tryd.func36, Tryd.ntmps36
  go_upto_region 2 with fail
  have hlt := HB.out.lt
  have hC := Blk.new w 98 #[.func (.func f0) #[] #[], .func (.func f1) #[] #[], .bool od, .int .u64 sd, .int .u64 rv, .int .u64 ak, .map (some ms), .map (some mw), .map (some mg)]
  have hL := balloc (Below.refl _ w) (.cells #[.func (.func f0) #[] #[], .func (.func f1) #[] #[], .bool od, .int .u64 sd, .int .u64 rv, .int .u64 ak, .map (some ms), .map (some mw), .map (some mg)] 98)
  have hs : (w.alloc (.cells #[.func (.func f0) #[] #[], .func (.func f1) #[] #[], .bool od, .int .u64 sd, .int .u64 rv, .int .u64 ak, .map (some ms), .map (some mw), .map (some mg)] 98)).heap.size = w.heap.size + 1 := by simp
  clear c0 c1 c2 c3 c4 c5 c6 c7 c8
  generalize w.alloc (.cells #[.func (.func f0) #[] #[], .func (.func f1) #[] #[], .bool od, .int .u64 sd, .int .u64 rv, .int .u64 ak, .map (some ms), .map (some mw), .map (some mg)] 98) = w1 at hC hL hs ⊢
  have hF1 := HF.out.below hL
  obtain ⟨es1, ck1, hb1, hm1⟩ := hF1.ms.block
  obtain ⟨es2, ck2, hb2, hm2⟩ := hF1.mw.block
  obtain ⟨es3, ck3, hb3, hm3⟩ := hF1.mg.block
  have HM1 := Lib.hid (And.intro hb1 hm1)
  have HM2 := Lib.hid (And.intro hb2 hm2)
  have HM3 := Lib.hid (And.intro hb3 hm3)
  have HF1 := Lib.hid hF1
  have HC1 := Lib.hid hC
  have HL1 := Lib.hid hL
  have HS1 := Lib.hid hs
  have c6 : w1.cell? ⟨f, 6, none⟩ = some (.map (some ms)) := hF1.blk.cell 6
  have c7 : w1.cell? ⟨f, 7, none⟩ = some (.map (some mw)) := hF1.blk.cell 7
  have c8 : w1.cell? ⟨f, 8, none⟩ = some (.map (some mg)) := hF1.blk.cell 8
  have lm1 : ms < w1.heap.size := hF1.ms.lt
  have lm2 : mw < w1.heap.size := hF1.mw.lt
  have lm3 : mg < w1.heap.size := hF1.mg.lt
  have lf : f < w1.heap.size := hF1.blk.lt
  clear hb1 hm1 hb2 hm2 hb3 hm3 hF1 hC hL hs
  have K1 : Hid (w1.drew.heap[ms]? = some (.map es1 ck1)) := Lib.hid HM1.out.1
  have K2 : Hid ((w1.alloc (.map es1 ck1)).drew.heap[mw]? = some (.map es2 ck2)) := Lib.hid ((Below.heap_alloc w1 _ _ lm2).trans HM2.out.1)
  have K3 : Hid (((w1.alloc (.map es1 ck1)).alloc (.map es2 ck2)).drew.heap[mg]? = some (.map es3 ck3)) := Lib.hid ((Below.heap_alloc (w1.alloc (.map es1 ck1)) _ _ (by simp; omega)).trans ((Below.heap_alloc w1 _ _ lm3).trans HM3.out.1))
  have HMid : Hid (CpMid w w1 f ms mw mg n #[.func (.func f0) #[] #[], .func (.func f1) #[] #[], .bool od, .int .u64 sd, .int .u64 rv, .int .u64 ak, .map (some ms), .map (some mw), .map (some mg)] st wt gt (((w1.alloc (.map es1 ck1)).alloc (.map es2 ck2)).drew.alloc (.map es3 ck3))) := Lib.hid (by
    have hb : Below w1.heap.size w1 (((w1.alloc (.map es1 ck1)).alloc (.map es2 ck2)).drew.alloc (.map es3 ck3)) := balloc (balloc (balloc (Below.refl _ w1) _) _).drew _
    have z1 : (w1.alloc (.map es1 ck1)).heap.size = w1.heap.size + 1 := by simp
    have z2 : ((w1.alloc (.map es1 ck1)).alloc (.map es2 ck2)).drew.heap.size = w1.heap.size + 2 := by show ((w1.alloc (.map es1 ck1)).alloc (.map es2 ck2)).heap.size = _; simp
    refine ⟨HC1.out.below hb, ⟨(hb.cell (p := ⟨f, 6, none⟩) lf).trans c6, (hb.cell (p := ⟨f, 7, none⟩) lf).trans c7, (hb.cell (p := ⟨f, 8, none⟩) lf).trans c8⟩, HM1.out.2 _ _ ?_, HM2.out.2 _ _ ?_, HM3.out.2 _ _ ?_, bstep HL1.out hb⟩
    · refine (Below.heap_alloc _ _ _ (by rw [z2]; omega)).trans ?_
      show ((w1.alloc (.map es1 ck1)).alloc (.map es2 ck2)).heap[w1.heap.size]? = _
      exact (Below.heap_alloc _ _ _ (by rw [z1]; omega)).trans (heap_alloc_new w1 _)
    · refine (Below.heap_alloc _ _ _ (by rw [z2]; omega)).trans ?_
      show ((w1.alloc (.map es1 ck1)).alloc (.map es2 ck2)).heap[w1.heap.size + 1]? = _
      rw [← z1]
      exact heap_alloc_new _ _
    · rw [← z2]
      exact heap_alloc_new _ _)
  have HCl3 : Hid (Calls Tryd.prog 76 #[.map (some mg)] ((w1.alloc (.map es1 ck1)).alloc (.map es2 ck2)).drew fun e w' => e = .returned (.map (some (w1.heap.size + 2))) ∧ CpMid w w1 f ms mw mg n #[.func (.func f0) #[] #[], .func (.func f1) #[] #[], .bool od, .int .u64 sd, .int .u64 rv, .int .u64 ak, .map (some ms), .map (some mw), .map (some mg)] st wt gt w') := Lib.hid ((cloneB_is mg es3 ck3 _ K3.out).mono fun e w' ⟨h1, h2⟩ => ⟨h1.trans (by show Ending.returned (.map (some ((w1.alloc (.map es1 ck1)).alloc (.map es2 ck2)).heap.size)) = _; simp), h2 ▸ HMid.out⟩)
  have hne : ¬ w.heap.size = f := by omega
  have hne' : ¬ f = w.heap.size := by omega
  clear lm1 lm2 lm3
  go_region_held3 (fun w' => w'.cell? ⟨f, 6, none⟩ = some (.map (some ms)) ∧ w'.cell? ⟨f, 7, none⟩ = some (.map (some mw)) ∧ w'.cell? ⟨f, 8, none⟩ = some (.map (some mg))) (first | go_keep | exact hS3)
    (first | (go_at_call 75; (with_reducible refine (cloneS_is ms es1 ck1 w1.drew K1.out).mono ?_); rintro e w' ⟨rfl, rfl⟩) | (go_at_call 75; (with_reducible refine (cloneS_is mw es2 ck2 (w1.alloc (.map es1 ck1)).drew K2.out).mono ?_); rintro e w' ⟨rfl, rfl⟩) | (go_at_call 76; (with_reducible refine HCl3.out.mono ?_); rintro e w3 ⟨rfl, hmid⟩; have hS3 := hmid.s; have HMd := Lib.hid hmid; have d6 := hmid.c.cell 6; have d7 := hmid.c.cell 7; have d8 := hmid.c.cell 8; have g6 := hmid.c.frozen 6; have g7 := hmid.c.frozen 7; have g8 := hmid.c.frozen 8; clear hmid c6 c7 c8))
  have HR : Hid (FlowAt (((w3.setCell ⟨w.heap.size, 6, none⟩ (.map (some w1.heap.size))).setCell ⟨w.heap.size, 7, none⟩ (.map (some (w1.heap.size + 1)))).setCell ⟨w.heap.size, 8, none⟩ (.map (some (w1.heap.size + 2)))) ⟨w.heap.size, w1.heap.size, w1.heap.size + 1, w1.heap.size + 2⟩ n ⟨od, sd, rv, ak, st, wt, gt⟩ ∧ Below w.heap.size w (((w3.setCell ⟨w.heap.size, 6, none⟩ (.map (some w1.heap.size))).setCell ⟨w.heap.size, 7, none⟩ (.map (some (w1.heap.size + 1)))).setCell ⟨w.heap.size, 8, none⟩ (.map (some (w1.heap.size + 2))))) := Lib.hid (by
    have hz := HS1.out
    have ho : Only [w.heap.size] w3 (((w3.setCell ⟨w.heap.size, 6, none⟩ (.map (some w1.heap.size))).setCell ⟨w.heap.size, 7, none⟩ (.map (some (w1.heap.size + 1)))).setCell ⟨w.heap.size, 8, none⟩ (.map (some (w1.heap.size + 2)))) := (((Only.refl [w.heap.size] w3).set_ (by simp) _).set_ (by simp) _).set_ (by simp) _
    refine ⟨⟨?_, HMd.out.m1.of_block (ho.block _ HMd.out.m1.lt (by simp; omega)), HMd.out.m2.of_block (ho.block _ HMd.out.m2.lt (by simp; omega)), HMd.out.m3.of_block (ho.block _ HMd.out.m3.lt (by simp; omega)), by show w.heap.size ≠ w1.heap.size; omega, by show w.heap.size ≠ w1.heap.size + 1; omega, by show w.heap.size ≠ w1.heap.size + 2; omega, by show w1.heap.size ≠ w1.heap.size + 1; omega, by show w1.heap.size ≠ w1.heap.size + 2; omega, by show w1.heap.size + 1 ≠ w1.heap.size + 2; omega, HF.out.send, HF.out.recv, HF.out.ack⟩, HMd.out.bel.trans (ho.below (by simp) HMd.out.bel.size)⟩
    have := ((HMd.out.c.set_ 6 (.map (some w1.heap.size))).set_ 7 (.map (some (w1.heap.size + 1)))).set_ 8 (.map (some (w1.heap.size + 2)))
    rw [← hf0, ← hf1] at this
    exact this)
  rw [HS1.out] at HR
  clear hS3 d6 d7 d8 g6 g7 g8 HMd
  go_wp2_with fail
  rw [HS1.out]
  go_ret
  exact ⟨rfl, HR.out⟩
theorem fcopy_is (w : World) (B : FB) (n : Nat) (s : Fl) (F : FlowAt w B n s) :
    Calls Tryd.prog 36 #[.pointer (some ⟨B.f, 0, none⟩)] w fun e w' => e = .returned (.pointer (some ⟨w.heap.size, 0, none⟩)) ∧ FlowAt w' ⟨w.heap.size, w.heap.size + 1, w.heap.size + 2, w.heap.size + 3⟩ n s ∧ Below w.heap.size w w' := by
  obtain ⟨f, ms, mw, mg⟩ := B
  obtain ⟨od, sd, rv, ak, st, wt, gt⟩ := s
  exact flcopy_is w f ms mw mg n od sd rv ak st wt gt F
end Go.Proofs.YtpekbnkmnellpaaDoor
