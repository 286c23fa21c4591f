/-
  The walks of the store's Commit and Discard (printed by gen_stog.py).
-/
import Derived.Test.YtichklplcpkjdaaDoorStoF
namespace Go.Proofs.YtichklplcpkjdaaDoor
open Go.RowKit
set_option linter.unusedVariables false

section
variable {Z : Nat → Prop} {w W W' : World} {s t b g cap n : Nat} {f : PM} {xs : List (Nat × Nat)} {l : List PM}
/-- Commit: one more past trie -/
theorem Core.push (h : StAt w Z s t n f l) (hc : Core w Z s t b g cap n f xs l) {t' b' g' cap' : Nat} (hb : Below w.heap.size w W) (h1 : TAt W t' b' n f) (ht' : w.heap.size ≤ t') (hb' : w.heap.size ≤ b')
    (hr : W'.ownsRow 0 40 1 (.slice (some ⟨g', 0, none⟩) (l.length + 1) cap') (l.length + 1) ((xs.map fun x => ptr x.1) ++ [ptr t'])) (hg : W.grownBy W' (some g)) (hg' : g = g' ∨ w.heap.size ≤ g') :
    Blk W' s 45 #[ptr t, .slice (some ⟨g, 0, none⟩) l.length cap] ∧ StAt (W'.setCell ⟨s, 1, none⟩ (.slice (some ⟨g', 0, none⟩) (l.length + 1) cap')) Z s t n f (l ++ [f]) ∧ Kp Z w (W'.setCell ⟨s, 1, none⟩ (.slice (some ⟨g', 0, none⟩) (l.length + 1) cap')) := by
  have hd := hc.below hb
  have k1 : ∀ i, i < W.heap.size → i ≠ g → W'.heap[i]? = W.heap[i]? := fun i hi hn => hg.block i hi (by simpa using hn)
  have hB : Blk W' s 45 #[ptr t, .slice (some ⟨g, 0, none⟩) l.length cap] := (k1 s hd.s_lt hc.s_g).trans hd.blk
  have k2 : ∀ i, i ≠ s → (W'.setCell ⟨s, 1, none⟩ (.slice (some ⟨g', 0, none⟩) (l.length + 1) cap')).heap[i]? = W'.heap[i]? := fun i hn => by simp [World.setCell, Array.getElem?_modify, Ne.symm hn]
  have hsz : (W'.setCell ⟨s, 1, none⟩ (.slice (some ⟨g', 0, none⟩) (l.length + 1) cap')).heap.size = W'.heap.size := by simp
  have k3 : ∀ i, i < W.heap.size → i ≠ g → i ≠ s → (W'.setCell ⟨s, 1, none⟩ (.slice (some ⟨g', 0, none⟩) (l.length + 1) cap')).heap[i]? = W.heap[i]? := fun i hi h1 h2 => (k2 i h2).trans (k1 i hi h1)
  have hk : Kp Z w (W'.setCell ⟨s, 1, none⟩ (.slice (some ⟨g', 0, none⟩) (l.length + 1) cap')) :=
    ⟨hg.os.trans hb.os, hg.tape.trans hb.tape, hg.output.trans hb.output, by rw [hsz]; exact Nat.le_trans hb.size hg.size, fun i hi => (k3 i (Nat.lt_of_lt_of_le (h.zlt i hi) hb.size) (fun e => hc.g_ (e ▸ hi)) (fun e => hc.s_ (e ▸ hi))).trans (hb.block i (h.zlt i hi))⟩
  have hkT : ∀ (x y : Nat) (f : PM), TAt W x y n f → TAt (W'.setCell ⟨s, 1, none⟩ (.slice (some ⟨g', 0, none⟩) (l.length + 1) cap')) x y n f := fun x y f hT => by
    obtain ⟨⟨cur, hcur⟩, _⟩ := row_blk hd.row
    exact hT.of_blocks (k3 _ hT.t_lt (ne_types hT.blk hcur (by decide)) (ne_types hT.blk hd.blk (by decide))) (k3 _ hT.m.lt (Ne.symm (hT.m.not_cells hcur)) (Ne.symm (hT.m.not_cells hd.blk)))
  have hgs : g' ≠ s := by
    rcases hg' with e | e
    · exact e ▸ Ne.symm hc.s_g
    · have := hc.s_lt; omega
  have hnz : ∀ i, w.heap.size ≤ i → ¬ Z i := fun i hi hz => by have := h.zlt i hz; omega
  refine ⟨hB, ⟨h.glob.kp hk h.zg, h.forms.kp hk h.zg, fun i hi => Nat.lt_of_lt_of_le (h.zlt i hi) hk.size, h.zg, b, g', cap', xs ++ [(t', b')], ?_, hkT _ _ _ hd.now, ?_, ⟨by simp [hc.past.1], fun i x f0 h2 h3 => ?_⟩, by simp, hc.s_, hc.b_, ?_⟩, hk⟩
  · have := hB.set_ 1 (.slice (some ⟨g', 0, none⟩) (l.length + 1) cap')
    rw [List.length_append]
    exact this
  · have := hr.kept (w' := W'.setCell ⟨s, 1, none⟩ (.slice (some ⟨g', 0, none⟩) (l.length + 1) cap')) (row := some s) ⟨rfl, rfl, rfl, by rw [hsz]; exact Nat.le_refl _, fun i hi hn => k2 i (fun e => hn (by rw [e]))⟩ (.inr (by simpa [Value.ownBlock] using hgs))
    rw [List.length_append, List.map_append]
    exact this
  · rcases Nat.lt_or_ge i xs.length with hi | hi
    · rw [List.getElem?_append_left hi] at h2
      rw [List.getElem?_append_left (by rw [← hc.past.1]; exact hi)] at h3
      obtain ⟨h4, h5⟩ := hd.past.2 i x f0 h2 h3
      exact ⟨hkT _ _ _ h4, h5⟩
    · rw [List.getElem?_append_right hi] at h2
      rw [List.getElem?_append_right (by rw [← hc.past.1]; exact hi), ← hc.past.1] at h3
      match hj : i - xs.length, h2, h3 with
      | 0, h2, h3 =>
        cases h2
        cases h3
        exact ⟨hkT _ _ _ h1, by have := hc.b_lt; simp only; omega⟩
      | j + 1, h2, h3 => simp at h2
  · rcases hg' with e | e
    · exact e ▸ hc.g_
    · exact hnz _ e
end
theorem ld_past {s : Nat} {v : Value} {p : Value} {W : World} (h : Blk W s 45 #[p, v]) : (Instr.loadAt 43 (.pointer (some ⟨s, 1, none⟩))).run Tryd.prog W = .ok v W := by
  have c := h.cell 1
  go_simp
theorem ld_now {s t : Nat} {v : Value} {W : World} (h : Blk W s 45 #[ptr t, v]) : (Instr.loadAt 40 (.pointer (some ⟨s, 0, none⟩))).run Tryd.prog W = .ok (ptr t) W := by
  have c := h.cell 0
  simp only [ptr] at c ⊢
  go_simp
theorem st_past {s m c : Nat} {a : Option Addr} {v p : Value} {W : World} (h : Blk W s 45 #[p, v]) : (Instr.storeAt 43 (.pointer (some ⟨s, 1, none⟩)) (.slice a m c)).run Tryd.prog W = .ok () (W.setCell ⟨s, 1, none⟩ (.slice a m c)) := by
  have c := h.cell 1
  have fr := h.frozen 1
  go_simp
theorem st_now {s t : Nat} {v p : Value} {W : World} (h : Blk W s 45 #[p, v]) : (Instr.storeAt 40 (.pointer (some ⟨s, 0, none⟩)) (ptr t)).run Tryd.prog W = .ok () (W.setCell ⟨s, 0, none⟩ (ptr t)) := by
  have c := h.cell 0
  have fr := h.frozen 0
  simp only [ptr]
  go_simp
theorem bsl_ptr (t' : Nat) (W : World) : (Instr.buildSlice 43 1 #[(0, ptr t')]).run Tryd.prog W = .ok (.slice (some ⟨W.heap.size, 0, none⟩) 1 1) (W.alloc (.cells #[ptr t'] 40)) := by
  simp only [ptr]
  go_simp
theorem info_ptr : ∃ i, Tryd.prog.info? 40 = some i ∧ i.zero = some (.pointer none) ∧ i.size = 1 ∧ i.bytes = 8 := info_parts' (by kernel_rfl)
def cmV (s t g k cap : Nat) (i : Nat) (v : Value) : Prop := match i with
  | 0 => v = .pointer (some ⟨s, 0, none⟩)
  | 1 => v = .pointer (some ⟨s, 0, none⟩)
  | 2 => v = .pointer (some ⟨s, 0, none⟩)
  | 3 => v = .pointer (some ⟨s, 1, none⟩)
  | 4 => v = .slice (some ⟨g, 0, none⟩) k cap
  | 5 => v = .pointer (some ⟨s, 0, none⟩)
  | 6 => v = .pointer (some ⟨s, 0, none⟩)
  | 7 => v = .pointer (some ⟨s, 0, none⟩)
  | 8 => v = .pointer (some ⟨s, 0, none⟩)
  | 9 => v = ptr t
  | 13 => v = .pointer (some ⟨s, 0, none⟩)
  | 14 => v = .pointer (some ⟨s, 1, none⟩)
  | _ => True
/-- Commit's stages: ahead, the copy, the one-row, appended, laid -/
def cmS (w : World) (Z : Nat → Prop) (s t g k cap n : Nat) (f : PM) (l : List PM) (m : Nat) (vs : List Value) (W : World) : Prop := match m with
  | 0 => Below w.drew.heap.size w.drew W
  | 1 => ∃ t' b', vs[0]? = some (ptr t') ∧ TAt W t' b' n f ∧ w.heap.size ≤ t' ∧ w.heap.size ≤ b' ∧ Below w.drew.heap.size w.drew W
  | 2 => ∃ t' b' c, vs[1]? = some (.slice (some ⟨c, 0, none⟩) 1 1) ∧ Blk W c 40 #[ptr t'] ∧ TAt W t' b' n f ∧ w.heap.size ≤ t' ∧ w.heap.size ≤ b' ∧ Below w.drew.heap.size w.drew W
  | 3 => ∃ a q c, vs[2]? = some (.slice a q c) ∧ Blk W s 45 #[ptr t, .slice (some ⟨g, 0, none⟩) k cap] ∧ StAt (W.setCell ⟨s, 1, none⟩ (.slice a q c)) Z s t n f (l ++ [f]) ∧ Kp Z w (W.setCell ⟨s, 1, none⟩ (.slice a q c))
  | 4 => StAt W Z s t n f (l ++ [f]) ∧ Kp Z w W
  | _ => False
theorem cmS_le {w : World} {Z : Nat → Prop} {s t g k cap n : Nat} {f : PM} {l : List PM} (m : Nat) (vs : List Value) (W : World) (h : cmS w Z s t g k cap n f l m vs W) : m ≤ 4 := by
  rcases m with _ | _ | _ | _ | _ | m
  · omega
  · omega
  · omega
  · omega
  · omega
  · exact absurd h id
theorem cmS_lt {w : World} {Z : Nat → Prop} {s t g k cap n : Nat} {f : PM} {l : List PM} (m : Nat) (vs : List Value) (W : World) (hm : m < 3) (h : cmS w Z s t g k cap n f l m vs W) : Below w.drew.heap.size w.drew W := by
  rcases m with _ | _ | _ | m
  · exact h
  · obtain ⟨_, _, _, _, _, _, h⟩ := h; exact h
  · obtain ⟨_, _, _, _, _, _, _, _, h⟩ := h; exact h
  · omega
set_option maxRecDepth 100000 in
set_option maxHeartbeats 1000000 in
theorem commit_is (Z : Nat → Prop) (s t n : Nat) (hn : n ≤ 4194304) (f : PM) (l : List PM) (w : World) (h : StAt w Z s t n f l) (hl : l.length ≤ 900) :
    Calls Tryd.prog 10 #[.pointer (some ⟨s, 0, none⟩)] w fun e w' => e = .returned (.int .i64 (l.length : Int)) ∧ StAt w' Z s t n f (l ++ [f]) ∧ Kp Z w w' := by
  obtain ⟨b, g, cap, xs, hc⟩ := h.core
  obtain ⟨k, hk⟩ : ∃ k, l.length = k := ⟨_, rfl⟩
  obtain ⟨i0, hi, hz0, hz1, hz2⟩ := info_ptr
  have HB : Hid (Blk w.drew s 45 #[ptr t, .slice (some ⟨g, 0, none⟩) k cap]) := Lib.hid (hk ▸ hc.blk)
  have HCp : Hid (∀ W, Below w.drew.heap.size w.drew W → Calls Tryd.prog 26 #[ptr t] W fun e w' => e = .returned (ptr (W.heap.size + 1)) ∧ TAt w' (W.heap.size + 1) W.heap.size n f ∧ Below W.heap.size W w') := Lib.hid (fun W hb => tcopy_is W t b n f (hc.now.below (bstep (Below.refl _ w).drew hb)) (by unfold maxLen; omega))
  have HAp : Hid (∀ W t' b' c, Below w.drew.heap.size w.drew W → TAt W t' b' n f → w.heap.size ≤ t' → w.heap.size ≤ b' → Blk W c 40 #[ptr t'] → ∃ g' cap' w5, (Builtin.append_ #[43, 43] 43 #[.slice (some ⟨g, 0, none⟩) k cap, .slice (some ⟨c, 0, none⟩) 1 1]).run Tryd.prog W = .ok (.slice (some ⟨g', 0, none⟩) (k + 1) cap') w5 ∧ Blk w5 s 45 #[ptr t, .slice (some ⟨g, 0, none⟩) k cap] ∧ StAt (w5.setCell ⟨s, 1, none⟩ (.slice (some ⟨g', 0, none⟩) (k + 1) cap')) Z s t n f (l ++ [f]) ∧ Kp Z w (w5.setCell ⟨s, 1, none⟩ (.slice (some ⟨g', 0, none⟩) (k + 1) cap'))) := Lib.hid (fun W t' b' c hb hT ht' hb' hB' => by
    have hbw := bstep (Below.refl _ w).drew hb
    have hd := hc.below hbw
    obtain ⟨g', cap', w5, hrun, h2, h3, h4, h5⟩ := run_append_lies (P := Tryd.prog) W 43 43 0 40 i0 (.pointer none) 1 8 Tryd.underlying43 hi hz0 hz1 hz2 rfl (by decide) _ l.length _ hd.row ⟨c, 0, none⟩ 1 1 [ptr t'] rfl (fun j u hu => by
      rw [addr0, Nat.zero_add, hB'.cell]
      simpa using hu) (by simp [ptr, Value.oneCell']) (by decide) (by unfold maxLen; omega) (by omega) (Nat.zero_le _) W.heap.size rfl
    obtain ⟨q1, q2, q3⟩ := Core.push h hc hbw hT ht' hb' h2 h3 (by
      rcases h4 with e | e
      · left; simpa [Value.ownBlock] using e
      · right; rw [e]; exact hbw.size)
    subst hk
    exact ⟨g', cap', w5, hrun, q1, q2, q3⟩)
  have HH := Lib.hid (fun W hS => height_is Z s t n f (l ++ [f]) W hS (by simp; omega))
  have HLn : Hid (((l ++ [f]).length : Int) - 1 = (l.length : Int)) := Lib.hid (by simp)
  clear h hc hi hz0 hz1 hz2
  go_enter Tryd.func10, Tryd.ntmps10
  go_upto_region 1 with fail
  refine wp_abs fun a0 hA => ?_
  have h0 : a0.eval (.tmp 0) = .pointer (some ⟨s, 0, none⟩) := by rw [hA]; rfl
  have hz : a0.tmps.size = 20 := by rw [hA]; rfl
  refine wp_region_K [some 3, some 4, some 5, some 6, some 7, some 8, some 9, some 10, some 11, some 12, some 13, some 14, some 15, some 16, some 17, none] 20 (CJ (cmV s t g k cap) (fun _ _ => True) [10, 11, 12, 15] (cmS w Z s t g k cap n f l)) (by kernel_rfl) (by kernel_rfl) (by kernel_rfl) rfl (by kernel_rfl) hz (CJ.start (fun i => trivial) (Below.refl _ _)) ?_ ⟨?_, ?_, ?_, ?_, ?_, ?_, ?_, ?_, ?_, ?_, ?_, ?_, ?_, ?_, ?_, ?_, trivial⟩
  · intro d u W hd hJ
    obtain ⟨hS4, hK4⟩ : cmS w Z s t g k cap n f l 4 _ W := hJ.fin 4 rfl (fun k hk => by simp at hk; rcases hk with rfl | rfl | rfl | rfl <;> exact hd _ (by decide)) cmS_le
    have HS4 := Lib.hid hS4
    have HK4 := Lib.hid hK4
    clear hS4 hK4
    rw [hA]
    simp only [putAll, Act.put, List.setIfInBounds_toArray, List.set_cons_zero, List.set_cons_succ]
    clear hJ hd h0 hz hA
    clear a0
    clear HAp HCp HB
    go_wp2_with fail
    refine (HH.out W HS4.out).mono ?_
    rintro e w2 ⟨rfl, rfl⟩
    go_wp2_with fail
    go_ret
    exact ⟨by rw [hk]; rfl, HS4.out, HK4.out⟩
  · exact KStep.plain rfl fun ρ d u W he hc hdi hd hJ => swp_val (run_move (he.o h0 rfl)) (hJ.pure 0 rfl rfl)
  · exact KStep.plain rfl fun ρ d u W he hc hdi hd hJ => swp_val (run_move (he.o h0 rfl)) (hJ.pure 1 rfl rfl)
  · exact KStep.plain rfl fun ρ d u W he hc hdi hd hJ => swp_val (run_nilCheck (he.i hz (hJ.vals 1 (hd 1 (by kernel_rfl))) (j := 1) (d := 4) rfl (by decide))) (hJ.pure 2 rfl rfl)
  · exact KStep.plain rfl fun ρ d u W he hc hdi hd hJ => swp_val (run_fieldAddr (he.i hz (hJ.vals 2 (hd 2 (by kernel_rfl))) (j := 2) (d := 5) rfl (by decide)) (by go_simp)) (hJ.pure 3 rfl rfl)
  · exact KStep.plain rfl fun ρ d u W he hc hdi hd hJ => swp_val (run_load (he.i hz (hJ.vals 3 (hd 3 (by kernel_rfl))) (j := 3) (d := 6) rfl (by decide)) (ld_past (HB.out.below (hJ.olds2T 2 rfl (hc.notyet [4] (by kernel_rfl) rfl hdi) cmS_lt)))) (hJ.pure 4 rfl rfl)
  · exact KStep.plain rfl fun ρ d u W he hc hdi hd hJ => swp_val (run_move (he.o h0 rfl)) (hJ.pure 5 rfl rfl)
  · exact KStep.plain rfl fun ρ d u W he hc hdi hd hJ => swp_val (run_nilCheck (he.i hz (hJ.vals 5 (hd 5 (by kernel_rfl))) (j := 5) (d := 8) rfl (by decide))) (hJ.pure 6 rfl rfl)
  · exact KStep.plain rfl fun ρ d u W he hc hdi hd hJ => swp_val (run_fieldAddr (he.i hz (hJ.vals 6 (hd 6 (by kernel_rfl))) (j := 6) (d := 9) rfl (by decide)) (by go_simp)) (hJ.pure 7 rfl rfl)
  · exact KStep.plain rfl fun ρ d u W he hc hdi hd hJ => swp_val (run_fieldAddr (he.i hz (hJ.vals 7 (hd 7 (by kernel_rfl))) (j := 7) (d := 10) rfl (by decide)) (by go_simp)) (hJ.pure 8 rfl rfl)
  · exact KStep.plain rfl fun ρ d u W he hc hdi hd hJ => swp_val (run_load (he.i hz (hJ.vals 8 (hd 8 (by kernel_rfl))) (j := 8) (d := 11) rfl (by decide)) (ld_now (HB.out.below (hJ.olds2T 2 rfl (hc.notyet [11, 10, 9] (by kernel_rfl) rfl hdi) cmS_lt)))) (hJ.pure 9 rfl rfl)
  · refine KStep.plain rfl fun ρ d u W he hc hdi hd hJ => ?_
    have hS : Below w.drew.heap.size w.drew W := hJ.at_ 0 rfl hdi (fun j h => by omega)
    exact swp_call (run_call #[ptr t] (he.func _) (by kernel_rfl) (map1 (he.i hz (hJ.vals 9 (hd 9 (by kernel_rfl))) (j := 9) (d := 12) rfl (by decide)))) (HCp.out W hS) (fun e W' h => ⟨_, h.1, hJ.go 0 rfl hdi (by decide) (fun j h => by omega) trivial ⟨_, _, rfl, h.2.1, Nat.le_trans hS.size (Nat.le_succ _), hS.size, bstep hS h.2.2⟩⟩)
  · refine KStep.plain rfl fun ρ d u W he hc hdi hd hJ => ?_
    obtain ⟨t', b', hu, hT, ht', hb', hS⟩ : cmS w Z s t g k cap n f l 1 _ W := hJ.at_ 1 rfl hdi (fun j h => by cases h; exact ⟨10, rfl, hd 10 (by kernel_rfl)⟩)
    have hu' : u 10 = ptr t' := Option.some.inj hu
    exact swp_val (run_bslice #[(0, ptr t')] (pairs1 (he.i hz hu' (j := 10) (d := 13) rfl (by decide))) (bsl_ptr t' W)) (hJ.go 1 rfl hdi (by decide) (fun j h => by cases h; exact ⟨10, rfl, hd 10 (by kernel_rfl)⟩) trivial ⟨_, _, _, rfl, Blk.new W _ _, hT.below (balloc (Below.refl _ W) _), ht', hb', balloc hS _⟩)
  · refine KStep.plain rfl fun ρ d u W he hc hdi hd hJ => ?_
    obtain ⟨t', b', c, hu, hB', hT, ht', hb', hS⟩ : cmS w Z s t g k cap n f l 2 _ W := hJ.at_ 2 rfl hdi (fun j h => by cases h; exact ⟨11, rfl, hd 11 (by kernel_rfl)⟩)
    have hu' : u 11 = .slice (some ⟨c, 0, none⟩) 1 1 := Option.some.inj hu
    obtain ⟨g', cap', w5, hrun, h1, h2, h3⟩ := HAp.out W t' b' c hS hT ht' hb' hB'
    exact swp_val (run_app (he.i hz (hJ.vals 4 (hd 4 (by kernel_rfl))) (j := 4) (d := 7) rfl (by decide)) (he.i hz hu' (j := 11) (d := 14) rfl (by decide)) hrun) (hJ.go 2 rfl hdi (by decide) (fun j h => by cases h; exact ⟨11, rfl, hd 11 (by kernel_rfl)⟩) trivial ⟨_, _, _, rfl, h1, h2, h3⟩)
  · exact KStep.plain rfl fun ρ d u W he hc hdi hd hJ => swp_val (run_nilCheck (he.i hz (hJ.vals 0 (hd 0 (by kernel_rfl))) (j := 0) (d := 3) rfl (by decide))) (hJ.pure 13 rfl rfl)
  · exact KStep.plain rfl fun ρ d u W he hc hdi hd hJ => swp_val (run_fieldAddr (he.i hz (hJ.vals 13 (hd 13 (by kernel_rfl))) (j := 13) (d := 16) rfl (by decide)) (by go_simp)) (hJ.pure 14 rfl rfl)
  · refine KStep.plain rfl fun ρ d u W he hc hdi hd hJ => ?_
    obtain ⟨a, q, c, hu, hB', hS', hK'⟩ : cmS w Z s t g k cap n f l 3 _ W := hJ.at_ 3 rfl hdi (fun j h => by cases h; exact ⟨12, rfl, hd 12 (by kernel_rfl)⟩)
    have hu' : u 12 = .slice a q c := Option.some.inj hu
    exact swp_skip (run_store (he.i hz (hJ.vals 14 (hd 14 (by kernel_rfl))) (j := 14) (d := 17) rfl (by decide)) (he.i hz hu' (j := 12) (d := 15) rfl (by decide)) (st_past hB')) (hJ.go 3 rfl hdi (by decide) (fun j h => by cases h; exact ⟨12, rfl, hd 12 (by kernel_rfl)⟩) trivial ⟨hS', hK'⟩)
def dsV (s x g j k cap : Nat) (i : Nat) (v : Value) : Prop := match i with
  | 0 => v = .pointer (some ⟨s, 0, none⟩)
  | 1 => v = .pointer (some ⟨s, 0, none⟩)
  | 2 => v = .pointer (some ⟨s, 0, none⟩)
  | 3 => v = .pointer (some ⟨s, 1, none⟩)
  | 4 => v = .slice (some ⟨g, 0, none⟩) k cap
  | 5 => v = .pointer (some ⟨s, 0, none⟩)
  | 6 => v = .int .i64 (j : Int)
  | 7 => v = .pointer (some ⟨g, j, none⟩)
  | 8 => v = ptr x
  | 10 => v = .pointer (some ⟨s, 0, none⟩)
  | 11 => v = .pointer (some ⟨s, 0, none⟩)
  | 12 => v = .pointer (some ⟨s, 0, none⟩)
  | _ => True
def dsS (w : World) (Z : Nat → Prop) (s t g k cap n : Nat) (f' : PM) (l : List PM) (m : Nat) (vs : List Value) (W : World) : Prop := match m with
  | 0 => W = w.drew
  | 1 => W = w.drew
  | 2 => ∃ t', vs[1]? = some (ptr t') ∧ Blk W s 45 #[ptr t, .slice (some ⟨g, 0, none⟩) k cap] ∧ StAt (W.setCell ⟨s, 0, none⟩ (ptr t')) Z s t' n f' l ∧ Kp Z w (W.setCell ⟨s, 0, none⟩ (ptr t')) ∧ Below w.drew.heap.size w.drew W
  | 3 => ∃ t', StAt W Z s t' n f' l ∧ Kp Z w W
  | _ => False
theorem dsS_le {w : World} {Z : Nat → Prop} {s t g k cap n : Nat} {f' : PM} {l : List PM} (m : Nat) (vs : List Value) (W : World) (h : dsS w Z s t g k cap n f' l m vs W) : m ≤ 3 := by
  rcases m with _ | _ | _ | _ | m
  · omega
  · omega
  · omega
  · omega
  · exact absurd h id
theorem dsS_lt {w : World} {Z : Nat → Prop} {s t g k cap n : Nat} {f' : PM} {l : List PM} (m : Nat) (vs : List Value) (W : World) (hm : m < 3) (h : dsS w Z s t g k cap n f' l m vs W) : Below w.drew.heap.size w.drew W := by
  rcases m with _ | _ | _ | m
  · exact h ▸ Below.refl _ _
  · exact h ▸ Below.refl _ _
  · obtain ⟨_, _, _, _, _, h⟩ := h; exact h
  · omega
theorem ix_past {g j k cap : Nat} (hj : j < k) (W : World) : (Instr.indexAt 43 (.slice (some ⟨g, 0, none⟩) k cap) (.int .i64 (j : Int))).run Tryd.prog W = .ok (.pointer (some ⟨g, j, none⟩)) W := by go_simp
theorem ld_old {g j x : Nat} {W : World} (h : W.cell? ⟨g, j, none⟩ = some (ptr x)) : (Instr.loadAt 40 (.pointer (some ⟨g, j, none⟩))).run Tryd.prog W = .ok (ptr x) W := by
  simp only [ptr] at h ⊢
  go_simp
set_option maxRecDepth 100000 in
set_option maxHeartbeats 1000000 in
theorem discard_is (Z : Nat → Prop) (s t n : Nat) (hn : n ≤ 4194304) (f f' : PM) (l : List PM) (w : World) (h : StAt w Z s t n f l) (hl : l.length ≤ 1000) (hf : l.getLast? = some f') :
    Calls Tryd.prog 17 #[.pointer (some ⟨s, 0, none⟩)] w fun e w' => e = .returned (.tuple #[]) ∧ ∃ t', StAt w' Z s t' n f' l ∧ Kp Z w w' := by
  obtain ⟨j, hj, hlj, hfj⟩ : ∃ j, ∃ hj : j < l.length, l.length = j + 1 ∧ l[j] = f' := by
    have hne : l ≠ [] := fun e => by rw [e] at hf; cases hf
    have hpos := List.length_pos_iff.2 hne
    refine ⟨l.length - 1, by omega, by omega, ?_⟩
    rw [List.getLast?_eq_some_getLast hne] at hf
    rw [← Option.some.inj hf, List.getLast_eq_getElem]
  obtain ⟨g, cap, x, y, hb, hp, hT⟩ := h.old hj
  rw [hfj] at hT
  have hsw := fun (W : World) (h1 : TAt W (w.drew.heap.size + 1) w.drew.heap.size n f') (h2 : Below w.drew.heap.size w.drew W) => h.swap (bstep (Below.refl _ w).drew h2) h1 (Nat.le_refl _) (Nat.le_succ _)
  have HH : Hid (Calls Tryd.prog 15 #[.pointer (some ⟨s, 0, none⟩)] w.drew fun e w' => e = .returned (.int .i64 (j : Int)) ∧ w.drew = w') := Lib.hid (by
    have := height_is Z s t n f l w.drew (h.below (Below.refl _ w).drew) hl
    rw [hlj] at this
    rw [show (((j + 1 : Nat) : Int) - 1) = (j : Int) by omega] at this
    exact this)
  obtain ⟨k, hk⟩ : ∃ k, l.length = k := ⟨_, rfl⟩
  rw [hk] at hb hj
  have HB : Hid (Blk w.drew s 45 #[ptr t, .slice (some ⟨g, 0, none⟩) k cap]) := Lib.hid hb
  have HJk := Lib.hid hj
  have HP : Hid (w.drew.cell? ⟨g, j, none⟩ = some (ptr x)) := Lib.hid hp
  have HGl : Hid (g < w.drew.heap.size) := Lib.hid (World.block_lt_of_cell? w _ hp)
  have HCp : Hid (Calls Tryd.prog 26 #[ptr x] w.drew fun e w' => e = .returned (ptr (w.drew.heap.size + 1)) ∧ TAt w' (w.drew.heap.size + 1) w.drew.heap.size n f' ∧ Below w.drew.heap.size w.drew w') := Lib.hid (tcopy_is w.drew x y n f' (hT.below (Below.refl _ w).drew) (by unfold maxLen; omega))
  have HSw := Lib.hid hsw
  clear h hb hp hT hf hk hlj hfj hj hsw hl
  go_enter Tryd.func17, Tryd.ntmps17
  go_upto_region 0 with fail
  refine wp_abs fun a0 hA => ?_
  have h0 : a0.eval (.tmp 0) = .pointer (some ⟨s, 0, none⟩) := by rw [hA]; rfl
  have hz : a0.tmps.size = 15 := by rw [hA]; rfl
  refine wp_region_K [some 2, some 3, some 4, some 5, some 6, some 7, some 8, some 9, some 10, some 11, some 12, some 13, some 14, none] 15 (CJ (dsV s x g j k cap) (fun _ _ => True) [6, 9, 13] (dsS w Z s t g k cap n f' l)) (by kernel_rfl) (by kernel_rfl) (by kernel_rfl) rfl (by kernel_rfl) hz (CJ.start (fun i => trivial) rfl) ?_ ⟨?_, ?_, ?_, ?_, ?_, ?_, ?_, ?_, ?_, ?_, ?_, ?_, ?_, ?_, trivial⟩
  · intro d u W hd hJ
    obtain ⟨t', hS4, hK4⟩ : dsS w Z s t g k cap n f' l 3 _ W := hJ.fin 3 rfl (fun k hk => by simp at hk; rcases hk with rfl | rfl | rfl <;> exact hd _ (by decide)) dsS_le
    have HS4 := Lib.hid hS4
    have HK4 := Lib.hid hK4
    clear hS4 hK4
    rw [hA]
    simp only [putAll, Act.put, List.setIfInBounds_toArray, List.set_cons_zero, List.set_cons_succ]
    clear hJ hd h0 hz hA
    clear a0
    clear HCp HB HH HSw HP HGl HJk
    go_wp2_with fail
    go_end0
    exact ⟨rfl, t', HS4.out, HK4.out⟩
  · exact KStep.plain rfl fun ρ d u W he hc hdi hd hJ => swp_val (run_move (he.o h0 rfl)) (hJ.pure 0 rfl rfl)
  · exact KStep.plain rfl fun ρ d u W he hc hdi hd hJ => swp_val (run_move (he.o h0 rfl)) (hJ.pure 1 rfl rfl)
  · exact KStep.plain rfl fun ρ d u W he hc hdi hd hJ => swp_val (run_nilCheck (he.i hz (hJ.vals 1 (hd 1 (by kernel_rfl))) (j := 1) (d := 3) rfl (by decide))) (hJ.pure 2 rfl rfl)
  · exact KStep.plain rfl fun ρ d u W he hc hdi hd hJ => swp_val (run_fieldAddr (he.i hz (hJ.vals 2 (hd 2 (by kernel_rfl))) (j := 2) (d := 4) rfl (by decide)) (by go_simp)) (hJ.pure 3 rfl rfl)
  · exact KStep.plain rfl fun ρ d u W he hc hdi hd hJ => swp_val (run_load (he.i hz (hJ.vals 3 (hd 3 (by kernel_rfl))) (j := 3) (d := 5) rfl (by decide)) (ld_past (HB.out.below (hJ.olds2T 2 rfl (hc.notyet [9, 8, 7, 4] (by kernel_rfl) rfl hdi) dsS_lt)))) (hJ.pure 4 rfl rfl)
  · exact KStep.plain rfl fun ρ d u W he hc hdi hd hJ => swp_val (run_move (he.o h0 rfl)) (hJ.pure 5 rfl rfl)
  · refine KStep.plain rfl fun ρ d u W he hc hdi hd hJ => ?_
    have hS : W = w.drew := hJ.at_ 0 rfl hdi (fun j h => by omega)
    subst hS
    exact swp_call (run_call #[.pointer (some ⟨s, 0, none⟩)] (he.func _) (by kernel_rfl) (map1 (he.i hz (hJ.vals 5 (hd 5 (by kernel_rfl))) (j := 5) (d := 7) rfl (by decide)))) (HH.out) (fun e W' h => ⟨_, h.1, by obtain rfl := h.2; exact hJ.go 0 rfl hdi (by decide) (fun j h => by omega) rfl rfl⟩)
  · exact KStep.plain rfl fun ρ d u W he hc hdi hd hJ => swp_val (run_indexAddr (he.i hz (hJ.vals 4 (hd 4 (by kernel_rfl))) (j := 4) (d := 6) rfl (by decide)) (he.i hz (hJ.vals 6 (hd 6 (by kernel_rfl))) (j := 6) (d := 8) rfl (by decide)) (ix_past HJk.out W)) (hJ.pure 7 rfl rfl)
  · exact KStep.plain rfl fun ρ d u W he hc hdi hd hJ => swp_val (run_load (he.i hz (hJ.vals 7 (hd 7 (by kernel_rfl))) (j := 7) (d := 9) rfl (by decide)) (ld_old (((hJ.olds2T 2 rfl (hc.notyet [9, 8] (by kernel_rfl) rfl hdi) dsS_lt)).cell (p := ⟨g, j, none⟩) HGl.out |>.trans HP.out))) (hJ.pure 8 rfl rfl)
  · refine KStep.plain rfl fun ρ d u W he hc hdi hd hJ => ?_
    have hS : W = w.drew := hJ.at_ 1 rfl hdi (fun j h => by cases h; exact ⟨6, rfl, hc.path 8 [7, 6] (by kernel_rfl) (hd 8 (by kernel_rfl)) 6 rfl⟩)
    subst hS
    exact swp_call (run_call #[ptr x] (he.func _) (by kernel_rfl) (map1 (he.i hz (hJ.vals 8 (hd 8 (by kernel_rfl))) (j := 8) (d := 10) rfl (by decide)))) HCp.out (fun e W' h => ⟨_, h.1, hJ.go 1 rfl hdi (by decide) (fun j h => by cases h; exact ⟨6, rfl, hc.path 8 [7, 6] (by kernel_rfl) (hd 8 (by kernel_rfl)) 6 rfl⟩) trivial ⟨_, rfl, HB.out.below h.2.2, (HSw.out W' h.2.1 h.2.2).1, (HSw.out W' h.2.1 h.2.2).2, h.2.2⟩⟩)
  · exact KStep.plain rfl fun ρ d u W he hc hdi hd hJ => swp_val (run_nilCheck (he.i hz (hJ.vals 0 (hd 0 (by kernel_rfl))) (j := 0) (d := 2) rfl (by decide))) (hJ.pure 10 rfl rfl)
  · exact KStep.plain rfl fun ρ d u W he hc hdi hd hJ => swp_val (run_fieldAddr (he.i hz (hJ.vals 10 (hd 10 (by kernel_rfl))) (j := 10) (d := 12) rfl (by decide)) (by go_simp)) (hJ.pure 11 rfl rfl)
  · exact KStep.plain rfl fun ρ d u W he hc hdi hd hJ => swp_val (run_fieldAddr (he.i hz (hJ.vals 11 (hd 11 (by kernel_rfl))) (j := 11) (d := 13) rfl (by decide)) (by go_simp)) (hJ.pure 12 rfl rfl)
  · refine KStep.plain rfl fun ρ d u W he hc hdi hd hJ => ?_
    obtain ⟨t', hu, hB', hS', hK', _⟩ : dsS w Z s t g k cap n f' l 2 _ W := hJ.at_ 2 rfl hdi (fun j h => by cases h; exact ⟨9, rfl, hd 9 (by kernel_rfl)⟩)
    have hu' : u 9 = ptr t' := Option.some.inj hu
    exact swp_skip (run_store (he.i hz (hJ.vals 12 (hd 12 (by kernel_rfl))) (j := 12) (d := 14) rfl (by decide)) (he.i hz hu' (j := 9) (d := 11) rfl (by decide)) (st_now hB')) (hJ.go 2 rfl hdi (by decide) (fun j h => by cases h; exact ⟨9, rfl, hd 9 (by kernel_rfl)⟩) trivial ⟨t', hS', hK'⟩)
end Go.Proofs.YtichklplcpkjdaaDoor
