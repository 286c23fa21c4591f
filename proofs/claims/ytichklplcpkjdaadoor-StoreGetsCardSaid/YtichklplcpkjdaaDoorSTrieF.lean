/-
  The walk of the trie's hash (printed by gen_strief.py).
-/
import Derived.Test.YtichklplcpkjdaaDoorSTrieE
namespace Go.Proofs.YtichklplcpkjdaaDoor
open Go.RowKit Go.Maps
set_option linter.unusedVariables false

/-- a slice of places -/
def RowV (W : World) (p : Option Addr) (l : List Pl) : Prop := l = [] ∨ ∃ g o, p = some ⟨g, o, none⟩ ∧ RowAt W g o l
theorem RowV.below {W W' : World} {p : Option Addr} {l : List Pl} (h : RowV W p l) (hb : Below W.heap.size W W') : RowV W' p l := by
  rcases h with h | ⟨g, o, e, h⟩
  · exact .inl h
  · exact .inr ⟨g, o, e, h.below hb⟩
theorem hash_none (t : Nat) (p : Option Addr) (cap : Nat) (d : Int) (w : World) (G : Glob w) :
    Calls Tryd.prog 39 #[.pointer (some ⟨t, 0, none⟩), .slice p 0 cap, .int .i64 d] w fun e w' => e = .returned (.string nothingB) ∧ Below w.heap.size w w' := by
  have HG := Lib.hid G
  clear G
  go_enter Tryd.func39, Tryd.ntmps39
  go_wp2_with fail
  refine (tnothing_is w HG.out).mono ?_
  rintro e w1 ⟨rfl, hb1⟩
  have HL1 := Lib.hid hb1
  clear hb1
  go_wp2_with fail
  go_ret
  exact ⟨rfl, HL1.out⟩
theorem addr0 (g o j : Nat) : (⟨g, o, none⟩ : Addr).add j = ⟨g, o + j, none⟩ := by unfold Addr.add; split <;> simp_all
section
variable {g o cap : Nat} {x : Pl} {W : World}
theorem one_cells (h : RowAt W g o [x]) (j : Nat) (u : Value) (hu : (bC x.1)[j]? = some u) : W.cell? ((⟨g, o, none⟩ : Addr).add j) = some u := by
  rw [addr0]
  have := h.2 0 (by simp) j u (by simpa using hu)
  simpa using this
theorem one_conv (h : RowAt W g o [x]) : (convert 68 9 (.slice (some ⟨g, o, none⟩) 32 32)).run Tryd.prog W = .ok (.string ⟨x.1.toArray⟩) W := by
  have hb := run_convert_bytes_back (P := Tryd.prog) W 68 9 5 ⟨g, o, none⟩ 32 x.1 Tryd.underlying68 Tryd.underlying5 Tryd.underlying9 fun j hj => by
    refine one_cells h j _ ?_
    rw [bC, List.getElem?_map, List.getElem?_eq_getElem hj]
    rfl
  rw [x.2] at hb
  exact hb
theorem one_idx : (Instr.indexAt 76 (.slice (some ⟨g, o, none⟩) 1 cap) (.int .i64 0)).run Tryd.prog W = .ok (.pointer (some ⟨g, o, none⟩)) W := by go_simp
theorem one_slc : (Instr.sliceAt 74 (.pointer (some ⟨g, o, none⟩)) none none none).run Tryd.prog W = .ok (.slice (some ⟨g, o, none⟩) 32 32) W := by go_simp
end
def hshV (t b g o cap : Nat) (x : Pl) (f : PM) (i : Nat) (v : Value) : Prop := match i with
  | 0 => v = .slice (some ⟨g, o, none⟩) 1 cap
  | 1 => v = .pointer (some ⟨g, o, none⟩)
  | 2 => v = .slice (some ⟨g, o, none⟩) 32 32
  | 3 => v = .string ⟨x.1.toArray⟩
  | 4 => v = .pointer (some ⟨t, 0, none⟩)
  | 5 => v = .pointer (some ⟨t, 0, none⟩)
  | 6 => v = .pointer (some ⟨t, 0, none⟩)
  | 7 => v = .map (some b)
  | 8 => v = .slice (some ⟨g, o, none⟩) 1 cap
  | 9 => v = .pointer (some ⟨g, o, none⟩)
  | 10 => v = pv x.1
  | 11 => v = .string ((f x.1).getD ByteArray.empty)
  | 12 => v = .string (leafB ⟨x.1.toArray⟩ ((f x.1).getD ByteArray.empty))
  | 13 => v = .string (leafB ⟨x.1.toArray⟩ ((f x.1).getD ByteArray.empty))
  | _ => True
set_option maxRecDepth 100000 in
set_option maxHeartbeats 1000000 in
theorem hash_one (t b n : Nat) (f : PM) (x : Pl) (g o cap : Nat) (hcap : 1 ≤ cap) (d : Int) (w : World) (h : TAt w t b n f) (G : Glob w) (hr : RowAt w g o [x]) :
    Calls Tryd.prog 39 #[.pointer (some ⟨t, 0, none⟩), .slice (some ⟨g, o, none⟩) 1 cap, .int .i64 d] w fun e w' => e = .returned (.string (leafB ⟨x.1.toArray⟩ ((f x.1).getD ByteArray.empty))) ∧ Below w.heap.size w w' := by
  have HG := Lib.hid G
  have HT0 := Lib.hid h
  have HRow := Lib.hid hr
  have HSz : Hid ((⟨x.1.toArray⟩ : ByteArray).size + ((f x.1).getD ByteArray.empty).size ≤ 140737488351400) := Lib.hid (by
    have h1 : (⟨x.1.toArray⟩ : ByteArray).size = 32 := by simp [ByteArray.size, x.2]
    rw [h1]
    cases hf : f x.1 with
    | none => simp
    | some v => have := h.ok _ _ hf; simp; omega)
  clear G h hr
  go_enter Tryd.func39, Tryd.ntmps39
  go_upto_region 5 with fail
  refine wp_abs fun a0 hA => ?_
  have h0 : a0.eval (.tmp 0) = .pointer (some ⟨t, 0, none⟩) := by rw [hA]; rfl
  have h1 : a0.eval (.tmp 1) = .slice (some ⟨g, o, none⟩) 1 cap := by rw [hA]; rfl
  have hz : a0.tmps.size = 46 := by rw [hA]; rfl
  refine wp_region_K [some 16, some 17, some 18, some 19, some 20, some 21, some 22, some 23, some 24, some 25, some 26, some 27, some 28, some 6] 46 (CJ (hshV t b g o cap x f) (fun _ _ => True) [12] (bwS w)) (by kernel_rfl) (by kernel_rfl) (by kernel_rfl) rfl (by kernel_rfl) hz (CJ.start (fun i => trivial) ⟨by omega, (Below.refl _ w).drew⟩) ?_ ⟨?_, ?_, ?_, ?_, ?_, ?_, ?_, ?_, ?_, ?_, ?_, ?_, ?_, ?_, trivial⟩
  · intro d u W hd hJ
    have hW := bwS_inv hJ
    have e13 : u 13 = _ := hJ.vals 13 (hd 13 (by decide))
    rw [hA]
    simp only [putAll, Act.put, List.setIfInBounds_toArray, List.set_cons_zero, List.set_cons_succ]
    clear hJ hd h0 h1 hz hA
    clear a0
    rw [e13]
    clear e13
    have HF := Lib.hid hW
    clear hW
    go_wp2_with fail
    go_ret
    exact ⟨rfl, HF.out⟩
  · exact KStep.plain rfl fun ρ d u W he hc hdi hd hJ => swp_val (run_move (he.o h1 rfl)) (hJ.pure 0 rfl rfl)
  · exact KStep.plain rfl fun ρ d u W he hc hdi hd hJ => swp_val (run_indexAddr (he.i hz (hJ.vals 0 (hd 0 (by kernel_rfl))) (j := 0) (d := 16) rfl (by decide)) (he.const _) one_idx) (hJ.pure 1 rfl rfl)
  · exact KStep.plain rfl fun ρ d u W he hc hdi hd hJ => swp_val (run_slc (he.i hz (hJ.vals 1 (hd 1 (by kernel_rfl))) (j := 1) (d := 17) rfl (by decide)) one_slc) (hJ.pure 2 rfl rfl)
  · exact KStep.plain rfl fun ρ d u W he hc hdi hd hJ => swp_val (run_convert (he.i hz (hJ.vals 2 (hd 2 (by kernel_rfl))) (j := 2) (d := 18) rfl (by decide)) (one_conv (HRow.out.below (bwS_inv hJ)))) (hJ.pure 3 rfl rfl)
  · exact KStep.plain rfl fun ρ d u W he hc hdi hd hJ => swp_val (run_move (he.o h0 rfl)) (hJ.pure 4 rfl rfl)
  · exact KStep.plain rfl fun ρ d u W he hc hdi hd hJ => swp_val (run_nilCheck (he.i hz (hJ.vals 4 (hd 4 (by kernel_rfl))) (j := 4) (d := 20) rfl (by decide))) (hJ.pure 5 rfl rfl)
  · exact KStep.plain rfl fun ρ d u W he hc hdi hd hJ => swp_val (run_fieldAddr (he.i hz (hJ.vals 5 (hd 5 (by kernel_rfl))) (j := 5) (d := 21) rfl (by decide)) (by go_simp)) (hJ.pure 6 rfl rfl)
  · exact KStep.plain rfl fun ρ d u W he hc hdi hd hJ => swp_val (run_load (he.i hz (hJ.vals 6 (hd 6 (by kernel_rfl))) (j := 6) (d := 22) rfl (by decide)) (ld_map ((HT0.out.below (bwS_inv hJ)).blk.cell 0))) (hJ.pure 7 rfl rfl)
  · exact KStep.plain rfl fun ρ d u W he hc hdi hd hJ => swp_val (run_move (he.o h1 rfl)) (hJ.pure 8 rfl rfl)
  · exact KStep.plain rfl fun ρ d u W he hc hdi hd hJ => swp_val (run_indexAddr (he.i hz (hJ.vals 8 (hd 8 (by kernel_rfl))) (j := 8) (d := 24) rfl (by decide)) (he.const _) one_idx) (hJ.pure 9 rfl rfl)
  · exact KStep.plain rfl fun ρ d u W he hc hdi hd hJ => swp_val (run_load (he.i hz (hJ.vals 9 (hd 9 (by kernel_rfl))) (j := 9) (d := 25) rfl (by decide)) (ld_placeAt x.2 (one_cells (HRow.out.below (bwS_inv hJ))))) (hJ.pure 10 rfl rfl)
  · exact KStep.plain rfl fun ρ d u W he hc hdi hd hJ => swp_val (run_lookup (he.i hz (hJ.vals 7 (hd 7 (by kernel_rfl))) (j := 7) (d := 23) rfl (by decide)) (he.i hz (hJ.vals 10 (hd 10 (by kernel_rfl))) (j := 10) (d := 26) rfl (by decide)) ((HT0.out.below (bwS_inv hJ)).m.look_c x.2 false)) (hJ.pure 11 rfl rfl)
  · exact KStep.plain rfl fun ρ d u W he hc hdi hd hJ => swp_call (run_call #[.string ⟨x.1.toArray⟩, .string ((f x.1).getD ByteArray.empty)] (he.func _) (by kernel_rfl) (map2 (he.i hz (hJ.vals 3 (hd 3 (by kernel_rfl))) (j := 3) (d := 19) rfl (by decide)) (he.i hz (hJ.vals 11 (hd 11 (by kernel_rfl))) (j := 11) (d := 27) rfl (by decide)))) (tleaf_is _ _ W (HG.out.next (bwS_inv hJ)) HSz.out) (fun e W' h => ⟨_, h.1, hJ.go 0 rfl hdi (by decide) (fun j h => by omega) rfl ⟨Nat.le_refl 1, bstep (bwS_inv hJ) h.2⟩⟩)
  · exact KStep.plain rfl fun ρ d u W he hc hdi hd hJ => swp_val (run_assign (he.i hz (hJ.vals 12 (hd 12 (by kernel_rfl))) (j := 12) (d := 28) rfl (by decide))) (hJ.pure 13 rfl rfl)
set_option maxHeartbeats 1000000 in
theorem hash_two (t b n : Nat) (f : PM) (m d : Nat) (hd : d < 256) (l : List Pl) (h2 : 2 ≤ l.length) (g o cap : Nat) (hcap : l.length ≤ cap) (w : World) (h : TAt w t b n f) (G : Glob w) (hr : RowAt w g o l) (hri : Rise l) (hal : Alike d l) (hbig : l.length < 4611686018427387904)
    (ih : ∀ (l' : List Pl) (len : Nat) (p : Option Addr) (cap' : Nat) (w' : World), l'.length = len → TAt w' t b n f → Glob w' → len ≤ cap' → RowV w' p l' → Rise l' → Alike (d + 1) l' → len < 4611686018427387904 → Calls Tryd.prog 39 #[.pointer (some ⟨t, 0, none⟩), .slice p len cap', .int .i64 ((d : Int) + 1)] w' fun e w'' => e = .returned (.string (hashP f m (d + 1) l')) ∧ Below w'.heap.size w' w'') :
    Calls Tryd.prog 39 #[.pointer (some ⟨t, 0, none⟩), .slice (some ⟨g, o, none⟩) l.length cap, .int .i64 d] w fun e w' => e = .returned (.string (hashP f (m + 1) d l)) ∧ Below w.heap.size w w' := by
  rw [hashP_two f m d h2]
  have HG := Lib.hid G
  have HT0 := Lib.hid h
  have HRow := Lib.hid hr
  have HI := Lib.hid ih
  have hc := cnt_le d l
  have HRi := Lib.hid hri
  have HAl := Lib.hid hal
  clear G h hr ih hri hal
  have hl0 : ((l.length : Int) == 0) = false := by rw [beq_eq_false_iff_ne]; omega
  have hl1 : ((l.length : Int) == 1) = false := by rw [beq_eq_false_iff_ne]; omega
  go_enter Tryd.func39, Tryd.ntmps39
  go_wp2_with fail
  refine (halves_is l g o cap d hcap w HRow.out hd hbig).mono ?_
  rintro e w1 ⟨pb, rfl, hpb, hb1⟩
  have HL1 := Lib.hid hb1
  have HPb := Lib.hid hpb
  clear hb1 hpb hl0 hl1
  go_wp2_with fail
  refine (HI.out (l.take (cntP d l)) (cntP d l) _ _ w1 (by rw [List.length_take]; exact Nat.min_eq_left hc) (HT0.out.below HL1.out) (HG.out.next HL1.out) (by omega) (.inr ⟨g, o, rfl, (HRow.out.below HL1.out).take _⟩) (HRi.out.sub (List.take_sublist _ _)) (alike_take hd HAl.out) (by omega)).mono ?_
  rintro e w2 ⟨rfl, hb2⟩
  have HL2 := Lib.hid (bstep HL1.out hb2)
  clear hb2
  go_wp2_with fail
  refine (HI.out (l.drop (cntP d l)) (l.length - cntP d l) _ _ w2 (by rw [List.length_drop]) (HT0.out.below HL2.out) (HG.out.next HL2.out) (by omega) ?_ (HRi.out.sub (List.drop_sublist _ _)) (alike_drop hd HRi.out HAl.out) (by omega)).mono ?_
  · by_cases hlt : cntP d l < l.length
    · exact .inr ⟨g, _, HPb.out hlt, (HRow.out.below HL2.out).drop _⟩
    · exact .inl (List.drop_eq_nil_of_le (by omega))
  rintro e w3 ⟨rfl, hb3⟩
  have HL3 := Lib.hid (bstep HL2.out hb3)
  clear hb3
  go_wp2_with fail
  refine (tinner_is _ _ w3 (HG.out.next HL3.out) (by
    have h1 := hashP_size f m (d + 1) (l.take (cntP d l))
    have h2 := hashP_size f m (d + 1) (l.drop (cntP d l))
    omega)).mono ?_
  rintro e w4 ⟨rfl, hb4⟩
  have HL4 := Lib.hid (bstep HL3.out hb4)
  clear hb4
  go_wp2_with fail
  go_ret
  exact ⟨rfl, HL4.out⟩
theorem hash_is (t b n : Nat) (f : PM) : ∀ (m d : Nat), d + m = 256 → ∀ (l : List Pl) (len : Nat) (p : Option Addr) (cap : Nat) (w : World), l.length = len → TAt w t b n f → Glob w → len ≤ cap → RowV w p l → Rise l → Alike d l → len < 4611686018427387904 →
    Calls Tryd.prog 39 #[.pointer (some ⟨t, 0, none⟩), .slice p len cap, .int .i64 (d : Int)] w fun e w'' => e = .returned (.string (hashP f m d l)) ∧ Below w.heap.size w w''
  | m, d, hm, [], len, p, cap, w, hlen, h, G, hcap, hr, hri, hal, hbig => by
    subst hlen
    rw [hashP_none]
    exact hash_none t p cap d w G
  | m, d, hm, [x], len, p, cap, w, hlen, h, G, hcap, hr, hri, hal, hbig => by
    subst hlen
    rw [hashP_one]
    rcases hr with hr | ⟨g, o, rfl, hr⟩
    · cases hr
    · exact hash_one t b n f x g o cap hcap d w h G hr
  | 0, d, hm, x :: y :: l, len, p, cap, w, hlen, h, G, hcap, hr, hri, hal, hbig => by
    have hd : d = 256 := by omega
    subst hd
    have := alike_full hri hal
    simp at this
  | m + 1, d, hm, x :: y :: l, len, p, cap, w, hlen, h, G, hcap, hr, hri, hal, hbig => by
    subst hlen
    rcases hr with hr | ⟨g, o, rfl, hr⟩
    · cases hr
    · refine hash_two t b n f m d (by omega) (x :: y :: l) (by simp) g o cap hcap w h G hr hri hal hbig fun l' len p cap' w' h1 h2 h3 h4 h5 h6 h7 h8 => ?_
      have hh := hash_is t b n f m (d + 1) (by omega) l' len p cap' w' h1 h2 h3 h4 h5 h6 h7 h8
      rw [show ((d + 1 : Nat) : Int) = (d : Int) + 1 by omega] at hh
      exact hh
end Go.Proofs.YtichklplcpkjdaaDoor
