/-
  The walks of the trie's places and Root.
-/
import Derived.Test.YtichklplcpkjdaaDoorSTrieH
namespace Go.Proofs.YtichklplcpkjdaaDoor
open Go.RowKit Go.Maps Go.Sort
set_option linter.unusedVariables false

theorem pl_end {w W : World} {b r n cnt : Nat} {D : DataW Unit} {f : PM} {left : Lit → Bool} {v : Value} {l : List Pl} (h : PlIn w b r n D left cnt v l W) (hl : ∀ kl, left kl = false) (hh : ∀ k, k.length = 32 → Maps.has D (.string k) = (f k).isSome) : KeysOf f l :=
  ⟨h.nodup, fun p => by rw [h.mem p, hl, hh _ p.2]; simp⟩
theorem own_shape' {w : World} {base : Nat} {v : Value} {n : Nat} {xs : List Value} {e : TypeId} {s : Nat} (h : w.ownsRow base e s v n xs) : ∃ p cap, v = .slice p n cap ∧ n ≤ cap ∧ (n = 0 ∨ ∃ g, p = some ⟨g, 0, none⟩ ∧ base ≤ g ∧ g < w.heap.size) := by
  rcases h.2 with ⟨rfl, rfl⟩ | ⟨g, cap, cur, rfl, hb, hg, hn, _⟩
  · exact ⟨none, 0, rfl, Nat.le_refl _, .inl rfl⟩
  · exact ⟨_, cap, rfl, hn, .inr ⟨g, rfl, hb, lt_of_some hg⟩⟩
theorem fill_placeL {P : List UInt8} (hP : P.length = 32) (L : List (Nat × Value)) (hL : L = [(0, pv P)]) (cells : Array Value) (hc : cells.size = 32) : Instr.fill (fun i => some (i * 32, 32)) cells L = some (bC P).toArray := by rw [hL]; exact fill_place hP cells hc
theorem sortPl_len (l : List Pl) : (sortPl l).length = l.length := (List.mergeSort_perm l _).length_eq
set_option maxRecDepth 100000 in
set_option maxHeartbeats 4000000 in
theorem places_is (w : World) (t b n : Nat) (f : PM) (h : TAt w t b n f) (hn : n ≤ 4194304) :
    Calls Tryd.prog 40 #[.pointer (some ⟨t, 0, none⟩)] w fun e w' => ∃ (l : List Pl) (p : Option Addr) (cap : Nat), e = .returned (.slice p l.length cap) ∧ l.length ≤ cap ∧ l.length ≤ n ∧ RowV w' p (sortPl l) ∧ KeysOf f l ∧ Below w.heap.size w w' := by
  have HT := Lib.hid h
  obtain ⟨D, hown, hh, ha⟩ := h.m
  have HD := Lib.hid (And.intro hh ha)
  have hsz := hown.size_le
  have hbl := hown.lt
  have HOwn := Lib.hid hown
  have c0 : w.cell? ⟨t, 0, none⟩ = some (.map (some b)) := h.blk.cell 0
  obtain ⟨i0, hi, hz0, hz1, hz2⟩ := info_parts' info_pl
  obtain ⟨w1, hmk, hrow, hgrow⟩ := run_make_own (P := Tryd.prog) w w.heap.size 76 74 i0 _ 32 Tryd.underlying76 hi hz0 hz1 .i64 .i64 (Maps.size D) (by rw [hz2]; omega) (by unfold maxLen; omega) (Nat.le_refl _)
  have HB1 : Hid (Below w.heap.size w w1) := Lib.hid ⟨hgrow.os, hgrow.tape, hgrow.output, hgrow.size, fun i hi => hgrow.block i hi (by simp)⟩
  have HRow1 := Lib.hid hrow
  have HIp := Lib.hid (And.intro hi (And.intro hz0 (And.intro hz1 hz2)))
  have c1 : w1.cell? ⟨t, 0, none⟩ = some (.map (some b)) := (HT.out.blk.below HB1.out).cell 0
  have hown1 : w1.ownsMap Tryd.prog 74 (plainElem Tryd.prog 9) b n D := by
    obtain ⟨es, clock, h1, h2⟩ := hown
    exact ⟨es, clock, (HB1.out.block b hbl).trans h1, h2⟩
  have HOwn1 := Lib.hid hown1
  have HSz1 := Lib.hid HB1.out.size
  clear h hh ha hi hz0 hz1 hz2 hrow hgrow hown hown1
  go_enter Tryd.func40, Tryd.ntmps40
  go_wp2_with (first | (at_len; refine wpList_len_own _ rfl _ 70 rfl 74 9 Tryd.underlying70 (plainElem Tryd.prog 9) b n D rfl HOwn.out ?_) | (at_range; refine wpList_range_own _ rfl _ 70 rfl 74 9 keyLawP Tryd.underlying70 (plainElem Tryd.prog 9) b n D rfl HOwn1.out ?_; intro w0 hrg0 hg0 hs0))
  go_frame
  have HI : Hid (PlIn w b w1.heap.size n D (Maps.has D) (Maps.size D) (.slice (some ⟨w.heap.size, 0, none⟩) 0 (Maps.size D)) [] w0) := Lib.hid (by
    have hb0 : Below w1.heap.size w1 w0 := ⟨hg0.os, hg0.tape, hg0.output, hg0.size, fun i hi => hg0.block i hi (by simp)⟩
    exact ⟨hrg0, own_bel' HRow1.out hb0, by simp, by simp, fun p => by simp, bstep HB1.out hb0⟩)
  clear hrg0 hg0 hs0 c0 c1 hmk
  go_loopw [3, 4] (fun x3 _ wr => ∃ l left cnt, PlIn w b w1.heap.size n D left cnt x3 l wr) (fun _ _ wr => wr.rangeLeft b w1.heap.size)
  case atStart => exact ⟨_, _, _, HI.out⟩
  case round =>
    obtain ⟨l, left, cnt, hC⟩ := hrel
    have HC := Lib.hid hC
    have hrg := hC.rg
    clear hC HI
    go_wp2_with (at_next; refine wpList_next_ranges _ rfl _ rfl 74 keyLawP (plainElem Tryd.prog 9) (fun p : Pl => pv p.1) Value.string (fun key kl hk => by obtain ⟨p, h, _⟩ := key_inv hk; exact ⟨p, h⟩) (fun v y hv => str_inv hv) b w1.heap.size n _ _ _ rfl hrg ?_ ?_)
    · intro hc0 hl0
      have HK := Lib.hid (pl_end HC.out hl0 HD.out.1)
      have HLn : Hid (l.length ≤ n) := Lib.hid (by have := HC.out.len; omega)
      obtain ⟨p, cap, rfl, hcap, hp⟩ := own_shape' HC.out.own
      have HCap := Lib.hid hcap
      clear hl0 hrg hcap
      rcases hp with h0 | ⟨g, rfl, hg1, hg2⟩
      · obtain rfl : l = [] := List.length_eq_zero_iff.1 h0
        go_wp2_with fail
        refine (sortf_none p cap wr).mono ?_
        rintro e w2 ⟨rfl, rfl⟩
        go_wp2_with fail
        go_ret
        exact ⟨[], p, cap, rfl, HCap.out, HLn.out, .inl (List.length_eq_zero_iff.1 (sortPl_len [])), HK.out, HC.out.bel⟩
      · have hH := holds_of_own HC.out.own rfl
        have HH := Lib.hid hH
        clear hH
        go_wp2_with fail
        refine (sortf_is g 0 cap l.toArray wr HH.out hg2 (by simp; have := HLn.out; omega)).mono ?_
        rintro e w2 ⟨rfl, nd, os, rfl⟩
        have HR := Lib.hid (sorted_row (n := nd) (os := os) hg2 HH.out (s := sortPl l.toArray.toList) (sortPl_len _))
        have HBl : Hid (Below w.heap.size wr (sortWorldK encP 32 wr g 0 nd (sortPl l.toArray.toList).toArray os)) := Lib.hid (sorted_below hg1 HC.out.bel.size)
        go_wp2_with fail
        go_ret
        exact ⟨l, _, cap, rfl, HCap.out, HLn.out, .inr ⟨g, 0, rfl, HR.out⟩, HK.out, HC.out.bel.trans HBl.out⟩
    · intro P hP c kl ya yb w2 cnt2 hkey hlk hv hat hrg2 hlt hg2 hs2 hen
      have HStep := Lib.hid (fun (W1 W' : World) (v' : Value) (hb : Below w2.heap.size w2 W1) (h1 : W'.ownsRow w.heap.size 74 32 v' (l.length + 1) (l.flatMap encP ++ bC P)) (h2 : W1.grownBy W' u3.ownBlock) => pl_step (x := ⟨P, hP⟩) (y := (ya, yb)) HC.out HD.out.1 HD.out.2 hbl HSz1.out hkey hlk hv hat hrg2 hlt hg2 hb h1 h2)
      have HRowF := Lib.hid (fun (W1 : World) (hb : Below w2.heap.size w2 W1) => HC.out.row hg2 hb)
      have HLeft := Lib.hid hrg.left_eq
      have HB2s : Hid (w.heap.size ≤ w2.heap.size) := Lib.hid (Nat.le_trans HC.out.bel.size hg2.size)
      have HLen : Hid (l.length + 1 ≤ n) := Lib.hid (by have := HC.out.len; omega)
      clear hrg hkey hv hat hrg2 hg2 hlk hs2
      have hb3 : Below w2.heap.size w2 ((w2.alloc (.cells (Array.replicate 32 (Value.int .u8 0)) 74)).setRow w2.heap.size (bC P).toArray) := (balloc (Below.refl _ w2) _).trans (below_setRow _ _ _)
      have hB3 : Blk ((w2.alloc (.cells (Array.replicate 32 (Value.int .u8 0)) 74)).setRow w2.heap.size (bC P).toArray) w2.heap.size 74 (bC P).toArray := setRow_heap _ _ _ _ _ _ (Blk.new w2 74 (Array.replicate 32 (Value.int .u8 0)))
      have HRow : Hid ((w2.alloc (.cells (Array.replicate 32 (Value.int .u8 0)) 74)).heap[w2.heap.size]? = some (.cells (Array.replicate 32 (Value.int .u8 0)) 74 (0, 0))) := Lib.hid (Blk.new w2 _ _)
      go_upto_region 5 with (refine wpList_store_row rfl 74 _ _ rfl w2.heap.size (bC P).toArray rfl rfl _ _ HRow.out (by rw [List.size_toArray, bC_len, hP]; kernel_rfl) (by simp [bC_len, hP]) (by simp [bC, Value.oneCell']) ?_)
      change Code.wp _ _ _ _ ((w2.alloc (.cells (Array.replicate 32 (Value.int .u8 0)) 74)).setRow w2.heap.size (bC P).toArray)
      generalize (w2.alloc (.cells (Array.replicate 32 (Value.int .u8 0)) 74)).setRow w2.heap.size (bC P).toArray = W0 at hb3 hB3 ⊢
      have HLd := Lib.hid (ld_place hB3 hP)
      have hb4 : Below w2.heap.size w2 (W0.alloc (.cells (bC P).toArray 74)) := balloc hb3 _
      have HOw := Lib.hid (HRowF.out _ hb4)
      have HSt := Lib.hid (fun (W' : World) (v' : Value) => HStep.out _ W' v' hb4)
      have HNew := Lib.hid (blk_cells (Blk.new W0 74 (bC P).toArray))
      have HSz4 : Hid (w.heap.size ≤ (W0.alloc (.cells (bC P).toArray 74)).heap.size) := Lib.hid (Nat.le_trans HB2s.out hb4.size)
      clear hb3 hB3 hb4 HRow HStep HRowF
      go_wp2_with (refine wpList_load_run 74 _ rfl (by rfl) ⟨w2.heap.size, 0, none⟩ rfl HLd.out ?_; refine wpList_buildSlice rfl 76 74 1 _ rfl (bC P).toArray i0 (.agg #[.int .u8 0, .int .u8 0, .int .u8 0, .int .u8 0, .int .u8 0, .int .u8 0, .int .u8 0, .int .u8 0, .int .u8 0, .int .u8 0, .int .u8 0, .int .u8 0, .int .u8 0, .int .u8 0, .int .u8 0, .int .u8 0, .int .u8 0, .int .u8 0, .int .u8 0, .int .u8 0, .int .u8 0, .int .u8 0, .int .u8 0, .int .u8 0, .int .u8 0, .int .u8 0, .int .u8 0, .int .u8 0, .int .u8 0, .int .u8 0, .int .u8 0, .int .u8 0]) Tryd.underlying76 HIp.out.1 HIp.out.2.1 (by rw [HIp.out.2.2.1]; decide) (by rw [HIp.out.2.2.1]; decide) (by rw [HIp.out.2.2.1]; apply fill_placeL hP; (simp only [List.map_toArray, List.map_cons, List.map_nil]; rfl); rw [Array.size_map, Array.size_range]) ?_; refine wpList_append_lies _ rfl _ _ 76 rfl w.heap.size 74 i0 (.agg #[.int .u8 0, .int .u8 0, .int .u8 0, .int .u8 0, .int .u8 0, .int .u8 0, .int .u8 0, .int .u8 0, .int .u8 0, .int .u8 0, .int .u8 0, .int .u8 0, .int .u8 0, .int .u8 0, .int .u8 0, .int .u8 0, .int .u8 0, .int .u8 0, .int .u8 0, .int .u8 0, .int .u8 0, .int .u8 0, .int .u8 0, .int .u8 0, .int .u8 0, .int .u8 0, .int .u8 0, .int .u8 0, .int .u8 0, .int .u8 0, .int .u8 0, .int .u8 0]) 32 32 Tryd.underlying76 HIp.out.1 HIp.out.2.1 HIp.out.2.2.1 HIp.out.2.2.2 rfl (by decide) _ _ _ rfl HOw.out ⟨W0.heap.size, 0, none⟩ 1 1 (bC P) rfl (by rw [bC_len, hP]) HNew.out (encP_one ⟨P, hP⟩) (by decide) (by have := HLen.out; unfold maxLen; omega) (by have := HLen.out; omega) HSz4.out _ rfl ?_; intro g5 cap5 w5 hown5 hgr5 hat5 hlt5)
      have HF := Lib.hid (HSt.out w5 _ hown5 hgr5)
      exact ⟨⟨_, _, _, HF.out⟩, by rw [HF.out.rg.left_eq, HLeft.out]; exact hlt⟩
end Go.Proofs.YtichklplcpkjdaaDoor
