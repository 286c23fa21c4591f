/-
  The walks of sha's Input and Tag.
-/
import Derived.Test.YtichklplcpkjdaaDoorShaTop
import Derived.Test.YtichklplcpkjdaaDoorBld
namespace Go.Proofs.YtichklplcpkjdaaDoor
open Go.RowKit
set_option linter.unusedVariables false

/-- one part, its length ahead -/
def partL (s : ByteArray) : List UInt8 := w4 ((s.size : Int) % 4294967296) ++ s.data.toList
/-- the text that Tag sums -/
def inpL (c : UInt8) (ss : List ByteArray) : List UInt8 := c :: ss.flatMap partL
theorem inpL_snoc (c : UInt8) (ss : List ByteArray) (j : Nat) (h : j < ss.length) : inpL c (ss.take (j + 1)) = inpL c (ss.take j) ++ w4 ((ss[j].size : Int) % 4294967296) ++ ss[j].data.toList := by
  unfold inpL
  rw [List.take_succ_eq_append_getElem h]
  simp only [List.flatMap_append, List.flatMap_cons, List.flatMap_nil, List.append_nil, partL, List.cons_append, List.append_assoc]
theorem inpL_le (c : UInt8) (ss : List ByteArray) (j : Nat) : (inpL c (ss.take j)).length ≤ (inpL c ss).length := by
  have e : inpL c ss = inpL c (ss.take j) ++ (ss.drop j).flatMap partL := by
    unfold inpL
    rw [List.cons_append, ← List.flatMap_append, List.take_append_drop]
  rw [e, List.length_append]
  omega
theorem Bld.grown {w w' : World} {B b : Nat} {l : List UInt8} (h : Bld w B b l) (hg : w.grownBy w' none) : Bld w' B b l := by
  obtain ⟨hB, v, hbk, hown, hne⟩ := h
  exact ⟨hB, v, by rw [hg.block b (lt_of_some hbk) (by simp)]; exact hbk, hown.kept hg (by cases hv : v.ownBlock <;> simp), hne⟩
theorem Byt.four {w : World} {base : Nat} {v : Value} {l : List UInt8} (h : Byt w base v l) (hl : l ≠ []) : ∃ g cap, v = .slice (some ⟨g, 0, none⟩) l.length cap ∧ ∀ j u, (bC l)[j]? = some u → w.cell? ((⟨g, 0, none⟩ : Addr).add j) = some u := by
  have hc := fun g hg => World.ownsRow.cells h (g := g) hg
  rcases h.2 with ⟨_, h0⟩ | ⟨g, cap, cur, hv, _⟩
  · exact absurd (List.length_eq_zero_iff.1 h0) hl
  · exact ⟨g, cap, hv, hc g (by rw [hv]; rfl)⟩
def InpRel (c : UInt8) (ss : List ByteArray) (w : World) (k : Nat) (i : Value) (wr : World) : Prop :=
  ∃ j : Nat, j ≤ ss.length ∧ k = ss.length - j ∧ i = .int .i64 j ∧ Bld wr w.heap.size w.heap.size (inpL c (ss.take j)) ∧ Below w.heap.size w wr
set_option maxHeartbeats 1000000 in
theorem input_is (c : UInt8) (ss : List ByteArray) (g cap : Nat) (w : World) (hg : g < w.heap.size) (hc : ∀ j (h : j < ss.length), w.cell? ⟨g, j, none⟩ = some (.string ss[j])) (hn : ss.length ≤ 16) (hN : (inpL c ss).length ≤ 140737488355328) :
    Calls Tryd.prog 46 #[.int .u8 (c.toNat : Int), .slice (some ⟨g, 0, none⟩) ss.length cap] w fun e w' => e = .returned (.string ⟨(inpL c ss).toArray⟩) ∧ Below w.heap.size w w' := by
  have HC := Lib.hid hc
  clear hc
  go_enter Tryd.func46, Tryd.ntmps46
  go_wp2_with fail
  refine (wbyte_is w c).mono ?_
  rintro e w1 ⟨rfl, hb1, hl1⟩
  have HB1 := Lib.hid hb1
  have HL1 := Lib.hid hl1
  clear hb1 hl1
  go_wp2_with fail
  go_loopg [12] ss.length (fun k i wr => InpRel c ss w k i wr)
  case atStart => exact ⟨0, by omega, rfl, rfl, HB1.out, HL1.out⟩
  case round =>
    obtain ⟨j, hj, hk, rfl, hbl, hbel⟩ := hrel
    have HK := Lib.hid hk
    have HB := Lib.hid hbl
    have HL := Lib.hid hbel
    clear hk hbl hbel HB1 HL1
    by_cases hlt : j < ss.length
    · have hcell : wr.cell? ⟨g, j, none⟩ = some (.string ss[j]) := (HL.out.cell (p := ⟨g, j, none⟩) hg).trans (HC.out j hlt)
      have HSn := Lib.hid (inpL_snoc c ss j hlt)
      have hle := inpL_le c ss (j + 1)
      rw [HSn.out, List.length_append, List.length_append, len_data] at hle
      have h4 : (w4 ((ss[j].size : Int) % 4294967296)).length = 4 := rfl
      rw [h4] at hle
      generalize ss[j] = s at hcell HSn hle
      clear h4
      have hB := HL.out.size
      go_wp2_with fail
      refine (lay_is wr.heap.size _ [] ((s.size : Int) % 4294967296) wr (Byt.nil _ _) (by simp) (Nat.le_refl _) (by omega) (by omega)).mono ?_
      rintro e w2 ⟨v2, rfl, hy2, hg2⟩
      obtain ⟨g2, cap2, rfl, hcs2⟩ := hy2.four (by simp [w4])
      have HB2 := Lib.hid (HB.out.grown hg2)
      have HL2 := Lib.hid (HL.out.grown hg2 hB (by simp [Value.ownBlock]))
      have HCS := Lib.hid hcs2
      clear hy2 hg2 hcs2
      have hB2 := HL2.out.size
      go_wp2_with fail
      refine (write_is w2 _ _ _ _ g2 cap2 HB2.out hB2 (by simp [w4]; omega) HCS.out).mono ?_
      rintro e w3 ⟨rfl, hb3, hl3⟩
      have HB3 := Lib.hid hb3
      have HL3 := Lib.hid (HL2.out.trans hl3)
      clear hb3 hl3 HB2 HCS
      have hB3 := HL3.out.size
      go_wp2_with fail
      refine (wstring_is w3 _ _ _ s HB3.out hB3 (by simp [w4]; omega)).mono ?_
      rintro e w4' ⟨rfl, hb4, hl4⟩
      have HR : Hid (InpRel c ss w (ss.length - (j + 1)) (.int .i64 ((j + 1 : Nat) : Int)) w4') := Lib.hid ⟨j + 1, by omega, rfl, rfl, by rw [HSn.out]; exact hb4, HL3.out.trans hl4⟩
      clear hb4 hl4
      go_wp2_with fail
      go_roundg (ss.length - (j + 1))
      case measure => rw [HK.out]; omega
      case rel => exact HR.out
    · have HJ : Hid (j = ss.length) := Lib.hid (by omega)
      go_wp2_with fail
      refine (bstring_is wr _ _ _ HB.out HL.out.size).mono ?_
      rintro e w2 ⟨rfl, hb2⟩
      have HL2 := Lib.hid (HL.out.trans hb2)
      clear hb2
      have HE : Hid (inpL c (ss.take j) = inpL c ss) := Lib.hid (by rw [HJ.out, List.take_length])
      go_wp2_with fail
      go_ret
      exact ⟨by rw [← HE.out]; rfl, HL2.out⟩
set_option maxHeartbeats 1000000 in
theorem tag_is (c : UInt8) (ss : List ByteArray) (g cap : Nat) (w : World) (G : Glob w) (hg : g < w.heap.size) (hc : ∀ j (h : j < ss.length), w.cell? ⟨g, j, none⟩ = some (.string ss[j])) (hn : ss.length ≤ 16) (hN : (inpL c ss).length ≤ 140737488355328) :
    Calls Tryd.prog 37 #[.int .u8 (c.toNat : Int), .slice (some ⟨g, 0, none⟩) ss.length cap] w fun e w' => e = .returned (.string (sumB ⟨(inpL c ss).toArray⟩)) ∧ Below w.heap.size w w' := by
  have HG := Lib.hid G
  have HC := Lib.hid hc
  clear G hc
  go_enter Tryd.func37, Tryd.ntmps37
  go_wp2_with fail
  refine (input_is c ss g cap w hg HC.out hn hN).mono ?_
  rintro e w1 ⟨rfl, hb1⟩
  have HL1 := Lib.hid hb1
  clear hb1
  go_wp2_with fail
  refine (sum_is _ w1 (HG.out.below HL1.out HG.out.two) (by simpa [ByteArray.size] using hN)).mono ?_
  rintro e w2 ⟨rfl, hb2⟩
  have HL2 := Lib.hid (bstep HL1.out hb2)
  clear hb2
  go_wp2_with fail
  go_ret
  exact ⟨rfl, HL2.out⟩
end Go.Proofs.YtichklplcpkjdaaDoor
