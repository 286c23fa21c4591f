/-
  The walk of the document's own Parse (voussoirref04).
-/
import Derived.Test.YtmhboacfnklbgaaDoorPthRef
namespace Go.Proofs.YtmhboacfnklbgaaDoor
open Go.RowKit
set_option linter.unusedVariables false

/-- Parse's loop over the kinds -/
def RLoop (w : World) (s : List UInt8) (c : Nat) (i : Value) (wr : World) : Prop :=
  ∃ j : Nat, 1 ≤ j ∧ j ≤ 9 ∧ c = 9 - j ∧ i = .int .i64 j ∧ Below w.heap.size w wr ∧ wr.heap[w.heap.size]? = some (.cells #[.int .i64 0, .int .u64 0, .int .u64 0] 24 (0, 0)) ∧ w.heap.size < wr.heap.size ∧ ∀ k, 1 ≤ k → k < j → Pth.parseK k s = none

/-- what the document's Print answers, against the text asked about -/
def RPA (j n bb : Nat) (s : ByteArray) (r : Ending) : Prop :=
  ((((Pth.fm j).2.2 = true ∨ bb = 0) ∧ Pth.text j n bb = s.data.toList) ∧ r = .returned (.tuple #[.string s, .int .i64 0])) ∨
  (¬ (((Pth.fm j).2.2 = true ∨ bb = 0) ∧ Pth.text j n bb = s.data.toList) ∧ ∃ t : ByteArray, r = .returned (.tuple #[.string t, .int .i64 0]) ∧ (t.toList == s.toList) = false) ∨
  (¬ (((Pth.fm j).2.2 = true ∨ bb = 0) ∧ Pth.text j n bb = s.data.toList) ∧ r = .returned (.tuple #[.string ⟨#[]⟩, .int .i64 40]))
theorem rpprint_three (j n bb : Nat) (s : ByteArray) (w : World) (b : Int) (hbb : b = bb) (h1 : 1 ≤ j) (h8 : j ≤ 8) (hn : n < 18446744073709551616) (hb : bb < 18446744073709551616) :
    Calls Tryd.prog 11 #[.agg #[.int .i64 j, .int .u64 n, .int .u64 b]] w fun e w' => RPA j n bb s e ∧ Below w.heap.size w w' := by
  subst hbb
  refine (rpprint_good j n bb w h1 h8 (by omega) (by omega) (by omega) (by omega)).mono ?_
  rintro r w1 ⟨pa, hb1⟩
  refine ⟨?_, hb1⟩
  rcases pa with ⟨hg, rfl⟩ | ⟨hg, rfl⟩
  · simp only [Int.toNat_natCast]
    by_cases ht : Pth.text j n bb = s.data.toList
    · refine .inl ⟨⟨hg.imp id (by omega), ht⟩, ?_⟩
      rw [ht]
    · refine .inr (.inl ⟨fun h => ht h.2, _, rfl, ?_⟩)
      rw [beq_eq_false_iff_ne, ByteArray.toList_eq, ByteArray.toList_eq]
      exact ht
  · exact .inr (.inr ⟨fun h => hg (h.1.imp id (by omega)), rfl⟩)
theorem ref_none' {k n bb : Nat} {e : Int} {s : List UInt8} (h1 : 1 ≤ k) (h8 : k ≤ 8) (hA : Pth.refA k s = (n, e)) (hB : Pth.refB k s = bb) (h : ¬ (e = 0 ∧ ((Pth.fm k).2.2 = true ∨ bb = 0) ∧ Pth.text k n bb = s)) : Pth.parseK k s = none := by
  apply Pth.ref_none h1 h8
  rw [hA, hB]
  exact h
theorem ref_some' {k n bb : Nat} {s : List UInt8} (h1 : 1 ≤ k) (h8 : k ≤ 8) (hA : Pth.refA k s = (n, 0)) (hB : Pth.refB k s = bb) (h : ((Pth.fm k).2.2 = true ∨ bb = 0) ∧ Pth.text k n bb = s) : Pth.parseK k s = some (n, bb) := by
  have := Pth.ref_some h1 h8 (s := s) (by rw [hA]) (by rw [hB]; exact h.1) (by rw [hA, hB]; exact h.2)
  rw [hA, hB] at this
  exact this
theorem refC_eq {k n : Nat} {e : Int} {s ah be D : List UInt8} {two : Bool} (hF : Pth.fm k = (ah, be, two)) (hA : Pth.refA k s = (n, e)) (hD : Pth.digs (s.drop ah.length) = D) :
    Pth.refC k s = (decide (e = 0) && (two && (decide (be.length < s.length - (ah.length + D.length)) && ((s.drop (ah.length + D.length)).take be.length == be)))) := by
  unfold Pth.refC; rw [hA, hF]; simp only; rw [hD]
theorem refB_no {k : Nat} {s : List UInt8} (h : Pth.refC k s = false) : Pth.refB k s = 0 := by unfold Pth.refB; rw [h]; rfl
theorem refB_yes {k m : Nat} {e : Int} {s ah be D D2 : List UInt8} {two : Bool} (hF : Pth.fm k = (ah, be, two)) (hD : Pth.digs (s.drop ah.length) = D) (h : Pth.refC k s = true)
    (hD2 : Pth.digs (s.drop (ah.length + D.length + be.length)) = D2) (hp : Amt.parse D2 = (m, e)) : Pth.refB k s = m := by
  unfold Pth.refB; rw [h, if_pos rfl, hF]; simp only; rw [hD, hD2, hp]
theorem sign_eq {s : ByteArray} {i : Nat} {be : List UInt8} {z : Bool} (h : ((s.extract i (i + be.length)).toList == be) = z) : ((s.data.toList.drop i).take be.length == be) = z := by
  rw [ByteArray.toList_eq] at h
  rw [← h]
  congr 1
  simp
theorem pre_not {s : ByteArray} {p : List UInt8} (h : ((s.extract 0 p.length).toList == p) = false) : p.isPrefixOf s.data.toList = false := by
  rw [Bool.eq_false_iff]
  intro hh
  have h1 := List.prefix_iff_eq_take.1 (List.isPrefixOf_iff_prefix.1 hh)
  rw [ByteArray.toList_eq, beq_eq_false_iff_ne] at h
  apply h
  simp
  exact h1.symm
theorem pre_short {p l : List UInt8} (h : l.length < p.length) : p.isPrefixOf l = false := by
  rw [Bool.eq_false_iff]
  intro hh
  have := (List.isPrefixOf_iff_prefix.1 hh).length_le
  omega
set_option maxRecDepth 100000 in
set_option maxHeartbeats 2000000 in
theorem rparseP (s : ByteArray) (w : World) (hs : s.size ≤ 1048576) :
    Calls Tryd.prog 13 #[.string s] w fun e w' => ParseAns s.data.toList e ∧ Below w.heap.size w w' := by
  go_enter Tryd.func13, Tryd.ntmps13
  go_wp2_with fail
  go_loopg [4] 8 (fun c i wr => RLoop w s.data.toList c i wr)
  case atStart => exact ⟨1, by omega, by omega, by omega, rfl, (Below.refl _ _).alloc (Nat.le_refl _) _, Blk.new _ _ _, by simp, fun k _ h => by omega⟩
  case round =>
    obtain ⟨j, hj1, hj, hc, rfl, hbel, hblk, hsz, hn⟩ := hrel
    have HC := Lib.hid hc
    have HN := Lib.hid hn
    have HB := Lib.hid hblk
    clear hc hn hblk
    by_cases hlt : j < 9
    · have fo := rforms_is j hj1 (by omega)
      have hl := Pth.fm_len hj1 (by omega : j ≤ 8)
      obtain ⟨ah, be, two, hf⟩ : ∃ ah be two, Pth.fm j = (ah, be, two) := ⟨_, _, _, rfl⟩
      rw [hf] at hl fo
      have HF := Lib.hid hf
      simp only at hl fo
      have FO := Lib.hid fo
      clear hf fo
      obtain ⟨hla, hlb⟩ := hl
      go_wp2_with fail
      refine (FO.out _).mono ?_
      rintro e w1 ⟨rfl, rfl⟩
      by_cases hsl : s.size < ah.length
      · go_wp2_with fail
        go_roundg (9 - (j + 1))
        case measure => rw [HC.out]; omega
        case rel => exact ⟨j + 1, by omega, by omega, rfl, rfl, hbel, HB.out, hsz, fun k hk hkj => by
          by_cases h : k = j
          · subst h; exact Pth.ref_pre (by rw [HF.out]; exact pre_short (by simpa using hsl))
          · exact HN.out k hk (by omega)⟩
      · rcases hq : ((s.extract 0 ah.length).toList == ah) with _ | _
        · have HQ := Lib.hid hq
          go_wp2_with fail
          go_roundg (9 - (j + 1))
          case measure => rw [HC.out]; omega
          case rel => exact ⟨j + 1, by omega, by omega, rfl, rfl, hbel, HB.out, hsz, fun k hk hkj => by
            by_cases h : k = j
            · subst h; exact Pth.ref_pre (by rw [HF.out]; exact pre_not HQ.out)
            · exact HN.out k hk (by omega)⟩
        · obtain ⟨D, hD⟩ : ∃ D, Pth.digs (s.data.toList.drop ah.length) = D := ⟨_, rfl⟩
          obtain ⟨n, e, hp⟩ : ∃ n e, Amt.parse D = (n, e) := ⟨_, _, rfl⟩
          have hn : n < 18446744073709551616 := by have := Pth.parse_lt D; rwa [hp] at this
          have hdl : ah.length + D.length ≤ s.size := by
            have := Pth.digs_len (s.data.toList.drop ah.length)
            rw [hD] at this
            simp at this
            omega
          have HA : Hid (Pth.refA j s.data.toList = (n, e)) := Lib.hid (by unfold Pth.refA; rw [HF.out]; simp only; rw [hD, hp])
          have HD := Lib.hid hD
          have HP := Lib.hid hp
          clear hD hp
          go_wp2_with fail
          refine (number_is s _ ah.length (Lib.hid rfl) D HD n e HP (by omega) hs _).mono ?_
          rintro r w1 ⟨rfl, rfl⟩
          rcases hz : (e == 0) with _ | _
          · have HZ := Lib.hid hz
            go_wp2_with fail
            have HBB : Hid (Pth.refB j s.data.toList = 0) := Lib.hid (refB_no (by rw [refC_eq HF.out HA.out HD.out, decide_eq_false (beq_eq_false_iff_ne.1 HZ.out)]; rfl))
            refine (rpprint_three j n 0 s _ _ rfl hj1 (by omega) hn (by omega)).mono ?_
            rintro r w1 ⟨pa, hb1⟩
            have hsz1 : w.heap.size < w1.heap.size := by have := hb1.size; simp at this; omega
            have hblk1 : Blk w1 w.heap.size 24 #[.int .i64 0, .int .u64 0, .int .u64 0] := (hb1.block _ (by simp; omega)).trans ((Below.heap_alloc _ _ _ hsz).trans HB.out)
            have hbel1 : Below w.heap.size w w1 := (hbel.alloc hbel.size _).trans (hb1.mono (by simp; omega))
            obtain ⟨p0, p1, p2, p3⟩ := ((Blk.new wr 24 #[.int .i64 j, .int .u64 n, .int .u64 0]).below hb1).three
            have B1 := Lib.hid hblk1
            have PA := Lib.hid pa
            clear hb1 hblk1 pa
            rcases PA.out with ⟨hg, rfl⟩ | ⟨hg, t, rfl, ht⟩ | ⟨hg, rfl⟩
            · clear PA hg
              have HNO : Hid (Pth.parseK j s.data.toList = none) := Lib.hid (ref_none' hj1 (by omega) HA.out HBB.out (fun h => by have := HZ.out; rw [h.1] at this; cases this))
              go_wp2_with fail
              go_roundg (9 - (j + 1))
              case measure => rw [HC.out]; omega
              case rel => exact ⟨j + 1, by omega, by omega, rfl, rfl, hbel1, B1.out, hsz1, fun k hk hkj => by
                by_cases h : k = j
                · subst h; exact HNO.out
                · exact HN.out k hk (by omega)⟩
            · clear PA hg
              have HNO : Hid (Pth.parseK j s.data.toList = none) := Lib.hid (ref_none' hj1 (by omega) HA.out HBB.out (fun h => by have := HZ.out; rw [h.1] at this; cases this))
              go_wp2_with fail
              go_roundg (9 - (j + 1))
              case measure => rw [HC.out]; omega
              case rel => exact ⟨j + 1, by omega, by omega, rfl, rfl, hbel1, B1.out, hsz1, fun k hk hkj => by
                by_cases h : k = j
                · subst h; exact HNO.out
                · exact HN.out k hk (by omega)⟩
            · clear PA hg
              have HNO : Hid (Pth.parseK j s.data.toList = none) := Lib.hid (ref_none' hj1 (by omega) HA.out HBB.out (fun h => by have := HZ.out; rw [h.1] at this; cases this))
              go_wp2_with fail
              go_roundg (9 - (j + 1))
              case measure => rw [HC.out]; omega
              case rel => exact ⟨j + 1, by omega, by omega, rfl, rfl, hbel1, B1.out, hsz1, fun k hk hkj => by
                by_cases h : k = j
                · subst h; exact HNO.out
                · exact HN.out k hk (by omega)⟩
          · obtain rfl : e = 0 := by simpa using hz
            clear hz
            cases two with
            | false =>
              have HBB : Hid (Pth.refB j s.data.toList = 0) := Lib.hid (refB_no (by rw [refC_eq HF.out HA.out HD.out]; rfl))
              go_wp2_with fail
              refine (rpprint_three j n 0 s _ _ rfl hj1 (by omega) hn (by omega)).mono ?_
              rintro r w1 ⟨pa, hb1⟩
              have hsz1 : w.heap.size < w1.heap.size := by have := hb1.size; simp at this; omega
              have hblk1 : Blk w1 w.heap.size 24 #[.int .i64 0, .int .u64 0, .int .u64 0] := (hb1.block _ (by simp; omega)).trans ((Below.heap_alloc _ _ _ hsz).trans HB.out)
              have hbel1 : Below w.heap.size w w1 := (hbel.alloc hbel.size _).trans (hb1.mono (by simp; omega))
              obtain ⟨p0, p1, p2, p3⟩ := ((Blk.new wr 24 #[.int .i64 j, .int .u64 n, .int .u64 0]).below hb1).three
              have B1 := Lib.hid hblk1
              have PA := Lib.hid pa
              clear hb1 hblk1 pa
              rcases PA.out with ⟨hg, rfl⟩ | ⟨hg, t, rfl, ht⟩ | ⟨hg, rfl⟩
              · have HPP := Lib.hid (Pth.parseP_at hj1 (by omega) HN.out (ref_some' hj1 (by omega) HA.out HBB.out hg))
                have c0 : w1.cell? ⟨w.heap.size, 0, none⟩ = some (.int .i64 0) := B1.out.cell 0
                have c1 : w1.cell? ⟨w.heap.size, 1, none⟩ = some (.int .u64 0) := B1.out.cell 1
                have c2 : w1.cell? ⟨w.heap.size, 2, none⟩ = some (.int .u64 0) := B1.out.cell 2
                have f0 := B1.out.frozen 0
                have f1 := B1.out.frozen 1
                have f2 := B1.out.frozen 2
                clear PA hg
                go_wp2_with fail
                refine bodyPost_ret (v := .tuple #[.agg #[.int .i64 j, .int .u64 n, .int .u64 0], .int .i64 0]) (by simp [results, Tryd.results13, go_sem, c0, c1, c2]) rfl ⟨.inl ⟨j, n, 0, HPP.out, rfl⟩, ?_⟩
                exact ((hbel1.setCell (p := ⟨w.heap.size, 0, none⟩) (Nat.le_refl _) (.int .i64 j)).setCell (p := ⟨w.heap.size, 1, none⟩) (Nat.le_refl _) (.int .u64 n)).setCell (p := ⟨w.heap.size, 2, none⟩) (Nat.le_refl _) (.int .u64 0)
              · have HNO0 : Hid (Pth.parseK j s.data.toList = none) := Lib.hid (ref_none' hj1 (by omega) HA.out HBB.out (fun h => hg h.2))
                clear PA hg
                have HNO : Hid (Pth.parseK j s.data.toList = none) := Lib.hid (HNO0.out)
                go_wp2_with fail
                go_roundg (9 - (j + 1))
                case measure => rw [HC.out]; omega
                case rel => exact ⟨j + 1, by omega, by omega, rfl, rfl, hbel1, B1.out, hsz1, fun k hk hkj => by
                  by_cases h : k = j
                  · subst h; exact HNO.out
                  · exact HN.out k hk (by omega)⟩
              · have HNO0 : Hid (Pth.parseK j s.data.toList = none) := Lib.hid (ref_none' hj1 (by omega) HA.out HBB.out (fun h => hg h.2))
                clear PA hg
                have HNO : Hid (Pth.parseK j s.data.toList = none) := Lib.hid (HNO0.out)
                go_wp2_with fail
                go_roundg (9 - (j + 1))
                case measure => rw [HC.out]; omega
                case rel => exact ⟨j + 1, by omega, by omega, rfl, rfl, hbel1, B1.out, hsz1, fun k hk hkj => by
                  by_cases h : k = j
                  · subst h; exact HNO.out
                  · exact HN.out k hk (by omega)⟩
            | true =>
              by_cases hle : ah.length + D.length + be.length < s.size
              · rcases hsg : ((s.extract (ah.length + D.length) (ah.length + D.length + be.length)).toList == be) with _ | _
                · have HBB : Hid (Pth.refB j s.data.toList = 0) := Lib.hid (refB_no (by rw [refC_eq HF.out HA.out HD.out, sign_eq hsg]; simp))
                  go_wp2_with fail
                  refine (rpprint_three j n 0 s _ _ rfl hj1 (by omega) hn (by omega)).mono ?_
                  rintro r w1 ⟨pa, hb1⟩
                  have hsz1 : w.heap.size < w1.heap.size := by have := hb1.size; simp at this; omega
                  have hblk1 : Blk w1 w.heap.size 24 #[.int .i64 0, .int .u64 0, .int .u64 0] := (hb1.block _ (by simp; omega)).trans ((Below.heap_alloc _ _ _ hsz).trans HB.out)
                  have hbel1 : Below w.heap.size w w1 := (hbel.alloc hbel.size _).trans (hb1.mono (by simp; omega))
                  obtain ⟨p0, p1, p2, p3⟩ := ((Blk.new wr 24 #[.int .i64 j, .int .u64 n, .int .u64 0]).below hb1).three
                  have B1 := Lib.hid hblk1
                  have PA := Lib.hid pa
                  clear hb1 hblk1 pa
                  rcases PA.out with ⟨hg, rfl⟩ | ⟨hg, t, rfl, ht⟩ | ⟨hg, rfl⟩
                  · have HPP := Lib.hid (Pth.parseP_at hj1 (by omega) HN.out (ref_some' hj1 (by omega) HA.out HBB.out hg))
                    have c0 : w1.cell? ⟨w.heap.size, 0, none⟩ = some (.int .i64 0) := B1.out.cell 0
                    have c1 : w1.cell? ⟨w.heap.size, 1, none⟩ = some (.int .u64 0) := B1.out.cell 1
                    have c2 : w1.cell? ⟨w.heap.size, 2, none⟩ = some (.int .u64 0) := B1.out.cell 2
                    have f0 := B1.out.frozen 0
                    have f1 := B1.out.frozen 1
                    have f2 := B1.out.frozen 2
                    clear PA hg
                    go_wp2_with fail
                    refine bodyPost_ret (v := .tuple #[.agg #[.int .i64 j, .int .u64 n, .int .u64 0], .int .i64 0]) (by simp [results, Tryd.results13, go_sem, c0, c1, c2]) rfl ⟨.inl ⟨j, n, 0, HPP.out, rfl⟩, ?_⟩
                    exact ((hbel1.setCell (p := ⟨w.heap.size, 0, none⟩) (Nat.le_refl _) (.int .i64 j)).setCell (p := ⟨w.heap.size, 1, none⟩) (Nat.le_refl _) (.int .u64 n)).setCell (p := ⟨w.heap.size, 2, none⟩) (Nat.le_refl _) (.int .u64 0)
                  · have HNO0 : Hid (Pth.parseK j s.data.toList = none) := Lib.hid (ref_none' hj1 (by omega) HA.out HBB.out (fun h => hg h.2))
                    clear PA hg
                    have HNO : Hid (Pth.parseK j s.data.toList = none) := Lib.hid (HNO0.out)
                    go_wp2_with fail
                    go_roundg (9 - (j + 1))
                    case measure => rw [HC.out]; omega
                    case rel => exact ⟨j + 1, by omega, by omega, rfl, rfl, hbel1, B1.out, hsz1, fun k hk hkj => by
                      by_cases h : k = j
                      · subst h; exact HNO.out
                      · exact HN.out k hk (by omega)⟩
                  · have HNO0 : Hid (Pth.parseK j s.data.toList = none) := Lib.hid (ref_none' hj1 (by omega) HA.out HBB.out (fun h => hg h.2))
                    clear PA hg
                    have HNO : Hid (Pth.parseK j s.data.toList = none) := Lib.hid (HNO0.out)
                    go_wp2_with fail
                    go_roundg (9 - (j + 1))
                    case measure => rw [HC.out]; omega
                    case rel => exact ⟨j + 1, by omega, by omega, rfl, rfl, hbel1, B1.out, hsz1, fun k hk hkj => by
                      by_cases h : k = j
                      · subst h; exact HNO.out
                      · exact HN.out k hk (by omega)⟩
                · obtain ⟨D2, hD2⟩ : ∃ D2, Pth.digs (s.data.toList.drop (ah.length + D.length + be.length)) = D2 := ⟨_, rfl⟩
                  obtain ⟨m, e2, hp2⟩ : ∃ m e2, Amt.parse D2 = (m, e2) := ⟨_, _, rfl⟩
                  have hm : m < 18446744073709551616 := by have := Pth.parse_lt D2; rwa [hp2] at this
                  have HBB : Hid (Pth.refB j s.data.toList = m) := Lib.hid (refB_yes HF.out HD.out (by
                    rw [refC_eq HF.out HA.out HD.out, sign_eq hsg, decide_eq_true (p := be.length < _) (by rw [len_data]; omega)]; rfl) hD2 hp2)
                  have HD2 := Lib.hid hD2
                  have HP2 := Lib.hid hp2
                  clear hD2 hp2
                  go_wp2_with fail
                  refine (number_is s _ (ah.length + D.length + be.length) (Lib.hid (by omega)) D2 HD2 m e2 HP2 (by omega) hs _).mono ?_
                  rintro r w1 ⟨rfl, rfl⟩
                  go_wp2_with fail
                  refine (rpprint_three j n m s _ _ rfl hj1 (by omega) hn (by omega)).mono ?_
                  rintro r w1 ⟨pa, hb1⟩
                  have hsz1 : w.heap.size < w1.heap.size := by have := hb1.size; simp at this; omega
                  have hblk1 : Blk w1 w.heap.size 24 #[.int .i64 0, .int .u64 0, .int .u64 0] := (hb1.block _ (by simp; omega)).trans ((Below.heap_alloc _ _ _ hsz).trans HB.out)
                  have hbel1 : Below w.heap.size w w1 := (hbel.alloc hbel.size _).trans (hb1.mono (by simp; omega))
                  obtain ⟨p0, p1, p2, p3⟩ := ((Blk.new wr 24 #[.int .i64 j, .int .u64 n, .int .u64 m]).below hb1).three
                  have B1 := Lib.hid hblk1
                  have PA := Lib.hid pa
                  clear hb1 hblk1 pa
                  rcases PA.out with ⟨hg, rfl⟩ | ⟨hg, t, rfl, ht⟩ | ⟨hg, rfl⟩
                  · have HPP := Lib.hid (Pth.parseP_at hj1 (by omega) HN.out (ref_some' hj1 (by omega) HA.out HBB.out hg))
                    have c0 : w1.cell? ⟨w.heap.size, 0, none⟩ = some (.int .i64 0) := B1.out.cell 0
                    have c1 : w1.cell? ⟨w.heap.size, 1, none⟩ = some (.int .u64 0) := B1.out.cell 1
                    have c2 : w1.cell? ⟨w.heap.size, 2, none⟩ = some (.int .u64 0) := B1.out.cell 2
                    have f0 := B1.out.frozen 0
                    have f1 := B1.out.frozen 1
                    have f2 := B1.out.frozen 2
                    clear PA hg
                    go_wp2_with fail
                    refine bodyPost_ret (v := .tuple #[.agg #[.int .i64 j, .int .u64 n, .int .u64 m], .int .i64 0]) (by simp [results, Tryd.results13, go_sem, c0, c1, c2]) rfl ⟨.inl ⟨j, n, m, HPP.out, rfl⟩, ?_⟩
                    exact ((hbel1.setCell (p := ⟨w.heap.size, 0, none⟩) (Nat.le_refl _) (.int .i64 j)).setCell (p := ⟨w.heap.size, 1, none⟩) (Nat.le_refl _) (.int .u64 n)).setCell (p := ⟨w.heap.size, 2, none⟩) (Nat.le_refl _) (.int .u64 m)
                  · have HNO0 : Hid (Pth.parseK j s.data.toList = none) := Lib.hid (ref_none' hj1 (by omega) HA.out HBB.out (fun h => hg h.2))
                    clear PA hg
                    have HNO : Hid (Pth.parseK j s.data.toList = none) := Lib.hid (HNO0.out)
                    go_wp2_with fail
                    go_roundg (9 - (j + 1))
                    case measure => rw [HC.out]; omega
                    case rel => exact ⟨j + 1, by omega, by omega, rfl, rfl, hbel1, B1.out, hsz1, fun k hk hkj => by
                      by_cases h : k = j
                      · subst h; exact HNO.out
                      · exact HN.out k hk (by omega)⟩
                  · have HNO0 : Hid (Pth.parseK j s.data.toList = none) := Lib.hid (ref_none' hj1 (by omega) HA.out HBB.out (fun h => hg h.2))
                    clear PA hg
                    have HNO : Hid (Pth.parseK j s.data.toList = none) := Lib.hid (HNO0.out)
                    go_wp2_with fail
                    go_roundg (9 - (j + 1))
                    case measure => rw [HC.out]; omega
                    case rel => exact ⟨j + 1, by omega, by omega, rfl, rfl, hbel1, B1.out, hsz1, fun k hk hkj => by
                      by_cases h : k = j
                      · subst h; exact HNO.out
                      · exact HN.out k hk (by omega)⟩
              · have HBB : Hid (Pth.refB j s.data.toList = 0) := Lib.hid (refB_no (by rw [refC_eq HF.out HA.out HD.out, decide_eq_false (p := be.length < _) (by rw [len_data]; omega)]; simp))
                go_wp2_with fail
                refine (rpprint_three j n 0 s _ _ rfl hj1 (by omega) hn (by omega)).mono ?_
                rintro r w1 ⟨pa, hb1⟩
                have hsz1 : w.heap.size < w1.heap.size := by have := hb1.size; simp at this; omega
                have hblk1 : Blk w1 w.heap.size 24 #[.int .i64 0, .int .u64 0, .int .u64 0] := (hb1.block _ (by simp; omega)).trans ((Below.heap_alloc _ _ _ hsz).trans HB.out)
                have hbel1 : Below w.heap.size w w1 := (hbel.alloc hbel.size _).trans (hb1.mono (by simp; omega))
                obtain ⟨p0, p1, p2, p3⟩ := ((Blk.new wr 24 #[.int .i64 j, .int .u64 n, .int .u64 0]).below hb1).three
                have B1 := Lib.hid hblk1
                have PA := Lib.hid pa
                clear hb1 hblk1 pa
                rcases PA.out with ⟨hg, rfl⟩ | ⟨hg, t, rfl, ht⟩ | ⟨hg, rfl⟩
                · have HPP := Lib.hid (Pth.parseP_at hj1 (by omega) HN.out (ref_some' hj1 (by omega) HA.out HBB.out hg))
                  have c0 : w1.cell? ⟨w.heap.size, 0, none⟩ = some (.int .i64 0) := B1.out.cell 0
                  have c1 : w1.cell? ⟨w.heap.size, 1, none⟩ = some (.int .u64 0) := B1.out.cell 1
                  have c2 : w1.cell? ⟨w.heap.size, 2, none⟩ = some (.int .u64 0) := B1.out.cell 2
                  have f0 := B1.out.frozen 0
                  have f1 := B1.out.frozen 1
                  have f2 := B1.out.frozen 2
                  clear PA hg
                  go_wp2_with fail
                  refine bodyPost_ret (v := .tuple #[.agg #[.int .i64 j, .int .u64 n, .int .u64 0], .int .i64 0]) (by simp [results, Tryd.results13, go_sem, c0, c1, c2]) rfl ⟨.inl ⟨j, n, 0, HPP.out, rfl⟩, ?_⟩
                  exact ((hbel1.setCell (p := ⟨w.heap.size, 0, none⟩) (Nat.le_refl _) (.int .i64 j)).setCell (p := ⟨w.heap.size, 1, none⟩) (Nat.le_refl _) (.int .u64 n)).setCell (p := ⟨w.heap.size, 2, none⟩) (Nat.le_refl _) (.int .u64 0)
                · have HNO0 : Hid (Pth.parseK j s.data.toList = none) := Lib.hid (ref_none' hj1 (by omega) HA.out HBB.out (fun h => hg h.2))
                  clear PA hg
                  have HNO : Hid (Pth.parseK j s.data.toList = none) := Lib.hid (HNO0.out)
                  go_wp2_with fail
                  go_roundg (9 - (j + 1))
                  case measure => rw [HC.out]; omega
                  case rel => exact ⟨j + 1, by omega, by omega, rfl, rfl, hbel1, B1.out, hsz1, fun k hk hkj => by
                    by_cases h : k = j
                    · subst h; exact HNO.out
                    · exact HN.out k hk (by omega)⟩
                · have HNO0 : Hid (Pth.parseK j s.data.toList = none) := Lib.hid (ref_none' hj1 (by omega) HA.out HBB.out (fun h => hg h.2))
                  clear PA hg
                  have HNO : Hid (Pth.parseK j s.data.toList = none) := Lib.hid (HNO0.out)
                  go_wp2_with fail
                  go_roundg (9 - (j + 1))
                  case measure => rw [HC.out]; omega
                  case rel => exact ⟨j + 1, by omega, by omega, rfl, rfl, hbel1, B1.out, hsz1, fun k hk hkj => by
                    by_cases h : k = j
                    · subst h; exact HNO.out
                    · exact HN.out k hk (by omega)⟩
    · obtain rfl : j = 9 := by omega
      have HP := Lib.hid (Pth.parseP_none HN.out)
      have hblk1 : Blk wr w.heap.size 24 #[.int .i64 0, .int .u64 0, .int .u64 0] := HB.out
      have c0 : wr.cell? ⟨w.heap.size, 0, none⟩ = some (.int .i64 0) := hblk1.cell 0
      have c1 : wr.cell? ⟨w.heap.size, 1, none⟩ = some (.int .u64 0) := hblk1.cell 1
      have c2 : wr.cell? ⟨w.heap.size, 2, none⟩ = some (.int .u64 0) := hblk1.cell 2
      have f0 := hblk1.frozen 0
      have f1 := hblk1.frozen 1
      have f2 := hblk1.frozen 2
      have HBK := Lib.hid hblk1
      clear hblk1
      go_wp2_with fail
      refine bodyPost_ret (v := .tuple #[.agg #[.int .i64 0, .int .u64 0, .int .u64 0], .int .i64 40]) (by simp [results, Tryd.results13, go_sem, c0, c1, c2]) rfl ⟨.inr ⟨HP.out, rfl⟩, ?_⟩
      exact ((hbel.setCell (p := ⟨w.heap.size, 0, none⟩) (Nat.le_refl _) _).setCell (p := ⟨w.heap.size, 1, none⟩) (Nat.le_refl _) _).setCell (p := ⟨w.heap.size, 2, none⟩) (Nat.le_refl _) _
end Go.Proofs.YtmhboacfnklbgaaDoor
