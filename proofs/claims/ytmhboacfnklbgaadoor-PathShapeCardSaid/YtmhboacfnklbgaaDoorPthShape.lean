/-
  The walk of PathShape.
-/
import Derived.Test.YtmhboacfnklbgaaDoorPthBack
import Derived.Test.YtmhboacfnklbgaaDoorAmtRefP
namespace Go.Proofs.YtmhboacfnklbgaaDoor
open Go.RowKit
set_option linter.unusedVariables false

/-- how many slashes -/
def sl (l : List UInt8) : Nat := (l.filter (· == 47)).length
theorem sl_snoc (l : List UInt8) (c : UInt8) : sl (l ++ [c]) = sl l + if (c.toNat : Int) = 47 then 1 else 0 := by
  unfold sl
  rw [List.filter_append, List.length_append]
  by_cases h : c = 47
  · subst h; simp
  · have : ¬ (c.toNat : Int) = 47 := fun e => h (UInt8.toNat_inj.1 (by simp; omega))
    simp [h, this]
theorem sl_le (l : List UInt8) : sl l ≤ l.length := List.length_filter_le _ _
theorem sl_app (l r : List UInt8) : sl (l ++ r) = sl l + sl r := by simp [sl]
theorem sl_dec (n : Nat) : sl (Amt.dec n) = 0 := by
  unfold sl
  rw [List.length_eq_zero_iff, List.filter_eq_nil_iff]
  intro c hc
  have h := Amt.all_dec n
  rw [List.all_eq_true] at h
  have := Amt.dig_bounds (h c hc)
  intro e
  have : c = 47 := by simpa using e
  subst this
  simp at *
theorem sl_text (k a b : Nat) : sl (Pth.text k a b) = sl (Pth.fm k).1 + sl (Pth.fm k).2.1 := by
  unfold Pth.text
  rw [sl_app, sl_app, sl_app, sl_dec]
  have : sl (Pth.tail k b) = 0 := by unfold Pth.tail; split; exact sl_dec b; rfl
  omega

theorem ext_list (s : ByteArray) (a b : Nat) : (s.extract a b).toList = (s.data.toList.drop a).take (b - a) := by
  rw [ByteArray.toList_eq]
  simp
def SlRel (s : ByteArray) (c : Nat) (n i : Value) : Prop := ∃ j : Nat, j ≤ s.size ∧ c = s.size - j ∧ i = .int .i64 j ∧ n = .int .i64 (sl (s.data.toList.take j) : Nat)
theorem word_cell (k : Nat) (h1 : 1 ≤ k) (h8 : k ≤ 8) (W : World) : (W.alloc (.cells #[.string ⟨#[99, 108, 105, 101, 110, 116, 115, 47]⟩, .string ⟨#[99, 108, 105, 101, 110, 116, 115, 47]⟩, .string ⟨#[99, 111, 110, 110, 101, 99, 116, 105, 111, 110, 115, 47]⟩, .string ⟨#[99, 104, 97, 110, 110, 101, 108, 69, 110, 100, 115, 47, 99, 104, 97, 110, 110, 101, 108, 115, 47]⟩, .string ⟨#[99, 111, 109, 109, 105, 116, 109, 101, 110, 116, 115, 47, 99, 104, 97, 110, 110, 101, 108, 115, 47]⟩, .string ⟨#[114, 101, 99, 101, 105, 112, 116, 115, 47, 99, 104, 97, 110, 110, 101, 108, 115, 47]⟩, .string ⟨#[97, 99, 107, 115, 47, 99, 104, 97, 110, 110, 101, 108, 115, 47]⟩, .string ⟨#[110, 101, 120, 116, 83, 101, 113, 117, 101, 110, 99, 101, 82, 101, 99, 118, 47, 99, 104, 97, 110, 110, 101, 108, 115, 47]⟩] 9)).cell? ⟨W.heap.size, k - 1, none⟩ = some (.string ⟨(Pth.fm k).1.toArray⟩) := by
  have hc : k = 1 ∨ k = 2 ∨ k = 3 ∨ k = 4 ∨ k = 5 ∨ k = 6 ∨ k = 7 ∨ k = 8 := by omega
  rcases hc with rfl | rfl | rfl | rfl | rfl | rfl | rfl | rfl <;> simp [Pth.fm]
theorem num_cell (k : Nat) (h1 : 1 ≤ k) (h8 : k ≤ 8) (W : World) : (W.alloc (.cells #[.int .i64 2, .int .i64 3, .int .i64 1, .int .i64 2, .int .i64 4, .int .i64 4, .int .i64 4, .int .i64 2] 3)).cell? ⟨W.heap.size, k - 1, none⟩ = some (.int .i64 ((sl (Pth.fm k).1 + sl (Pth.fm k).2.1 : Nat) : Int)) := by
  have hc : k = 1 ∨ k = 2 ∨ k = 3 ∨ k = 4 ∨ k = 5 ∨ k = 6 ∨ k = 7 ∨ k = 8 := by omega
  rcases hc with rfl | rfl | rfl | rfl | rfl | rfl | rfl | rfl <;> simp <;> decide

set_option maxRecDepth 100000 in
set_option maxHeartbeats 1000000 in
theorem shape_core (c1 : Int) (a1 b1 k1 d1 : Nat) (s : ByteArray) (Wd D T : List UInt8) (N : Nat) (w : World) (G : Glob w) (h0 : -9223372036854775808 ≤ c1) (h1 : c1 ≤ 9223372036854775807) (ha : (a1 : Int) ≤ 18446744073709551615)
    (hk1 : Hid (1 + pickN c1 8 = k1)) (hd1 : Hid (fitB k1 b1 = d1)) (R1 : Hid (Pth.Right k1 a1 d1)) (hD : Hid (Amt.dec a1 = D)) (hW : Hid ((Pth.fm k1).1 = Wd)) (HS : Hid (s.data.toList = Wd ++ (D ++ T))) (HX : Hid (s.data.toList = Pth.text k1 a1 d1)) (HN : Hid (sl (Pth.fm k1).1 + sl (Pth.fm k1).2.1 = N)) :
    Calls Tryd.prog 7 #[.agg #[.int .i64 c1, .int .u64 a1, .int .u64 b1]] w fun e w' => e = .returned (.bool true) ∧ Below w.heap.size w w' := by
  have f1 := fun W => fit_is c1 a1 b1 h0 h1 W
  rw [hk1.out, hd1.out] at f1
  have F1 := Lib.hid f1
  have p1 := fun W G => pprint_text k1 a1 d1 R1.out W G
  have hse : (⟨(Pth.text k1 a1 d1).toArray⟩ : ByteArray) = s := by rw [← HX.out]
  rw [hse] at p1
  have P1 := Lib.hid p1
  clear f1 p1 hse
  have HG := Lib.hid G
  clear G
  obtain ⟨r1, r8, _, _, _⟩ := R1.out
  have hwc := word_cell k1 r1 r8
  have hnc := num_cell k1 r1 r8
  rw [hW.out] at hwc
  rw [HN.out] at hnc
  have hlen := len_data s
  have hsz : s.size ≤ 83 := by rw [← hlen, HX.out]; exact Pth.text_len R1.out
  have hsl := sl_text k1 a1 d1
  rw [← HX.out, HN.out] at hsl
  have hDl := Amt.dec_len_le a1 (by omega)
  rw [hD.out] at hDl
  have hWl : Wd.length + D.length ≤ s.size := by rw [← hlen, HS.out]; simp
  have HSL := Lib.hid hsl
  have HLEN := Lib.hid hlen
  clear hsl hlen
  have dp : Hid (∀ W : World, Calls Tryd.prog 16 #[.int .u64 a1] W fun r W' => r = .returned (.string ⟨D.toArray⟩) ∧ Below W.heap.size W W') := Lib.hid fun W => (rprint_any a1 W (by omega) ha).mono fun _ _ ⟨he, hb⟩ => ⟨by rw [he, Int.toNat_natCast, hD.out], hb⟩
  go_enter Tryd.func7, Tryd.ntmps7
  go_wp2_with fail
  have O0 := Lib.hid (Blk.new w 24 #[.int .i64 c1, .int .u64 a1, .int .u64 b1])
  refine (awake_ok _ (HG.out.below (balloc (Below.refl _ _) _))).mono ?_
  rintro e w1 ⟨rfl, hb1⟩
  have B1 := Lib.hid (bstep (balloc (Below.refl _ w) _) hb1)
  obtain ⟨q0, q1, q2, q3⟩ := (O0.out.below hb1).three
  clear hb1 O0
  go_wp2_with fail
  refine (F1.out _).mono ?_
  rintro e w2 ⟨rfl, hb2⟩
  have B2 := Lib.hid (balloc (bstep B1.out hb2) (.cells #[.int .i64 k1, .int .u64 a1, .int .u64 d1] 24))
  clear hb2 B1 q0 q1 q2 q3
  have A2 := Lib.hid (Blk.new w2 24 #[.int .i64 k1, .int .u64 a1, .int .u64 d1])
  go_wp2_with fail
  refine (P1.out _ (HG.out.below B2.out)).mono ?_
  rintro e w3 ⟨rfl, hb3⟩
  have B3 := Lib.hid (bstep B2.out hb3)
  have A3 := Lib.hid (A2.out.below hb3)
  obtain ⟨q0, q1, q2, q3⟩ := A3.out.three
  clear hb3 B2 A2
  go_wp2_with fail
  refine (dp.out _).mono ?_
  rintro e w4 ⟨rfl, hb4⟩
  have B4 := Lib.hid (bstep (balloc B3.out _) hb4)
  have A4 := Lib.hid ((A3.out.alloc _).below hb4)
  clear hb4 B3 A3 q0 q1 q2 q3
  have e1 : ((s.extract 0 Wd.length).toList == Wd) = true := by
    rw [ext_list, HS.out]; simp
  have e2 : ((s.extract Wd.length (Wd.length + D.length)).toList == D) = true := by
    rw [ext_list, HS.out]; simp
  have e3 : (Wd.length : Int) + D.length ≤ s.size := by omega
  have e4 : Wd.length ≤ s.size := by omega
  go_wp2_with fail
  clear e1 e2
  go_loopg [9, 10] s.size (fun c n i wr => SlRel s c n i ∧ w4 = wr)
  case atStart => exact ⟨⟨0, by omega, by omega, rfl, by simp [sl]⟩, rfl⟩
  case round =>
    obtain ⟨⟨j, hj, hc, rfl, rfl⟩, rfl⟩ := hrel
    have HC := Lib.hid hc
    clear hc
    have hb := sl_le (s.data.toList.take j)
    have hb2 : (s.data.toList.take j).length ≤ 83 := by have := List.length_take_le' j s.data.toList; rw [HLEN.out] at this; omega
    by_cases hlt : j < s.size
    · have hts : Hid (sl (s.data.toList.take (j + 1)) = sl (s.data.toList.take j) + if (s[j].toNat : Int) = 47 then 1 else 0) := by rw [take_snoc s j hlt]; exact Lib.hid (sl_snoc _ _)
      generalize hM : sl (s.data.toList.take j) = M at *
      have HM := Lib.hid hM
      clear hM
      by_cases h47 : (s[j].toNat : Int) = 47
      · have t1 : ((s[j].toNat : Int) == 47) = true := by simp [h47]
        have H47 := Lib.hid h47
        clear h47
        go_wp2_with fail
        go_roundg (s.size - (j + 1))
        case measure => rw [HC.out]; omega
        case rel => exact ⟨⟨j + 1, by omega, rfl, rfl, by rw [hts.out, if_pos H47.out]; rfl⟩, rfl⟩
      · have t1 : ((s[j].toNat : Int) == 47) = false := by rw [beq_eq_false_iff_ne]; exact h47
        have H47 := Lib.hid h47
        clear h47
        go_wp2_with fail
        go_roundg (s.size - (j + 1))
        case measure => rw [HC.out]; omega
        case rel => exact ⟨⟨j + 1, by omega, rfl, rfl, by rw [hts.out, if_neg H47.out]; rfl⟩, rfl⟩
    · obtain rfl : j = s.size := by omega
      have hfin : sl (s.data.toList.take s.size) = N := by rw [take_all]; exact HSL.out
      rw [hfin] at hb ⊢
      obtain ⟨q0, q1, q2, q3⟩ := A4.out.three
      go_wp2_with fail
      go_ret
      exact ⟨rfl, balloc B4.out _⟩

theorem shape_walk (c1 a1 b1 : Int) (v1 : (Lit.int .i64 c1).wf = true) (v2 : (Lit.int .u64 a1).wf = true) (v3 : (Lit.int .u64 b1).wf = true) (w : World) (G : Glob w) :
    Calls Tryd.prog 7 #[.agg #[.int .i64 c1, .int .u64 a1, .int .u64 b1]] w fun e w' => e = .returned (.bool true) ∧ Below w.heap.size w w' := by
  obtain ⟨h0, h1⟩ := bounds_i64 v1
  obtain ⟨x0, x1⟩ := bounds_u64 v2
  obtain ⟨x2, x3⟩ := bounds_u64 v3
  obtain ⟨A1, rfl⟩ := Int.eq_ofNat_of_zero_le x0
  obtain ⟨B1, rfl⟩ := Int.eq_ofNat_of_zero_le x2
  have R1 := fit_right c1 A1 B1 (by omega) (by omega)
  exact shape_core c1 A1 B1 _ _ ⟨(Pth.text _ A1 _).toArray⟩ _ _ _ _ w G h0 h1 x1 (Lib.hid rfl) (Lib.hid rfl) (Lib.hid R1) (Lib.hid rfl) (Lib.hid rfl) (Lib.hid rfl) (Lib.hid rfl) (Lib.hid rfl)
end Go.Proofs.YtmhboacfnklbgaaDoor
