/-
  The walks of the document's own forms, Print, number and Parse (voussoirref04).
-/
import Derived.Test.YtmhboacfnklbgaaDoorPthBack
import Derived.Test.YtmhboacfnklbgaaDoorAmtRefQ
import Derived.Test.YtmhboacfnklbgaaDoorPthRefMath
namespace Go.Proofs.YtmhboacfnklbgaaDoor
open Go.RowKit
set_option linter.unusedVariables false

set_option maxHeartbeats 1000000 in
theorem rforms_is (k : Nat) (h1 : 1 ≤ k) (h8 : k ≤ 8) (w : World) :
    Calls Tryd.prog 18 #[.int .i64 k] w fun e w' => e = .returned (.tuple #[.string ⟨(Pth.fm k).1.toArray⟩, .string ⟨(Pth.fm k).2.1.toArray⟩, .bool (Pth.fm k).2.2]) ∧ w = w' := by
  have hc : k = 1 ∨ k = 2 ∨ k = 3 ∨ k = 4 ∨ k = 5 ∨ k = 6 ∨ k = 7 ∨ k = 8 := by omega
  rcases hc with rfl | rfl | rfl | rfl | rfl | rfl | rfl | rfl
  all_goals
    go_enter Tryd.func18, Tryd.ntmps18
    go_wp2
    go_ret3
    exact ⟨rfl, rfl⟩
set_option maxHeartbeats 1000000 in
theorem rforms_no (k : Int) (h : k < 1 ∨ 8 < k) (w : World) :
    Calls Tryd.prog 18 #[.int .i64 k] w fun e w' => e = .returned (.tuple #[.string ⟨#[]⟩, .string ⟨#[]⟩, .bool false]) ∧ w = w' := by
  have e1 : (k == 1) = false := beq_eq_false_iff_ne.2 (by omega)
  have e2 : (k == 2) = false := beq_eq_false_iff_ne.2 (by omega)
  have e3 : (k == 3) = false := beq_eq_false_iff_ne.2 (by omega)
  have e4 : (k == 4) = false := beq_eq_false_iff_ne.2 (by omega)
  have e5 : (k == 5) = false := beq_eq_false_iff_ne.2 (by omega)
  have e6 : (k == 6) = false := beq_eq_false_iff_ne.2 (by omega)
  have e7 : (k == 7) = false := beq_eq_false_iff_ne.2 (by omega)
  have e8 : (k == 8) = false := beq_eq_false_iff_ne.2 (by omega)
  clear h
  go_enter Tryd.func18, Tryd.ntmps18
  go_wp2
  go_ret3
  exact ⟨rfl, rfl⟩

theorem rprint_d (n : Int) (X : List UInt8) (h : Hid (Amt.dec n.toNat = X)) (w : World) (h0 : 0 ≤ n) (h1 : n ≤ 18446744073709551615) :
    Calls Tryd.prog 16 #[.int .u64 n] w fun r w' => r = .returned (.string ⟨X.toArray⟩) ∧ Below w.heap.size w w' :=
  (rprint_any n w h0 h1).mono fun _ _ ⟨he, hw⟩ => ⟨by rw [he, h.out], hw⟩

set_option maxHeartbeats 1000000 in
theorem rpprint_bad (k a b : Int) (w : World) (h : k < 1 ∨ 8 < k) :
    Calls Tryd.prog 11 #[.agg #[.int .i64 k, .int .u64 a, .int .u64 b]] w fun e w' => e = .returned (.tuple #[.string ⟨#[]⟩, .int .i64 40]) ∧ Below w.heap.size w w' := by
  have HH := Lib.hid h
  clear h
  go_enter Tryd.func11, Tryd.ntmps11
  go_wp2_with fail
  refine (rforms_no k HH.out _).mono ?_
  rintro e w1 ⟨rfl, rfl⟩
  go_wp2_with fail
  go_ret2
  exact ⟨rfl, (Below.refl _ _).alloc (Nat.le_refl _) _⟩

set_option maxHeartbeats 1000000 in
theorem rpprint_good (k : Nat) (a b : Int) (w : World) (h1 : 1 ≤ k) (h8 : k ≤ 8) (a0 : 0 ≤ a) (a1 : a ≤ 18446744073709551615) (b0 : 0 ≤ b) (b1 : b ≤ 18446744073709551615) :
    Calls Tryd.prog 11 #[.agg #[.int .i64 k, .int .u64 a, .int .u64 b]] w fun e w' => PrintAns k a b e ∧ Below w.heap.size w w' := by
  have hl := Pth.fm_len h1 h8
  have HT : Hid (Pth.text k a.toNat b.toNat = (Pth.fm k).1 ++ Amt.dec a.toNat ++ (Pth.fm k).2.1 ++ Pth.tail k b.toNat) := Lib.hid (by simp [Pth.text])
  have HTl : Hid (Pth.tail k b.toNat = if (Pth.fm k).2.2 then Amt.dec b.toNat else []) := Lib.hid rfl
  have fo := rforms_is k h1 h8
  have hne : (Pth.fm k).1.isEmpty = false := Pth.kinds h1 h8 (P := fun k => (Pth.fm k).1.isEmpty = false) (by decide)
  obtain ⟨ah, be, two, hf⟩ : ∃ ah be two, Pth.fm k = (ah, be, two) := ⟨_, _, _, rfl⟩
  rw [hf] at hl HT HTl fo hne
  have HF := Lib.hid hf
  simp only at hl HT HTl fo hne
  have FO := Lib.hid fo
  clear hf fo
  obtain ⟨hla, hlb⟩ := hl
  have hx := Amt.dec_len_le a.toNat (by omega)
  have hy := Amt.dec_len_le b.toNat (by omega)
  obtain ⟨X, hX⟩ : ∃ X, Amt.dec a.toNat = X := ⟨_, rfl⟩
  obtain ⟨Y, hY⟩ : ∃ Y, Amt.dec b.toNat = Y := ⟨_, rfl⟩
  rw [hX] at hx HT
  rw [hY] at hy HTl
  have HX := Lib.hid hX
  have HY := Lib.hid hY
  clear hX hY
  have HZ : Hid (b = 0 ∨ b ≠ 0) := Lib.hid (by omega)
  cases two with
  | true =>
    simp only [if_true] at HTl
    have HR : Hid (Pth.text k a.toNat b.toNat = ah ++ X ++ be ++ Y) := Lib.hid (by rw [HT.out, HTl.out])
    clear HT HTl
    go_enter Tryd.func11, Tryd.ntmps11
    go_wp2_with fail
    refine (FO.out _).mono ?_
    rintro e w1 ⟨rfl, rfl⟩
    go_wp2_with fail
    refine (rprint_d a X HX _ a0 a1).mono ?_
    rintro e w1 ⟨rfl, hb1⟩
    obtain ⟨q0, q1, q2, q3⟩ := ((Blk.new w 24 #[.int .i64 k, .int .u64 a, .int .u64 b]).below hb1).three
    have B1 := Lib.hid (bstep (balloc (Below.refl _ w) _) hb1)
    clear hb1
    go_wp2_with fail
    refine (rprint_d b Y HY _ b0 b1).mono ?_
    rintro e w2 ⟨rfl, hb2⟩
    have B2 := Lib.hid (bstep B1.out hb2)
    clear hb2
    go_wp2_with fail
    go_ret2
    refine ⟨.inl ⟨.inl (by rw [HF.out]), ?_⟩, B2.out⟩
    rw [HR.out, ← cat2, ← cat2, ← cat2]
    rfl
  | false =>
    simp only [Bool.false_eq_true, if_false] at HTl
    have HR : Hid (Pth.text k a.toNat b.toNat = ah ++ X ++ be) := Lib.hid (by rw [HT.out, HTl.out, List.append_nil])
    clear HT HTl
    rcases HZ.out with hb0 | hb0
    · have t3 : (b != 0) = false := by simp [hb0]
      have H0 := Lib.hid hb0
      clear hb0 HZ
      go_enter Tryd.func11, Tryd.ntmps11
      go_wp2_with fail
      refine (FO.out _).mono ?_
      rintro e w1 ⟨rfl, rfl⟩
      go_wp2_with fail
      refine (rprint_d a X HX _ a0 a1).mono ?_
      rintro e w1 ⟨rfl, hb1⟩
      have B1 := Lib.hid (bstep (balloc (Below.refl _ w) _) hb1)
      clear hb1
      go_wp2_with fail
      go_ret2
      refine ⟨.inl ⟨.inr H0.out, ?_⟩, B1.out⟩
      rw [HR.out, ← cat2, ← cat2]
      rfl
    · have t3 : (b != 0) = true := by simpa using hb0
      have H0 := Lib.hid hb0
      clear hb0 HZ
      go_enter Tryd.func11, Tryd.ntmps11
      go_wp2_with fail
      refine (FO.out _).mono ?_
      rintro e w1 ⟨rfl, rfl⟩
      go_wp2_with fail
      go_ret2
      exact ⟨.inr ⟨by rw [HF.out]; simpa using H0.out, rfl⟩, balloc (Below.refl _ _) _⟩

def NumRel (s : ByteArray) (at_ : Nat) (D : List UInt8) (c : Nat) (i : Value) : Prop := ∃ j : Nat, j ≤ D.length ∧ c = D.length - j ∧ i = .int .i64 ((at_ + j : Nat) : Int)
theorem dig_in {s : ByteArray} {at_ j : Nat} {D : List UInt8} (hD : Pth.digs (s.data.toList.drop at_) = D) (hat : at_ ≤ s.size) (hj : j < D.length) (hlt : at_ + j < s.size) : 48 ≤ s[at_ + j].toNat ∧ s[at_ + j].toNat ≤ 57 := by
  have hp : D <+: s.data.toList.drop at_ := by rw [← hD]; exact List.takeWhile_prefix _
  have hm : s[at_ + j] ∈ D := by
    have : D[j]? = (s.data.toList.drop at_)[j]? := by
      obtain ⟨r, hr⟩ := hp
      rw [← hr, List.getElem?_append_left hj]
    rw [List.getElem?_drop] at this
    have h2 : s.data.toList[at_ + j]? = some s[at_ + j] := by simp [ByteArray.getElem_eq_getElem_data]
    rw [h2] at this
    exact List.mem_of_getElem? this
  rw [← hD] at hm
  exact Amt.dig_bounds (List.all_eq_true.1 (List.all_takeWhile) _ hm)
theorem dig_out {s : ByteArray} {at_ : Nat} {D : List UInt8} (hD : Pth.digs (s.data.toList.drop at_) = D) (hlt : at_ + D.length < s.size) : ¬ (48 ≤ s[at_ + D.length].toNat ∧ s[at_ + D.length].toNat ≤ 57) := by
  have hsp := List.takeWhile_append_dropWhile (p := Amt.isDig) (l := s.data.toList.drop at_)
  have hlen := congrArg List.length hsp
  have hl := len_data s
  unfold Pth.digs at hD
  rw [hD] at hsp hlen
  cases hr : (s.data.toList.drop at_).dropWhile Amt.isDig with
  | nil => rw [hr] at hlen; simp at hlen; omega
  | cons c r =>
    have hc : Amt.isDig c = false := by
      have := List.head_dropWhile_not (p := Amt.isDig) (l := s.data.toList.drop at_) (by rw [hr]; simp)
      simpa [hr] using this
    have h2 : (s.data.toList.drop at_)[D.length]? = some c := by rw [← hsp, hr]; simp
    rw [List.getElem?_drop] at h2
    have h3 : s.data.toList[at_ + D.length]? = some s[at_ + D.length] := by simp [ByteArray.getElem_eq_getElem_data]
    rw [h3] at h2
    have : s[at_ + D.length] = c := by simpa using h2
    rw [this]
    intro h
    simp [Amt.isDig] at hc
    omega

theorem rparse_is (s : ByteArray) (n : Nat) (e : Int) (h : Amt.parse s.data.toList = (n, e)) (w : World) (hs : s.size ≤ maxLen) :
    Calls Tryd.prog 25 #[.string s] w fun r w' => r = .returned (.tuple #[.int .u64 (n : Int), .int .i64 e]) ∧ w = w' :=
  (rparse_any s w hs).mono fun _ _ ⟨he, hw⟩ => ⟨by rw [he, h], hw⟩
theorem ext_digs {s : ByteArray} {at_ : Nat} {D : List UInt8} (hD : Pth.digs (s.data.toList.drop at_) = D) : (s.extract at_ (at_ + D.length)).data.toList = D := by
  have h : (s.extract at_ (at_ + D.length)).data.toList = (s.data.toList.drop at_).take (at_ + D.length - at_) := by simp
  rw [h, Nat.add_sub_cancel_left]
  have hp : D <+: s.data.toList.drop at_ := by rw [← hD]; exact List.takeWhile_prefix _
  exact (List.prefix_iff_eq_take.1 hp).symm

theorem ext_size {s : ByteArray} {i j : Nat} (hs : s.size ≤ 1048576) : (s.extract i j).size ≤ maxLen := by
  rw [ByteArray.size_extract]; unfold maxLen; omega
set_option maxHeartbeats 1000000 in
theorem number_is (s : ByteArray) (at_ : Int) (a : Nat) (ha : Hid (at_ = a)) (D : List UInt8) (hD : Hid (Pth.digs (s.data.toList.drop a) = D)) (n : Nat) (e : Int) (hp : Hid (Amt.parse D = (n, e))) (hat : a ≤ s.size) (hs : s.size ≤ 1048576) (w : World) :
    Calls Tryd.prog 20 #[.string s, .int .i64 at_] w fun r w' => r = .returned (.tuple #[.int .u64 (n : Int), .int .i64 ((a + D.length : Nat) : Int), .bool (e == 0)]) ∧ w = w' := by
  obtain rfl := ha.out
  clear ha
  have hl : D.length ≤ s.size - a := by
    have := Pth.digs_len (s.data.toList.drop a)
    rw [hD.out] at this
    simpa using this
  obtain ⟨z, hz⟩ : ∃ z : Bool, (e == 0) = z := ⟨_, rfl⟩
  rw [hz]
  go_enter Tryd.func20, Tryd.ntmps20
  go_wp2_with fail
  go_loopg [7] D.length (fun c i wr => NumRel s a D c i ∧ w = wr)
  case atStart => exact ⟨⟨0, by omega, by omega, rfl⟩, rfl⟩
  case round =>
    obtain ⟨⟨j, hj, hc, rfl⟩, rfl⟩ := hrel
    have HC := Lib.hid hc
    clear hc
    by_cases hjl : j < D.length
    · have hlt : a + j < s.size := by omega
      obtain ⟨h48, h57⟩ := dig_in hD.out hat hjl hlt
      go_wp2_with fail
      go_roundg (D.length - (j + 1))
      case measure => rw [HC.out]; omega
      case rel => exact ⟨⟨j + 1, by omega, rfl, rfl⟩, rfl⟩
    · obtain rfl : j = D.length := by omega
      clear HC hj hjl
      have HE := Lib.hid (ext_digs hD.out)
      by_cases hlt : a + D.length < s.size
      · have hno := dig_out hD.out hlt
        rcases Nat.lt_or_ge s[a + D.length].toNat 48 with h48 | h48
        · clear hno
          go_wp2_with fail
          refine (rparse_is _ n e (by rw [HE.out]; exact hp.out) _ (ext_size hs)).mono ?_
          rintro r w' ⟨rfl, rfl⟩
          go_wp2_with fail
          go_ret3
          exact ⟨by rw [← hz]; rfl, rfl⟩
        · have h57 : 57 < s[a + D.length].toNat := by omega
          clear hno
          go_wp2_with fail
          refine (rparse_is _ n e (by rw [HE.out]; exact hp.out) _ (ext_size hs)).mono ?_
          rintro r w' ⟨rfl, rfl⟩
          go_wp2_with fail
          go_ret3
          exact ⟨by rw [← hz]; rfl, rfl⟩
      · go_wp2_with fail
        refine (rparse_is _ n e (by rw [HE.out]; exact hp.out) _ (ext_size hs)).mono ?_
        rintro r w' ⟨rfl, rfl⟩
        go_wp2_with fail
        go_ret3
        exact ⟨by rw [← hz]; rfl, rfl⟩
end Go.Proofs.YtmhboacfnklbgaaDoor
