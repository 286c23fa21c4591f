/-
  The walks of the document's Print (03, 04) and Input (01). (Cut out of the texts of the seats of paths and flows.)
-/
import Derived.Test.YtichklplcpkjdaaDoorStoA
import Derived.OpenShut
import Derived.Deep.RegionWith
import Derived.Deep.DeepCutAuto
import Derived.Laws.BytesArg
namespace Go.Proofs.YtichklplcpkjdaaDoor
open Go.RowKit
set_option linter.unusedVariables false

theorem Blk.three {w : World} {g : Nat} {t : TypeId} {x y z : Value} (h : Blk w g t #[x, y, z]) : w.cell? ⟨g, 0, none⟩ = some x ∧ w.cell? ⟨g, 1, none⟩ = some y ∧ w.cell? ⟨g, 2, none⟩ = some z ∧ g < w.heap.size := ⟨h.cell 0, h.cell 1, h.cell 2, h.lt⟩
theorem one_byte_r (c : Int) (g : Nat) (W : World) (h : W.cell? ⟨g, 0, none⟩ = some (.int .u8 c)) :
    (convert 68 9 (.slice (some ⟨g, 0, none⟩) 1 1)).run Tryd.prog W = .ok (.string ⟨#[UInt8.ofNat c.toNat]⟩) W :=
  run_convert_bytes_arg W 68 5 Tryd.underlying68 Tryd.underlying5 g 0 1 1 [c] rfl (fun i hi => by
    have : i = 0 := by omega
    subst this
    simpa using h) 9 Tryd.underlying9
theorem kept_byte_r {W w2 : World} {c : Int} (hb : Below (W.alloc (.cells #[.int .u8 c] 5)).drew.heap.size (W.alloc (.cells #[.int .u8 c] 5)).drew w2) : w2.cell? ⟨W.heap.size, 0, none⟩ = some (.int .u8 c) :=
  (hb.cell (p := ⟨W.heap.size, 0, none⟩) (by simp)).trans (by simp)

theorem cat_bytes (X : List UInt8) (c : UInt8) : (⟨X.toArray⟩ ++ ⟨#[c]⟩ : ByteArray) = ⟨(X ++ [c]).toArray⟩ := by
  apply ByteArray.ext
  simp

set_option maxHeartbeats 1000000 in
theorem rprint (k : Nat) : ∀ (n : Int) (w : World), 0 ≤ n → n ≤ k → n ≤ 18446744073709551615 →
    Calls Tryd.prog 35 #[.int .u64 n] w fun r w' => r = .returned (.string ⟨(Amt.dec n.toNat).toArray⟩) ∧ Below w.heap.size w w' := by
  induction k with
  | zero =>
    intro n w h0 h1 h2
    obtain rfl : n = 0 := by omega
    have hone := fun (g : Nat) (W : World) (h : W.cell? ⟨g, 0, none⟩ = some (.int .u8 48)) => one_byte_r 48 g W h
    go_enter Tryd.func35, Tryd.ntmps35
    go_wp2_with fail
    go_ret
    exact ⟨rfl, (Below.refl _ _).alloc (Nat.le_refl _) _⟩
  | succ k ih =>
    intro n w h0 h1 h2
    by_cases h10 : n < 10
    · have hone := fun (g : Nat) (W : World) (h : W.cell? ⟨g, 0, none⟩ = some (.int .u8 (48 + n))) => one_byte_r (48 + n) g W h
      have HD : Hid ((⟨#[UInt8.ofNat (48 + n).toNat]⟩ : ByteArray) = ⟨(Amt.dec n.toNat).toArray⟩) := by
        rw [Amt.dec_eq, if_pos (by omega)]
        have : (48 + n).toNat = 48 + n.toNat := by omega
        rw [this]
        exact Lib.hid rfl
      clear ih
      go_enter Tryd.func35, Tryd.ntmps35
      go_wp2_with fail
      go_ret
      exact ⟨by rw [← HD.out]; rfl, (Below.refl _ _).alloc (Nat.le_refl _) _⟩
    · have hone := fun (g : Nat) (W : World) (h : W.cell? ⟨g, 0, none⟩ = some (.int .u8 (48 + n % 10))) => one_byte_r (48 + n % 10) g W h
      have hl := Amt.dec_len_le (n / 10).toNat (by omega)
      have HD : Hid ((⟨(Amt.dec (n / 10).toNat).toArray⟩ ++ ⟨#[UInt8.ofNat (48 + n % 10).toNat]⟩ : ByteArray) = ⟨(Amt.dec n.toNat).toArray⟩) := by
        rw [Amt.dec_eq n.toNat, if_neg (by omega), cat_bytes]
        have e1 : (48 + n % 10).toNat = 48 + n.toNat % 10 := by omega
        have e2 : (n / 10).toNat = n.toNat / 10 := by omega
        rw [e1, e2]
        exact Lib.hid rfl
      have IH := Lib.hid ih
      clear ih
      go_enter Tryd.func35, Tryd.ntmps35
      go_upto_region 3 with fail
      have q1 : IntKind.u64.wrap (n.tdiv 10) = n / 10 := by rw [Int.tdiv_eq_ediv_of_nonneg h0, IntKind.wrap_u64]; omega
      have q2 : n.tmod 10 = n % 10 := Int.tmod_eq_emod_of_nonneg h0
      have q3 : IntKind.u64.wrap (48 + n % 10) = 48 + n % 10 := by rw [IntKind.wrap_u64]; omega
      have q4 : IntKind.u8.wrap (48 + n % 10) = 48 + n % 10 := by rw [IntKind.wrap_u8]; omega
      have d1 : 0 ≤ n / 10 := by omega
      have d2 : n / 10 ≤ (k : Int) := by omega
      have d3 : n / 10 ≤ 18446744073709551615 := by omega
      go_region_with (first
        | (go_at_call 35; refine (IH.out (n / 10) _ d1 d2 d3).mono ?_; rintro e w2 ⟨rfl, hb2⟩; (try (have hc2 := kept_byte_r hb2))))
      all_goals clear q1 q2 q3 q4
      all_goals go_wp2_with fail
      all_goals go_ret
      · exact ⟨by rw [← HD.out]; rfl, Below.alloc (Below.trans (Below.drew (Below.refl _ _)) hb2) hb2.size _⟩
      all_goals exact ⟨by rw [← HD.out]; rfl, (((Below.refl _ _).alloc (Nat.le_refl _) _).drew).trans (hb2.mono (by simp))⟩
theorem rprint_any (n : Int) (w : World) (h0 : 0 ≤ n) (h1 : n ≤ 18446744073709551615) :
    Calls Tryd.prog 35 #[.int .u64 n] w fun r w' => r = .returned (.string ⟨(Amt.dec n.toNat).toArray⟩) ∧ Below w.heap.size w w' :=
  rprint n.toNat n w h0 (by omega) h1
set_option maxHeartbeats 1000000 in
theorem rforms_is (k : Nat) (h1 : 1 ≤ k) (h8 : k ≤ 8) (w : World) :
    Calls Tryd.prog 34 #[.int .i64 k] w fun e w' => e = .returned (.tuple #[.string ⟨(Pth.fm k).1.toArray⟩, .string ⟨(Pth.fm k).2.1.toArray⟩, .bool (Pth.fm k).2.2]) ∧ w = w' := by
  have hc : k = 1 ∨ k = 2 ∨ k = 3 ∨ k = 4 ∨ k = 5 ∨ k = 6 ∨ k = 7 ∨ k = 8 := by omega
  rcases hc with rfl | rfl | rfl | rfl | rfl | rfl | rfl | rfl
  all_goals
    go_enter Tryd.func34, Tryd.ntmps34
    go_wp2
    go_ret3
    exact ⟨rfl, rfl⟩
set_option maxHeartbeats 1000000 in
theorem rforms_no (k : Int) (h : k < 1 ∨ 8 < k) (w : World) :
    Calls Tryd.prog 34 #[.int .i64 k] w fun e w' => e = .returned (.tuple #[.string ⟨#[]⟩, .string ⟨#[]⟩, .bool false]) ∧ w = w' := by
  have e1 : (k == 1) = false := beq_eq_false_iff_ne.2 (by omega)
  have e2 : (k == 2) = false := beq_eq_false_iff_ne.2 (by omega)
  have e3 : (k == 3) = false := beq_eq_false_iff_ne.2 (by omega)
  have e4 : (k == 4) = false := beq_eq_false_iff_ne.2 (by omega)
  have e5 : (k == 5) = false := beq_eq_false_iff_ne.2 (by omega)
  have e6 : (k == 6) = false := beq_eq_false_iff_ne.2 (by omega)
  have e7 : (k == 7) = false := beq_eq_false_iff_ne.2 (by omega)
  have e8 : (k == 8) = false := beq_eq_false_iff_ne.2 (by omega)
  clear h
  go_enter Tryd.func34, Tryd.ntmps34
  go_wp2
  go_ret3
  exact ⟨rfl, rfl⟩

theorem rprint_d (n : Int) (X : List UInt8) (h : Hid (Amt.dec n.toNat = X)) (w : World) (h0 : 0 ≤ n) (h1 : n ≤ 18446744073709551615) :
    Calls Tryd.prog 35 #[.int .u64 n] w fun r w' => r = .returned (.string ⟨X.toArray⟩) ∧ Below w.heap.size w w' :=
  (rprint_any n w h0 h1).mono fun _ _ ⟨he, hw⟩ => ⟨by rw [he, h.out], hw⟩

set_option maxHeartbeats 1000000 in
theorem rpprint_bad (k a b : Int) (w : World) (h : k < 1 ∨ 8 < k) :
    Calls Tryd.prog 20 #[.agg #[.int .i64 k, .int .u64 a, .int .u64 b]] w fun e w' => e = .returned (.tuple #[.string ⟨#[]⟩, .int .i64 40]) ∧ Below w.heap.size w w' := by
  have HH := Lib.hid h
  clear h
  go_enter Tryd.func20, Tryd.ntmps20
  go_wp2_with fail
  refine (rforms_no k HH.out _).mono ?_
  rintro e w1 ⟨rfl, rfl⟩
  go_wp2_with fail
  go_ret2
  exact ⟨rfl, (Below.refl _ _).alloc (Nat.le_refl _) _⟩

set_option maxHeartbeats 1000000 in
theorem rpprint_good (k : Nat) (a b : Int) (w : World) (h1 : 1 ≤ k) (h8 : k ≤ 8) (a0 : 0 ≤ a) (a1 : a ≤ 18446744073709551615) (b0 : 0 ≤ b) (b1 : b ≤ 18446744073709551615) :
    Calls Tryd.prog 20 #[.agg #[.int .i64 k, .int .u64 a, .int .u64 b]] w fun e w' => PrintAns k a b e ∧ Below w.heap.size w w' := by
  have hl := Pth.fm_len h1 h8
  have HT : Hid (Pth.text k a.toNat b.toNat = (Pth.fm k).1 ++ Amt.dec a.toNat ++ (Pth.fm k).2.1 ++ Pth.tail k b.toNat) := Lib.hid (by simp [Pth.text])
  have HTl : Hid (Pth.tail k b.toNat = if (Pth.fm k).2.2 then Amt.dec b.toNat else []) := Lib.hid rfl
  have fo := rforms_is k h1 h8
  have hne : (Pth.fm k).1.isEmpty = false := Pth.kinds h1 h8 (P := fun k => (Pth.fm k).1.isEmpty = false) (by decide)
  obtain ⟨ah, be, two, hf⟩ : ∃ ah be two, Pth.fm k = (ah, be, two) := ⟨_, _, _, rfl⟩
  rw [hf] at hl HT HTl fo hne
  have HF := Lib.hid hf
  simp only at hl HT HTl fo hne
  have FO := Lib.hid fo
  clear hf fo
  obtain ⟨hla, hlb⟩ := hl
  have hx := Amt.dec_len_le a.toNat (by omega)
  have hy := Amt.dec_len_le b.toNat (by omega)
  obtain ⟨X, hX⟩ : ∃ X, Amt.dec a.toNat = X := ⟨_, rfl⟩
  obtain ⟨Y, hY⟩ : ∃ Y, Amt.dec b.toNat = Y := ⟨_, rfl⟩
  rw [hX] at hx HT
  rw [hY] at hy HTl
  have HX := Lib.hid hX
  have HY := Lib.hid hY
  clear hX hY
  have HZ : Hid (b = 0 ∨ b ≠ 0) := Lib.hid (by omega)
  cases two with
  | true =>
    simp only [if_true] at HTl
    have HR : Hid (Pth.text k a.toNat b.toNat = ah ++ X ++ be ++ Y) := Lib.hid (by rw [HT.out, HTl.out])
    clear HT HTl
    go_enter Tryd.func20, Tryd.ntmps20
    go_wp2_with fail
    refine (FO.out _).mono ?_
    rintro e w1 ⟨rfl, rfl⟩
    go_wp2_with fail
    refine (rprint_d a X HX _ a0 a1).mono ?_
    rintro e w1 ⟨rfl, hb1⟩
    obtain ⟨q0, q1, q2, q3⟩ := ((Blk.new w 25 #[.int .i64 k, .int .u64 a, .int .u64 b]).below hb1).three
    have B1 := Lib.hid (bstep (balloc (Below.refl _ w) _) hb1)
    clear hb1
    go_wp2_with fail
    refine (rprint_d b Y HY _ b0 b1).mono ?_
    rintro e w2 ⟨rfl, hb2⟩
    have B2 := Lib.hid (bstep B1.out hb2)
    clear hb2
    go_wp2_with fail
    go_ret2
    refine ⟨.inl ⟨.inl (by rw [HF.out]), ?_⟩, B2.out⟩
    rw [HR.out, ← cat2, ← cat2, ← cat2]
    rfl
  | false =>
    simp only [Bool.false_eq_true, if_false] at HTl
    have HR : Hid (Pth.text k a.toNat b.toNat = ah ++ X ++ be) := Lib.hid (by rw [HT.out, HTl.out, List.append_nil])
    clear HT HTl
    rcases HZ.out with hb0 | hb0
    · have t3 : (b != 0) = false := by simp [hb0]
      have H0 := Lib.hid hb0
      clear hb0 HZ
      go_enter Tryd.func20, Tryd.ntmps20
      go_wp2_with fail
      refine (FO.out _).mono ?_
      rintro e w1 ⟨rfl, rfl⟩
      go_wp2_with fail
      refine (rprint_d a X HX _ a0 a1).mono ?_
      rintro e w1 ⟨rfl, hb1⟩
      have B1 := Lib.hid (bstep (balloc (Below.refl _ w) _) hb1)
      clear hb1
      go_wp2_with fail
      go_ret2
      refine ⟨.inl ⟨.inr H0.out, ?_⟩, B1.out⟩
      rw [HR.out, ← cat2, ← cat2]
      rfl
    · have t3 : (b != 0) = true := by simpa using hb0
      have H0 := Lib.hid hb0
      clear hb0 HZ
      go_enter Tryd.func20, Tryd.ntmps20
      go_wp2_with fail
      refine (FO.out _).mono ?_
      rintro e w1 ⟨rfl, rfl⟩
      go_wp2_with fail
      go_ret2
      exact ⟨.inr ⟨by rw [HF.out]; simpa using H0.out, rfl⟩, balloc (Below.refl _ _) _⟩

def RInpRel (c : UInt8) (ss : List ByteArray) (w : World) (k : Nat) (s i : Value) (wr : World) : Prop :=
  ∃ j : Nat, j ≤ ss.length ∧ k = ss.length - j ∧ i = .int .i64 j ∧ s = .string ⟨(inpL c (ss.take j)).toArray⟩ ∧ Below w.heap.size w wr
theorem conv1 (c : UInt8) : ∀ (g : Nat) (W : World), W.cell? ⟨g, 0, none⟩ = some (.int .u8 (c.toNat : Int)) → (convert 68 9 (.slice (some ⟨g, 0, none⟩) 1 1)).run Tryd.prog W = .ok (.string ⟨[c].toArray⟩) W := fun g W h =>
  run_convert_bytes_back (P := Tryd.prog) W 68 9 5 ⟨g, 0, none⟩ 1 [c] Tryd.underlying68 Tryd.underlying5 Tryd.underlying9 (fun j hj => by
    have : j = 0 := by simp at hj; omega
    subst this
    exact h)
theorem conv4 (n : Int) (hn : 0 ≤ n) : ∀ (g : Nat) (W : World), W.cell? ⟨g, 0, none⟩ = some (.int .u8 (n / 16777216 % 256)) → W.cell? ⟨g, 1, none⟩ = some (.int .u8 (n / 65536 % 256)) → W.cell? ⟨g, 2, none⟩ = some (.int .u8 (n / 256 % 256)) → W.cell? ⟨g, 3, none⟩ = some (.int .u8 (n % 256)) →
    (convert 68 9 (.slice (some ⟨g, 0, none⟩) 4 4)).run Tryd.prog W = .ok (.string ⟨(w4 (n % 4294967296)).toArray⟩) W := fun g W h0 h1 h2 h3 => by
  have hw := w4_cells (n % 4294967296)
  rw [show n % 4294967296 / 16777216 % 256 = n / 16777216 % 256 by omega, show n % 4294967296 / 65536 % 256 = n / 65536 % 256 by omega, show n % 4294967296 / 256 % 256 = n / 256 % 256 by omega, show n % 4294967296 % 256 = n % 256 by omega] at hw
  refine run_convert_bytes_back (P := Tryd.prog) W 68 9 5 ⟨g, 0, none⟩ 4 (w4 (n % 4294967296)) Tryd.underlying68 Tryd.underlying5 Tryd.underlying9 (fun j hj => ?_)
  have hj4 : j < 4 := hj
  have e : (⟨g, 0, none⟩ : Addr).add j = ⟨g, j, none⟩ := by unfold Addr.add; split <;> simp_all
  have hget : (bC (w4 (n % 4294967296)))[j]? = some (.int .u8 ((w4 (n % 4294967296))[j].toNat : Int)) := by
    rw [bC, List.getElem?_map, List.getElem?_eq_getElem hj]; rfl
  rw [e]
  refine Eq.trans ?_ hget
  rw [hw]
  have : j = 0 ∨ j = 1 ∨ j = 2 ∨ j = 3 := by omega
  rcases this with rfl | rfl | rfl | rfl
  · exact h0
  · exact h1
  · exact h2
  · exact h3
set_option maxRecDepth 100000 in
set_option maxHeartbeats 1000000 in
theorem rinput_is (c : UInt8) (ss : List ByteArray) (g cap : Nat) (w : World) (hg : g < w.heap.size) (hc : ∀ j (h : j < ss.length), w.cell? ⟨g, j, none⟩ = some (.string ss[j])) (hn : ss.length ≤ 16) (hN : (inpL c ss).length ≤ 140737488355328) :
    Calls Tryd.prog 22 #[.int .u8 (c.toNat : Int), .slice (some ⟨g, 0, none⟩) ss.length cap] w fun e w' => e = .returned (.string ⟨(inpL c ss).toArray⟩) ∧ Below w.heap.size w w' := by
  have HC := Lib.hid hc
  clear hc
  have hcv1 := conv1 c
  go_enter Tryd.func22, Tryd.ntmps22
  go_wp2_with fail
  clear hcv1
  go_loopg [5, 6] ss.length (fun k s i wr => RInpRel c ss w k s i wr)
  case atStart => exact ⟨0, by omega, rfl, rfl, rfl, balloc (Below.refl _ w) _⟩
  case round =>
    obtain ⟨j, hj, hk, rfl, rfl, hbel⟩ := hrel
    have HK := Lib.hid hk
    have HL := Lib.hid hbel
    clear hk hbel
    by_cases hlt : j < ss.length
    · have hcell : wr.cell? ⟨g, j, none⟩ = some (.string ss[j]) := (HL.out.cell (p := ⟨g, j, none⟩) hg).trans (HC.out j hlt)
      have HSn := Lib.hid (inpL_snoc c ss j hlt)
      have hle := inpL_le c ss (j + 1)
      rw [HSn.out, List.length_append, List.length_append, len_data] at hle
      have h4 : (w4 ((ss[j].size : Int) % 4294967296)).length = 4 := rfl
      rw [h4] at hle
      generalize ss[j] = s at hcell HSn hle
      clear h4
      have hB := HL.out.size
      generalize inpL c (ss.take j) = X at HSn hle ⊢
      have hcv4 := conv4 (s.size : Int) (by omega)
      have hcell2 : ∀ o, (wr.alloc o).cell? ⟨g, j, none⟩ = some (.string s) := fun o => by rw [World.cell?_alloc_lt _ _ _ (by simp only; omega)]; exact hcell
      have HCat : Hid ((⟨X.toArray⟩ ++ ⟨(w4 ((s.size : Int) % 4294967296)).toArray⟩ ++ s : ByteArray) = ⟨(X ++ w4 ((s.size : Int) % 4294967296) ++ s.data.toList).toArray⟩) := Lib.hid (by
        rw [cat2]
        apply ByteArray.ext
        simp)
      have hw4 : (w4 ((s.size : Int) % 4294967296)).length ≤ 4 := Nat.le_refl 4
      go_upto_region 6 with fail
      go_region
      have HR : Hid (RInpRel c ss w (ss.length - (j + 1)) (.string (⟨X.toArray⟩ ++ ⟨(w4 ((s.size : Int) % 4294967296)).toArray⟩ ++ s)) (.int .i64 ((j + 1 : Nat) : Int)) (wr.alloc (.cells #[.int .u8 ((s.size : Int) / 16777216 % 256), .int .u8 ((s.size : Int) / 65536 % 256), .int .u8 ((s.size : Int) / 256 % 256), .int .u8 ((s.size : Int) % 256)] 5)).drew) :=
        Lib.hid ⟨j + 1, by omega, rfl, rfl, by rw [HCat.out, HSn.out], (balloc HL.out _).drew⟩
      clear hcv4 hcell2 hcell
      go_wp2_with fail
      go_roundg (ss.length - (j + 1))
      case measure => rw [HK.out]; omega
      case rel => exact HR.out
    · have HJ : Hid (j = ss.length) := Lib.hid (by omega)
      have HE : Hid (inpL c (ss.take j) = inpL c ss) := Lib.hid (by rw [HJ.out, List.take_length])
      rw [HE.out]
      clear HE HJ HK
      go_wp2_with fail
      go_ret
      exact ⟨rfl, HL.out⟩
end Go.Proofs.YtichklplcpkjdaaDoor
