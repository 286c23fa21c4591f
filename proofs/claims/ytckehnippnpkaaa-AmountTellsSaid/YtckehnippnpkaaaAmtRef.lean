/-
  The walks of the document's own Print, Parse, Add and Sub (voussoirref03), and of AmountTells.
-/
import Derived.Test.YtckehnippnpkaaaAmtAwake
import Derived.OpenShut
import Derived.Deep.RegionWith
import Derived.Deep.DeepCutAuto
import Derived.Laws.BytesArg
namespace Go.Proofs.Ytckehnippnpkaaa
open Go.RowKit
set_option linter.unusedVariables false

/-- 'string([]byte{c})' -/
theorem one_byte_r (c : Int) (g : Nat) (W : World) (h : W.cell? ⟨g, 0, none⟩ = some (.int .u8 c)) :
    (convert 29 9 (.slice (some ⟨g, 0, none⟩) 1 1)).run Try.prog W = .ok (.string ⟨#[UInt8.ofNat c.toNat]⟩) W :=
  run_convert_bytes_arg W 29 5 Try.underlying29 Try.underlying5 g 0 1 1 [c] rfl (fun i hi => by
    have : i = 0 := by omega
    subst this
    simpa using h) 9 Try.underlying9
theorem kept_byte_r {W w2 : World} {c : Int} (hb : Below (W.alloc (.cells #[.int .u8 c] 5)).drew.heap.size (W.alloc (.cells #[.int .u8 c] 5)).drew w2) : w2.cell? ⟨W.heap.size, 0, none⟩ = some (.int .u8 c) :=
  (hb.cell (p := ⟨W.heap.size, 0, none⟩) (by simp)).trans (by simp)

theorem cat_bytes (X : List UInt8) (c : UInt8) : (⟨X.toArray⟩ ++ ⟨#[c]⟩ : ByteArray) = ⟨(X ++ [c]).toArray⟩ := by
  apply ByteArray.ext
  simp

set_option maxHeartbeats 1000000 in
theorem rprint (k : Nat) : ∀ (n : Int) (w : World), 0 ≤ n → n ≤ k → n ≤ 18446744073709551615 →
    Calls Try.prog 17 #[.int .u64 n] w fun r w' => r = .returned (.string ⟨(Amt.dec n.toNat).toArray⟩) ∧ Below w.heap.size w w' := by
  induction k with
  | zero =>
    intro n w h0 h1 h2
    obtain rfl : n = 0 := by omega
    have hone := fun (g : Nat) (W : World) (h : W.cell? ⟨g, 0, none⟩ = some (.int .u8 48)) => one_byte_r 48 g W h
    go_enter Try.func17, Try.ntmps17
    go_wp2_with fail
    go_ret
    exact ⟨rfl, (Below.refl _ _).alloc (Nat.le_refl _) _⟩
  | succ k ih =>
    intro n w h0 h1 h2
    by_cases h10 : n < 10
    · have hone := fun (g : Nat) (W : World) (h : W.cell? ⟨g, 0, none⟩ = some (.int .u8 (48 + n))) => one_byte_r (48 + n) g W h
      have HD : Hid ((⟨#[UInt8.ofNat (48 + n).toNat]⟩ : ByteArray) = ⟨(Amt.dec n.toNat).toArray⟩) := by
        rw [Amt.dec_eq, if_pos (by omega)]
        have : (48 + n).toNat = 48 + n.toNat := by omega
        rw [this]
        exact Lib.hid rfl
      clear ih
      go_enter Try.func17, Try.ntmps17
      go_wp2_with fail
      go_ret
      exact ⟨by rw [← HD.out]; rfl, (Below.refl _ _).alloc (Nat.le_refl _) _⟩
    · have hone := fun (g : Nat) (W : World) (h : W.cell? ⟨g, 0, none⟩ = some (.int .u8 (48 + n % 10))) => one_byte_r (48 + n % 10) g W h
      have hl := Amt.dec_len_le (n / 10).toNat (by omega)
      have HD : Hid ((⟨(Amt.dec (n / 10).toNat).toArray⟩ ++ ⟨#[UInt8.ofNat (48 + n % 10).toNat]⟩ : ByteArray) = ⟨(Amt.dec n.toNat).toArray⟩) := by
        rw [Amt.dec_eq n.toNat, if_neg (by omega), cat_bytes]
        have e1 : (48 + n % 10).toNat = 48 + n.toNat % 10 := by omega
        have e2 : (n / 10).toNat = n.toNat / 10 := by omega
        rw [e1, e2]
        exact Lib.hid rfl
      have IH := Lib.hid ih
      clear ih
      go_enter Try.func17, Try.ntmps17
      go_upto_region 3 with fail
      have q1 : IntKind.u64.wrap (n.tdiv 10) = n / 10 := by rw [Int.tdiv_eq_ediv_of_nonneg h0, IntKind.wrap_u64]; omega
      have q2 : n.tmod 10 = n % 10 := Int.tmod_eq_emod_of_nonneg h0
      have q3 : IntKind.u64.wrap (48 + n % 10) = 48 + n % 10 := by rw [IntKind.wrap_u64]; omega
      have q4 : IntKind.u8.wrap (48 + n % 10) = 48 + n % 10 := by rw [IntKind.wrap_u8]; omega
      have d1 : 0 ≤ n / 10 := by omega
      have d2 : n / 10 ≤ (k : Int) := by omega
      have d3 : n / 10 ≤ 18446744073709551615 := by omega
      go_region_with (first
        | (go_at_call 17; refine (IH.out (n / 10) _ d1 d2 d3).mono ?_; rintro e w2 ⟨rfl, hb2⟩; (try (have hc2 := kept_byte_r hb2))))
      all_goals clear q1 q2 q3 q4
      all_goals go_wp2_with fail
      all_goals go_ret
      · exact ⟨by rw [← HD.out]; rfl, Below.alloc (Below.trans (Below.drew (Below.refl _ _)) hb2) hb2.size _⟩
      all_goals exact ⟨by rw [← HD.out]; rfl, (((Below.refl _ _).alloc (Nat.le_refl _) _).drew).trans (hb2.mono (by simp))⟩
theorem rprint_any (n : Int) (w : World) (h0 : 0 ≤ n) (h1 : n ≤ 18446744073709551615) :
    Calls Try.prog 17 #[.int .u64 n] w fun r w' => r = .returned (.string ⟨(Amt.dec n.toNat).toArray⟩) ∧ Below w.heap.size w w' :=
  rprint n.toNat n w h0 (by omega) h1

theorem val_app (l r : List UInt8) : Amt.val l ≤ Amt.val (l ++ r) := by
  induction r using Amt.snoc_ind with
  | h0 => simp
  | h1 r c ih => rw [← List.append_assoc, Amt.val_snoc]; omega
theorem val_take (l : List UInt8) (j : Nat) : Amt.val (l.take j) ≤ Amt.val l := by
  have := val_app (l.take j) (l.drop j)
  rwa [List.take_append_drop] at this

def RefDig (s : ByteArray) (k : Nat) (i : Value) : Prop := ∃ j : Nat, j ≤ s.size ∧ k = s.size - j ∧ i = .int .i64 j ∧ (s.data.toList.take j).all Amt.isDig = true
def RefNum (s : ByteArray) (k : Nat) (n i : Value) : Prop := ∃ j : Nat, j ≤ s.size ∧ k = s.size - j ∧ i = .int .i64 j ∧ n = .int .u64 (Amt.val (s.data.toList.take j) : Nat) ∧ Amt.val (s.data.toList.take j) ≤ 18446744073709551615
theorem dig_snoc {s : ByteArray} {j : Nat} (hj : j < s.size) (hd : (s.data.toList.take j).all Amt.isDig = true) (h1 : 48 ≤ s[j].toNat) (h2 : s[j].toNat ≤ 57) : RefDig s (s.size - (j + 1)) (.int .i64 ((j : Int) + 1)) :=
  ⟨j + 1, by omega, rfl, rfl, by rw [take_snoc s j hj, List.all_append, hd]; simp [Amt.isDig]; omega⟩
theorem dig_at {s : ByteArray} (hd : (s.data.toList.take s.size).all Amt.isDig = true) (j : Nat) (hj : j < s.size) : 48 ≤ s[j].toNat ∧ s[j].toNat ≤ 57 := by
  rw [take_all, List.all_eq_true] at hd
  exact Amt.dig_bounds (hd s[j] (by simp [ByteArray.getElem_eq_getElem_data]))

set_option maxHeartbeats 1000000 in
theorem rparse_loops (s : ByteArray) (w : World) (hs : s.size ≤ maxLen) (hp : 0 < s.size) (z : Bool) (hz : ((s[0].toNat : Int) == 48) = z) (hz1 : z = true → (s.toList == [48]) = true) :
    Calls Try.prog 12 #[.string s] w fun e w' => e = .returned (.tuple #[.int .u64 (Amt.parse s.data.toList).1, .int .i64 (Amt.parse s.data.toList).2]) ∧ w = w' := by
  unfold maxLen at hs
  have he := isEmpty_false s hp
  have hfo := Lib.hid (form_of s hp z hz hz1)
  have h1 : z = true → (s.size : Int) ≤ 1 := by
    intro h
    have := hz1 h
    rw [ByteArray.toList_eq, beq_iff_eq] at this
    have h2 := len_data s
    rw [this] at h2
    simp at h2
    omega
  clear hz1
  cases z
  case' false => clear h1
  case' true => have h2 := h1 rfl; clear h1
  all_goals
    go_enter Try.func12, Try.ntmps12
    go_wp2_with fail
    go_loopg [4] s.size (fun k i wr => RefDig s k i ∧ w = wr)
    case atStart => exact ⟨⟨0, by omega, by omega, rfl, rfl⟩, rfl⟩
    case round =>
      obtain ⟨⟨j, hj, hk, rfl, hd⟩, rfl⟩ := hrel
      have HD := Lib.hid hd
      have HK := Lib.hid hk
      clear hd hk
      by_cases hlt : j < s.size
      · rcases Nat.lt_or_ge s[j].toNat 48 with h48 | h48
        · have HP := Lib.hid (parse_at_bad s j hlt (by omega))
          go_wp2_with fail
          go_ret2
          exact ⟨by rw [HP.out]; rfl, rfl⟩
        · rcases Nat.lt_or_ge 57 s[j].toNat with h57 | h57
          · have HP := Lib.hid (parse_at_bad s j hlt (by omega))
            go_wp2_with fail
            go_ret2
            exact ⟨by rw [HP.out]; rfl, rfl⟩
          · go_wp2_with fail
            go_roundg (s.size - (j + 1))
            case measure => rw [HK.out]; omega
            case rel => exact ⟨dig_snoc hlt HD.out h48 h57, rfl⟩
      · obtain rfl : j = s.size := by omega
        have HF := Lib.hid (hfo.out HD.out)
        have HA := Lib.hid (dig_at HD.out)
        clear hfo HK HD hlt
        go_wp2_with fail
        go_loopg [5, 6] s.size (fun k n i wr => RefNum s k n i ∧ w = wr)
        case atStart => exact ⟨⟨0, by omega, by omega, rfl, rfl, by simp [Amt.val]⟩, rfl⟩
        case round =>
          obtain ⟨⟨j, hj, hk, rfl, rfl, hv⟩, rfl⟩ := hrel
          have HK := Lib.hid hk
          clear hk
          by_cases hlt : j < s.size
          · obtain ⟨h48, h57⟩ := HA.out j hlt
            have hts : Hid (Amt.val (s.data.toList.take (j + 1)) = 10 * Amt.val (s.data.toList.take j) + (s[j].toNat - 48)) := by rw [take_snoc s j hlt, Amt.val_snoc]; exact Lib.hid rfl
            generalize hV : Amt.val (s.data.toList.take j) = V at *
            have HV := Lib.hid hV
            clear hV
            by_cases hov : (18446744073709551615 - ((s[j].toNat : Int) - 48)) / 10 < V
            · have HP := Lib.hid (Amt.parse_over HF.out (by have := val_take s.data.toList (j + 1); rw [hts.out] at this; omega))
              go_wp2_with fail
              go_ret2
              exact ⟨by rw [HP.out]; rfl, rfl⟩
            · have hov' : (V : Int) ≤ (18446744073709551615 - ((s[j].toNat : Int) - 48)) / 10 := by omega
              go_wp2_with fail
              go_roundg (s.size - (j + 1))
              case measure => rw [HK.out]; omega
              case rel => exact ⟨⟨j + 1, by omega, rfl, rfl, by rw [hts.out]; congr 1; omega, by rw [hts.out]; omega⟩, rfl⟩
          · obtain rfl : j = s.size := by omega
            rw [take_all] at hv
            have HP := Lib.hid (Amt.parse_good HF.out (by omega))
            rw [take_all]
            go_wp2_with fail
            go_ret2
            exact ⟨by rw [HP.out]; rfl, rfl⟩

set_option maxHeartbeats 400000 in
theorem rparse_empty (s : ByteArray) (w : World) (h0 : s.size = 0) :
    Calls Try.prog 12 #[.string s] w fun e w' => e = .returned (.tuple #[.int .u64 (Amt.parse s.data.toList).1, .int .i64 (Amt.parse s.data.toList).2]) ∧ w = w' := by
  have h1 : s.data.toList = [] := List.eq_nil_of_length_eq_zero (by rw [len_data]; exact h0)
  have HP := Lib.hid (show Amt.parse s.data.toList = (0, 30) by rw [h1]; decide)
  have he : s.toList.isEmpty = true := by rw [ByteArray.toList_eq, h1]; rfl
  clear h1 h0
  go_enter Try.func12, Try.ntmps12
  go_wp2_with fail
  go_ret2
  exact ⟨by rw [HP.out]; rfl, rfl⟩

set_option maxHeartbeats 400000 in
theorem rparse_zero (s : ByteArray) (w : World) (hs : s.size ≤ maxLen) (hp : 0 < s.size) (hz : ((s[0].toNat : Int) == 48) = true) (hn : (s.toList == [48]) = false) :
    Calls Try.prog 12 #[.string s] w fun e w' => e = .returned (.tuple #[.int .u64 (Amt.parse s.data.toList).1, .int .i64 (Amt.parse s.data.toList).2]) ∧ w = w' := by
  have he := isEmpty_false s hp
  unfold maxLen at hs
  have HQ : Amt.parse s.data.toList = (0, 30) ∧ 1 < s.size := by
    have h0 : s.data.toList[0]? = some s[0] := by simp [ByteArray.getElem_eq_getElem_data]
    have h48 : s[0] = 48 := UInt8.toNat_inj.1 (by have := beq_iff_eq.1 hz; simp; omega)
    rw [ByteArray.toList_eq] at hn
    have hlen := len_data s
    cases hl : s.data.toList with
    | nil => simp [hl] at h0
    | cons a r =>
      rw [hl] at h0 hn hlen
      have : a = 48 := by simpa [h48] using h0
      subst this
      cases r with
      | nil => simp at hn
      | cons b r =>
        refine ⟨Amt.parse_bad ?_, ?_⟩
        · simp [Amt.form]
        · simp at hlen; omega
  obtain ⟨hp0, h1⟩ := HQ
  have HP := Lib.hid hp0
  clear hp0 hn
  have h1' : (1 : Int) < s.size := by omega
  go_enter Try.func12, Try.ntmps12
  go_wp2_with fail
  go_ret2
  exact ⟨by rw [HP.out]; rfl, rfl⟩

/-- the document's Parse, whatever the text -/
theorem rparse_any (s : ByteArray) (w : World) (hs : s.size ≤ maxLen) :
    Calls Try.prog 12 #[.string s] w fun e w' => e = .returned (.tuple #[.int .u64 (Amt.parse s.data.toList).1, .int .i64 (Amt.parse s.data.toList).2]) ∧ w = w' := by
  by_cases h0 : s.size = 0
  · exact rparse_empty s w h0
  · have hp : 0 < s.size := by omega
    rcases hz : ((s[0].toNat : Int) == 48) with _ | _
    · exact rparse_loops s w hs hp false hz (fun h => by cases h)
    · rcases hn : (s.toList == [48]) with _ | _
      · exact rparse_zero s w hs hp hz hn
      · exact rparse_loops s w hs hp true hz (fun _ => hn)
end Go.Proofs.Ytckehnippnpkaaa
