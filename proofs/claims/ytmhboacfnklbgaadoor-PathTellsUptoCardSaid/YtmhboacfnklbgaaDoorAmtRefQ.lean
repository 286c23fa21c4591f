/-
  The walk of the document's own Parse (voussoirref03).
-/
import Derived.Test.YtmhboacfnklbgaaDoorAmtRefP
namespace Go.Proofs.YtmhboacfnklbgaaDoor
open Go.RowKit
set_option linter.unusedVariables false

theorem val_app (l r : List UInt8) : Amt.val l ≤ Amt.val (l ++ r) := by
  induction r using Amt.snoc_ind with
  | h0 => simp
  | h1 r c ih => rw [← List.append_assoc, Amt.val_snoc]; omega
theorem val_take (l : List UInt8) (j : Nat) : Amt.val (l.take j) ≤ Amt.val l := by
  have := val_app (l.take j) (l.drop j)
  rwa [List.take_append_drop] at this

def RefDig (s : ByteArray) (k : Nat) (i : Value) : Prop := ∃ j : Nat, j ≤ s.size ∧ k = s.size - j ∧ i = .int .i64 j ∧ (s.data.toList.take j).all Amt.isDig = true
def RefNum (s : ByteArray) (k : Nat) (n i : Value) : Prop := ∃ j : Nat, j ≤ s.size ∧ k = s.size - j ∧ i = .int .i64 j ∧ n = .int .u64 (Amt.val (s.data.toList.take j) : Nat) ∧ Amt.val (s.data.toList.take j) ≤ 18446744073709551615
theorem dig_snoc {s : ByteArray} {j : Nat} (hj : j < s.size) (hd : (s.data.toList.take j).all Amt.isDig = true) (h1 : 48 ≤ s[j].toNat) (h2 : s[j].toNat ≤ 57) : RefDig s (s.size - (j + 1)) (.int .i64 ((j : Int) + 1)) :=
  ⟨j + 1, by omega, rfl, rfl, by rw [take_snoc s j hj, List.all_append, hd]; simp [Amt.isDig]; omega⟩
theorem dig_at {s : ByteArray} (hd : (s.data.toList.take s.size).all Amt.isDig = true) (j : Nat) (hj : j < s.size) : 48 ≤ s[j].toNat ∧ s[j].toNat ≤ 57 := by
  rw [take_all, List.all_eq_true] at hd
  exact Amt.dig_bounds (hd s[j] (by simp [ByteArray.getElem_eq_getElem_data]))

set_option maxHeartbeats 1000000 in
theorem rparse_loops (s : ByteArray) (w : World) (hs : s.size ≤ maxLen) (hp : 0 < s.size) (z : Bool) (hz : ((s[0].toNat : Int) == 48) = z) (hz1 : z = true → (s.toList == [48]) = true) :
    Calls Tryd.prog 25 #[.string s] w fun e w' => e = .returned (.tuple #[.int .u64 (Amt.parse s.data.toList).1, .int .i64 (Amt.parse s.data.toList).2]) ∧ w = w' := by
  unfold maxLen at hs
  have he := isEmpty_false s hp
  have hfo := Lib.hid (form_of s hp z hz hz1)
  have h1 : z = true → (s.size : Int) ≤ 1 := by
    intro h
    have := hz1 h
    rw [ByteArray.toList_eq, beq_iff_eq] at this
    have h2 := len_data s
    rw [this] at h2
    simp at h2
    omega
  clear hz1
  cases z
  case' false => clear h1
  case' true => have h2 := h1 rfl; clear h1
  all_goals
    go_enter Tryd.func25, Tryd.ntmps25
    go_wp2_with fail
    go_loopg [4] s.size (fun k i wr => RefDig s k i ∧ w = wr)
    case atStart => exact ⟨⟨0, by omega, by omega, rfl, rfl⟩, rfl⟩
    case round =>
      obtain ⟨⟨j, hj, hk, rfl, hd⟩, rfl⟩ := hrel
      have HD := Lib.hid hd
      have HK := Lib.hid hk
      clear hd hk
      by_cases hlt : j < s.size
      · rcases Nat.lt_or_ge s[j].toNat 48 with h48 | h48
        · have HP := Lib.hid (parse_at_bad s j hlt (by omega))
          go_wp2_with fail
          go_ret2
          exact ⟨by rw [HP.out]; rfl, rfl⟩
        · rcases Nat.lt_or_ge 57 s[j].toNat with h57 | h57
          · have HP := Lib.hid (parse_at_bad s j hlt (by omega))
            go_wp2_with fail
            go_ret2
            exact ⟨by rw [HP.out]; rfl, rfl⟩
          · go_wp2_with fail
            go_roundg (s.size - (j + 1))
            case measure => rw [HK.out]; omega
            case rel => exact ⟨dig_snoc hlt HD.out h48 h57, rfl⟩
      · obtain rfl : j = s.size := by omega
        have HF := Lib.hid (hfo.out HD.out)
        have HA := Lib.hid (dig_at HD.out)
        clear hfo HK HD hlt
        go_wp2_with fail
        go_loopg [5, 6] s.size (fun k n i wr => RefNum s k n i ∧ w = wr)
        case atStart => exact ⟨⟨0, by omega, by omega, rfl, rfl, by simp [Amt.val]⟩, rfl⟩
        case round =>
          obtain ⟨⟨j, hj, hk, rfl, rfl, hv⟩, rfl⟩ := hrel
          have HK := Lib.hid hk
          clear hk
          by_cases hlt : j < s.size
          · obtain ⟨h48, h57⟩ := HA.out j hlt
            have hts : Hid (Amt.val (s.data.toList.take (j + 1)) = 10 * Amt.val (s.data.toList.take j) + (s[j].toNat - 48)) := by rw [take_snoc s j hlt, Amt.val_snoc]; exact Lib.hid rfl
            generalize hV : Amt.val (s.data.toList.take j) = V at *
            have HV := Lib.hid hV
            clear hV
            by_cases hov : (18446744073709551615 - ((s[j].toNat : Int) - 48)) / 10 < V
            · have HP := Lib.hid (Amt.parse_over HF.out (by have := val_take s.data.toList (j + 1); rw [hts.out] at this; omega))
              go_wp2_with fail
              go_ret2
              exact ⟨by rw [HP.out]; rfl, rfl⟩
            · have hov' : (V : Int) ≤ (18446744073709551615 - ((s[j].toNat : Int) - 48)) / 10 := by omega
              go_wp2_with fail
              go_roundg (s.size - (j + 1))
              case measure => rw [HK.out]; omega
              case rel => exact ⟨⟨j + 1, by omega, rfl, rfl, by rw [hts.out]; congr 1; omega, by rw [hts.out]; omega⟩, rfl⟩
          · obtain rfl : j = s.size := by omega
            rw [take_all] at hv
            have HP := Lib.hid (Amt.parse_good HF.out (by omega))
            rw [take_all]
            go_wp2_with fail
            go_ret2
            exact ⟨by rw [HP.out]; rfl, rfl⟩

set_option maxHeartbeats 400000 in
theorem rparse_empty (s : ByteArray) (w : World) (h0 : s.size = 0) :
    Calls Tryd.prog 25 #[.string s] w fun e w' => e = .returned (.tuple #[.int .u64 (Amt.parse s.data.toList).1, .int .i64 (Amt.parse s.data.toList).2]) ∧ w = w' := by
  have h1 : s.data.toList = [] := List.eq_nil_of_length_eq_zero (by rw [len_data]; exact h0)
  have HP := Lib.hid (show Amt.parse s.data.toList = (0, 30) by rw [h1]; decide)
  have he : s.toList.isEmpty = true := by rw [ByteArray.toList_eq, h1]; rfl
  clear h1 h0
  go_enter Tryd.func25, Tryd.ntmps25
  go_wp2_with fail
  go_ret2
  exact ⟨by rw [HP.out]; rfl, rfl⟩

set_option maxHeartbeats 400000 in
theorem rparse_zero (s : ByteArray) (w : World) (hs : s.size ≤ maxLen) (hp : 0 < s.size) (hz : ((s[0].toNat : Int) == 48) = true) (hn : (s.toList == [48]) = false) :
    Calls Tryd.prog 25 #[.string s] w fun e w' => e = .returned (.tuple #[.int .u64 (Amt.parse s.data.toList).1, .int .i64 (Amt.parse s.data.toList).2]) ∧ w = w' := by
  have he := isEmpty_false s hp
  unfold maxLen at hs
  have HQ : Amt.parse s.data.toList = (0, 30) ∧ 1 < s.size := by
    have h0 : s.data.toList[0]? = some s[0] := by simp [ByteArray.getElem_eq_getElem_data]
    have h48 : s[0] = 48 := UInt8.toNat_inj.1 (by have := beq_iff_eq.1 hz; simp; omega)
    rw [ByteArray.toList_eq] at hn
    have hlen := len_data s
    cases hl : s.data.toList with
    | nil => simp [hl] at h0
    | cons a r =>
      rw [hl] at h0 hn hlen
      have : a = 48 := by simpa [h48] using h0
      subst this
      cases r with
      | nil => simp at hn
      | cons b r =>
        refine ⟨Amt.parse_bad ?_, ?_⟩
        · simp [Amt.form]
        · simp at hlen; omega
  obtain ⟨hp0, h1⟩ := HQ
  have HP := Lib.hid hp0
  clear hp0 hn
  have h1' : (1 : Int) < s.size := by omega
  go_enter Tryd.func25, Tryd.ntmps25
  go_wp2_with fail
  go_ret2
  exact ⟨by rw [HP.out]; rfl, rfl⟩

/-- the document's Parse, whatever the text -/
theorem rparse_any (s : ByteArray) (w : World) (hs : s.size ≤ maxLen) :
    Calls Tryd.prog 25 #[.string s] w fun e w' => e = .returned (.tuple #[.int .u64 (Amt.parse s.data.toList).1, .int .i64 (Amt.parse s.data.toList).2]) ∧ w = w' := by
  by_cases h0 : s.size = 0
  · exact rparse_empty s w h0
  · have hp : 0 < s.size := by omega
    rcases hz : ((s[0].toNat : Int) == 48) with _ | _
    · exact rparse_loops s w hs hp false hz (fun h => by cases h)
    · rcases hn : (s.toList == [48]) with _ | _
      · exact rparse_zero s w hs hp hz hn
      · exact rparse_loops s w hs hp true hz (fun _ => hn)
end Go.Proofs.YtmhboacfnklbgaaDoor
