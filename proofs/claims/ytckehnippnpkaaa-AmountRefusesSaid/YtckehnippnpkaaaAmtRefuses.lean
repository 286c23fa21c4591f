/-
  The walk of AmountRefuses.
-/
import Derived.Test.YtckehnippnpkaaaAmtAwake
import Derived.OpenShut
import Derived.Deep.DeepCutAuto
namespace Go.Proofs.Ytckehnippnpkaaa
open Go.RowKit

theorem refuses_cases (s : ByteArray) : (Amt.form s.data.toList = false ∧ Amt.parse s.data.toList = (0, 30)) ∨
    (Amt.form s.data.toList = true ∧ 20 < s.size ∧ Amt.parse s.data.toList = (0, 31)) ∨
    (Amt.form s.data.toList = true ∧ s.size ≤ 20 ∧ ∃ n : Nat, Amt.parse s.data.toList = (n, 0)) ∨ (Amt.form s.data.toList = true ∧ 20 ≤ s.size ∧ s.size ≤ 20 ∧ Amt.parse s.data.toList = (0, 31)) := by
  rcases h : Amt.form s.data.toList with _ | _
  · exact .inl ⟨rfl, Amt.parse_bad h⟩
  · right
    by_cases h1 : 20 < s.size
    · exact .inl ⟨rfl, h1, Amt.form_long h (by rw [len_data]; exact h1)⟩
    · right
      by_cases h2 : s.size < 20
      · left
        exact ⟨rfl, by omega, (Amt.parse s.data.toList).1, Prod.ext rfl (Amt.form_short h (by rw [len_data]; exact h2))⟩
      · rcases Amt.form_twenty h with h3 | h3
        · exact .inl ⟨rfl, by omega, (Amt.parse s.data.toList).1, Prod.ext rfl h3⟩
        · exact .inr ⟨rfl, by omega, by omega, h3⟩

/-- no 0 ahead of others, and something there -/
def headB (s : ByteArray) : Bool := !s.data.toList.isEmpty && (decide (s.data.toList.head? ≠ some 48) || decide (s.data.toList.length = 1))
theorem form_head (s : ByteArray) : Amt.form s.data.toList = (headB s && s.data.toList.all Amt.isDig) := rfl
theorem headB_none (s : ByteArray) (h : ¬ 0 < s.size) : headB s = false := by
  have : s.data.toList = [] := List.eq_nil_of_length_eq_zero (by rw [len_data]; omega)
  simp [headB, this]
theorem headB_48 (s : ByteArray) (hp : 0 < s.size) (h : (s[0].toNat : Int) = 48) : headB s = ((s.size : Int) == 1) := by
  have h0 : s.data.toList[0]? = some s[0] := by simp [ByteArray.getElem_eq_getElem_data]
  have h48 : s[0] = 48 := UInt8.toNat_inj.1 (by simp; omega)
  have hl := len_data s
  cases hs : s.data.toList with
  | nil => simp [hs] at h0
  | cons a r =>
    rw [hs] at h0 hl
    have : a = 48 := by simpa [h48] using h0
    subst this
    cases r with
    | nil => simp [headB, hs, ← hl]
    | cons b r =>
      have : ¬ ((s.size : Int) = 1) := by rw [← hl]; simp; omega
      simp [headB, hs, this]
theorem headB_other (s : ByteArray) (hp : 0 < s.size) (h : ¬ (s[0].toNat : Int) = 48) : headB s = true := by
  have h0 : s.data.toList[0]? = some s[0] := by simp [ByteArray.getElem_eq_getElem_data]
  have h48 : s[0] ≠ 48 := fun e => h (by rw [e]; rfl)
  cases hs : s.data.toList with
  | nil => simp [hs] at h0
  | cons a r =>
    rw [hs] at h0
    have : a = s[0] := by simpa using h0
    subst this
    simp [headB, hs, h48]
def RefRel (s : ByteArray) (k : Nat) (f i : Value) : Prop :=
  ∃ j : Nat, j ≤ s.size ∧ k = s.size - j ∧ i = .int .i64 j ∧ f = .bool (headB s && (s.data.toList.take j).all Amt.isDig)
theorem ref_step {s : ByteArray} {j : Nat} {b c : Bool} (hj : j < s.size) (hb : (headB s && (s.data.toList.take j).all Amt.isDig) = b) (hc : c = (b && Amt.isDig s[j])) : RefRel s (s.size - (j + 1)) (.bool c) (.int .i64 ((j : Int) + 1)) := by
  refine ⟨j + 1, by omega, rfl, rfl, ?_⟩
  rw [hc, ← hb, take_snoc s j hj, List.all_append]
  simp [Bool.and_assoc]

set_option maxRecDepth 100000 in
set_option maxHeartbeats 1000000 in
theorem refuses_walk (s : ByteArray) (hs : s.size ≤ maxLen) (w : World) :
    Calls Try.prog 6 #[.string s] w fun e w' => e = .returned (.bool true) ∧ Below w.heap.size w w' := by
  obtain ⟨n, e, hp⟩ : ∃ n e, Amt.parse s.data.toList = (n, e) := ⟨_, _, rfl⟩
  have HP := Lib.hid hp
  have hs' := hs
  clear hp
  unfold maxLen at hs'
  go_enter Try.func6, Try.ntmps6
  go_wp2_with fail
  refine (awake_ok _).mono ?_
  rintro e w1 ⟨rfl, hb1⟩
  go_wp2_with fail
  refine (parse_is s _ _ HP.out _ hs).mono ?_
  rintro e w2 ⟨rfl, rfl⟩
  go_upto_region 3 with fail
  go_cut [6] (fun f wx => f = .bool (headB s) ∧ w1 = wx)
  case first =>
    by_cases hp : 0 < s.size
    · by_cases h48 : (s[0].toNat : Int) = 48
      · have H := Lib.hid (headB_48 s hp h48)
        have t1 : ((s[0].toNat : Int) != 48) = false := by simp [h48]
        clear h48
        go_wp2_with fail
        go_meet
        exact ⟨by rw [H.out], rfl⟩
      · have H := Lib.hid (headB_other s hp h48)
        have t1 : ((s[0].toNat : Int) != 48) = true := by simpa using h48
        clear h48
        go_wp2_with fail
        go_meet
        exact ⟨by rw [H.out], rfl⟩
    · have H := Lib.hid (headB_none s hp)
      go_wp2_with fail
      go_meet
      exact ⟨by rw [H.out], rfl⟩
  case rest =>
    obtain ⟨rfl, rfl⟩ := hcut
    go_wp2_with fail
    go_loopg [6, 7] s.size (fun k f i wr => RefRel s k f i ∧ w1 = wr)
    case atStart => exact ⟨⟨0, by omega, by omega, rfl, by simp⟩, rfl⟩
    case round =>
      obtain ⟨⟨j, hj, hk, rfl, rfl⟩, rfl⟩ := hrel
      have HK := Lib.hid hk
      clear hk
      generalize hb : (headB s && (s.data.toList.take j).all Amt.isDig) = b
      have HB := Lib.hid hb
      clear hb
      by_cases hlt : j < s.size
      · cases b with
        | false =>
          go_wp2_with fail
          go_roundg (s.size - (j + 1))
          case measure => rw [HK.out]; omega
          case rel => exact ⟨ref_step hlt HB.out rfl, rfl⟩
        | true =>
          rcases Nat.lt_or_ge s[j].toNat 48 with h48 | h48
          · have HD := Lib.hid (show Amt.isDig s[j] = false by simp [Amt.isDig]; omega)
            go_wp2_with fail
            go_roundg (s.size - (j + 1))
            case measure => rw [HK.out]; omega
            case rel => exact ⟨ref_step hlt HB.out (by rw [HD.out]; first | rfl | (simp; omega)), rfl⟩
          · rcases Nat.lt_or_ge 57 s[j].toNat with h57 | h57
            · have HD := Lib.hid (show Amt.isDig s[j] = false by simp [Amt.isDig]; omega)
              go_wp2_with fail
              go_roundg (s.size - (j + 1))
              case measure => rw [HK.out]; omega
              case rel => exact ⟨ref_step hlt HB.out (by rw [HD.out]; first | rfl | (simp; omega)), rfl⟩
            · have HD := Lib.hid (show Amt.isDig s[j] = true by simp [Amt.isDig]; omega)
              go_wp2_with fail
              go_roundg (s.size - (j + 1))
              case measure => rw [HK.out]; omega
              case rel => exact ⟨ref_step hlt HB.out (by rw [HD.out]; first | rfl | (simp; omega)), rfl⟩
      · obtain rfl : j = s.size := by omega
        have hb2 := HB.out
        rw [take_all, ← form_head] at hb2
        have hc := refuses_cases s
        rw [hb2, HP.out] at hc
        clear hb2
        rcases hc with ⟨rfl, h2⟩ | ⟨rfl, h1, h2⟩ | ⟨rfl, h1, m, h2⟩ | ⟨rfl, h1, h1', h2⟩
        all_goals
          simp only [Prod.mk.injEq] at h2
          obtain ⟨rfl, rfl⟩ := h2
          go_wp2_with fail
          go_ret
          exact ⟨rfl, hb1⟩
end Go.Proofs.Ytckehnippnpkaaa
