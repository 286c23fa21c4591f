/-
  The walks of package amount: Print and Parse, and math/bits.Mul64 and Add64 beneath them.
-/
import Derived.Test.YtmhboacfnklbgaaDoorRows
import Derived.Test.YtmhboacfnklbgaaDoorAmtMath
import Derived.WalkKit
import Derived.WalkSpells
import Derived.WalkLawsBesides
import Derived.Laws.IdiomStrings
import Derived.Lib.Mul64
import Derived.Lib.Hide
import Derived.Deep.LoopGhost
import Derived.WalkMore
namespace Go.Proofs.YtmhboacfnklbgaaDoor
open Go.RowKit

namespace Mul
theorem maskN (a : Nat) (ha : a < 18446744073709551616) : bits .and .u64 (a : Int) 4294967295 = ((a % 4294967296 : Nat) : Int) := by
  have h := bits_and_u64_nat a 4294967295 ha (by omega)
  have e : a &&& 4294967295 = a % 4294967296 := Nat.and_two_pow_sub_one_eq_mod a 32
  rw [e] at h
  exact h
theorem divN (a : Nat) : (a : Int) / 4294967296 = ((a / 4294967296 : Nat) : Int) := by omega
theorem mulN (a b : Nat) : (a : Int) * (b : Int) = ((a * b : Nat) : Int) := (Int.natCast_mul a b).symm
theorem addN (a b : Nat) : (a : Int) + (b : Int) = ((a + b : Nat) : Int) := (Int.natCast_add a b).symm
theorem wrapN (a : Nat) (ha : a < 18446744073709551616) : IntKind.u64.wrap (a : Int) = (a : Int) := by rw [IntKind.wrap_u64]; omega
theorem wrapM (a : Nat) : IntKind.u64.wrap (a : Int) = ((a % 18446744073709551616 : Nat) : Int) := by rw [IntKind.wrap_u64]; omega
end Mul

set_option maxHeartbeats 1000000 in
theorem mul64 (x y : Nat) (hx : x < 18446744073709551616) (hy : y < 18446744073709551616) (w : World) :
    Calls Tryd.prog 29 #[.int .u64 x, .int .u64 y] w fun e w' => e = .returned (.tuple #[.int .u64 ((x * y / 18446744073709551616 : Nat) : Int), .int .u64 ((x * y % 18446744073709551616 : Nat) : Int)]) ∧ w = w' := by
  obtain ⟨bd, bt, bw, hhi⟩ := Lib.mul64_hi x y hx hy
  have ba := Lib.half_mul_le (a := x / 4294967296) (b := y / 4294967296) (by omega) (by omega)
  have bb := Lib.half_mul_le (a := x / 4294967296) (b := y % 4294967296) (by omega) (by omega)
  have bc := Lib.half_mul_le (a := x % 4294967296) (b := y / 4294967296) (by omega) (by omega)
  have ba' : x / 4294967296 * (y / 4294967296) < 18446744073709551616 := by omega
  have bb' : x / 4294967296 * (y % 4294967296) < 18446744073709551616 := by omega
  have bc' : x % 4294967296 * (y / 4294967296) < 18446744073709551616 := by omega
  have bh1 : x / 4294967296 * (y / 4294967296) + (x / 4294967296 * (y % 4294967296) + x % 4294967296 * (y % 4294967296) / 4294967296) / 4294967296 < 18446744073709551616 := by omega
  have bh : x / 4294967296 * (y / 4294967296) + (x / 4294967296 * (y % 4294967296) + x % 4294967296 * (y % 4294967296) / 4294967296) / 4294967296 + ((x / 4294967296 * (y % 4294967296) + x % 4294967296 * (y % 4294967296) / 4294967296) % 4294967296 + x % 4294967296 * (y / 4294967296)) / 4294967296 < 18446744073709551616 := by omega
  go_enter Tryd.func29, Tryd.ntmps29
  go_wp2
  simp only [Mul.maskN x hx, Mul.maskN y hy, Mul.divN, Mul.mulN, Mul.addN, Mul.wrapN _ bd, Mul.wrapN _ bb', Mul.wrapN _ bt, Mul.maskN _ bt, Mul.wrapN _ bc', Mul.wrapN _ bw, Mul.wrapN _ ba', Mul.wrapN _ bh1, Mul.wrapN _ bh, Mul.wrapM (x * y)]
  rw [hhi]
  go_ret2
  exact ⟨rfl, rfl⟩

theorem add64 (x y : Int) (hx : 0 ≤ x) (hy : 0 ≤ y) (w : World) :
    (callFunc 30 #[.int .u64 x, .int .u64 y, .int .u64 0]).run Tryd.prog w =
      .ok (.value (.tuple #[.int .u64 ((x + y) % 18446744073709551616), .int .u64 ((x + y) / 18446744073709551616)])) w := by
  rw [run_callFunc_extern Tryd.func30 (by kernel_rfl) (by kernel_rfl) (by kernel_rfl) (e := add64Entry) (by kernel_rfl), run_add64 x y 0 hx hy (by omega) (by omega)]
  simp only [Result.andThen, Int.add_zero]

/-- Block g is just the cells cs of type t, none frozen. -/
def Blk (w : World) (g : Nat) (t : TypeId) (cs : Array Value) : Prop := w.heap[g]? = some (.cells cs t (0, 0))
section
variable {w w' : World} {g : Nat} {t : TypeId} {cs : Array Value}
theorem Blk.lt (h : Blk w g t cs) : g < w.heap.size := by
  rcases Nat.lt_or_ge g w.heap.size with hlt | hge
  · exact hlt
  · unfold Blk at h; rw [Array.getElem?_eq_none hge] at h; cases h
theorem Blk.cell (h : Blk w g t cs) (i : Nat) : w.cell? ⟨g, i, none⟩ = cs[i]? := cell_of_row w g i cs t (0, 0) h
theorem Blk.frozen (h : Blk w g t cs) (i : Nat) : w.frozen? ⟨g, i, none⟩ = false := by
  unfold Blk at h
  simp [World.frozen?, h]
theorem Blk.new (w : World) (t : TypeId) (cs : Array Value) : Blk (w.alloc (.cells cs t)) w.heap.size t cs := heap_alloc_new w _
theorem Blk.set_ (h : Blk w g t cs) (i : Nat) (u : Value) : Blk (w.setCell ⟨g, i, none⟩ u) g t (cs.setIfInBounds i u) := by
  unfold Blk at h ⊢
  simp [World.setCell, Array.getElem?_modify, h]
end
/-- the cells of bytes -/
def bcells (l : List UInt8) : Array Value := (l.map fun b => Value.int .u8 (b.toNat : Int)).toArray
theorem bcells_get (l : List UInt8) (i : Nat) (h : i < l.length) : (bcells l)[i]? = some (.int .u8 (l[i].toNat : Int)) := by
  simp [bcells, h]
theorem bcells_set (l : List UInt8) (i : Nat) (b : UInt8) : (bcells l).setIfInBounds i (.int .u8 (b.toNat : Int)) = bcells (l.set i b) := by
  simp [bcells, List.map_set]
theorem drop_set (l : List UInt8) (j : Nat) (b : UInt8) (h : j < l.length) : (l.set j b).drop j = b :: l.drop (j + 1) := by
  rw [List.drop_eq_getElem_cons (by simpa using h), List.drop_set]
  simp
theorem dig_byte (m : Nat) : ((48 + m % 10 : Nat) : Int) = ((UInt8.ofNat (48 + m % 10)).toNat : Int) := by
  rw [Amt.byte_dig (m % 10) (by omega)]
/-- the loop of Print: n is the number that is left, i the place, b whether a digit must come -/
def PrintRel (g : Nat) (w : World) (N : Nat) (k : Nat) (nn i ok : Value) (wr : World) : Prop :=
  ∃ (m : Nat) (b : Bool) (l : List UInt8), l.length = 20 ∧ k ≤ 20 ∧ m ≤ 18446744073709551615 ∧ nn = .int .u64 m ∧ i = .int .i64 k ∧ ok = .bool b ∧ Amt.dec N = Amt.ahead b m ++ l.drop k ∧ Blk wr g 51 (bcells l) ∧ Below g w wr

theorem print_step {g : Nat} {w wr : World} {N m j : Nat} {l : List UInt8} (hl : l.length = 20) (hj : j + 1 ≤ 20) (hm : m ≤ 18446744073709551615) (hd : Amt.dec N = Amt.ahead true m ++ l.drop (j + 1)) (hb : Blk wr g 51 (bcells l)) (hbel : Below g w wr) :
    PrintRel g w N j (.int .u64 ((m : Int) / 10)) (.int .i64 (j : Int)) (.bool (decide (0 < (m : Int) / 10))) (wr.setCell ⟨g, j, none⟩ (.int .u8 (48 + (m : Int) % 10))) := by
  refine ⟨m / 10, decide (0 < m / 10), l.set j (UInt8.ofNat (48 + m % 10)), by simp [hl], by omega, by omega, by congr 1, rfl, ?_, ?_, ?_, hbel.setCell (Nat.le_refl _) _⟩
  · congr 1
    rw [decide_eq_decide]
    omega
  · rw [drop_set l j _ (by omega), hd, Amt.ahead, if_pos rfl, Amt.dec_step m]
    simp
  · have h1 := hb.set_ j (.int .u8 (48 + (m : Int) % 10))
    have h2 : (48 + (m : Int) % 10) = ((UInt8.ofNat (48 + m % 10)).toNat : Int) := by
      rw [← dig_byte]; omega
    rw [h2, bcells_set, ← h2] at h1
    exact h1

set_option maxHeartbeats 400000 in
theorem print_any (n : Int) (w : World) (h0 : 0 ≤ n) (h1 : n ≤ 18446744073709551615) :
    Calls Tryd.prog 17 #[.int .u64 n] w fun e w' => e = .returned (.string ⟨(Amt.dec n.toNat).toArray⟩) ∧ Below w.heap.size w w' := by
  obtain ⟨N, rfl⟩ := Int.eq_ofNat_of_zero_le h0
  have hN : (Amt.dec N).length ≤ 20 := Amt.dec_len_le N (by omega)
  go_enter Tryd.func17, Tryd.ntmps17
  go_wp2
  go_loopg [0, 4, 5] 20 (fun k nn i ok wr => PrintRel w.heap.size w N k nn i ok wr)
  case atStart => exact ⟨N, true, List.replicate 20 0, rfl, by omega, by omega, rfl, rfl, rfl, by simp [Amt.ahead], Blk.new _ _ _, (Below.refl _ _).alloc (Nat.le_refl _) _⟩
  case round =>
    obtain ⟨m, b, l, hl, hk, hm, rfl, rfl, rfl, hd, hb, hbel⟩ := hrel
    have HL := Lib.hid hl
    clear hl
    have HD := Lib.hid hd
    clear hd
    cases b with
    | true =>
      have hk1 : 1 ≤ gk := by
        have h1 := congrArg List.length HD.out
        have h2 := Amt.dec_length_pos m
        simp [Amt.ahead, HL.out] at h1
        omega
      obtain ⟨j, rfl⟩ : ∃ j, gk = j + 1 := ⟨gk - 1, by omega⟩
      have hc := hb.cell j
      rw [bcells_get l j (by rw [HL.out]; omega)] at hc
      have hf := hb.frozen j
      go_wp2
      go_roundg j
      case rel => exact print_step HL.out hk hm HD.out hb hbel
      case measure => omega
    | false =>
      have hlen : gk < 20 := by
        have h1 := congrArg List.length HD.out
        have h2 := Amt.dec_length_pos N
        simp [Amt.ahead, HL.out] at h1
        omega
      have hcv : ∀ cap, (convert 35 9 (.slice (some ⟨w.heap.size, gk, none⟩) (20 - gk) cap)).run Tryd.prog wr = .ok (.string ⟨(Amt.dec N).toArray⟩) wr := by
        intro cap
        have h3 := run_convert_bytes_back (P := Tryd.prog) wr 35 9 5 ⟨w.heap.size, gk, none⟩ cap (l.drop gk) Tryd.underlying35 Tryd.underlying5 Tryd.underlying9 (fun j hj => by
          have hj' : gk + j < l.length := by simp at hj; omega
          have : (⟨w.heap.size, gk, none⟩ : Addr).add j = ⟨w.heap.size, gk + j, none⟩ := by simp [Addr.add]
          rw [this, hb.cell, bcells_get l _ hj', List.getElem_drop])
        have h4 := HD.out
        simp only [Amt.ahead, Bool.false_eq_true, if_false, List.nil_append] at h4
        rw [h4]
        simpa [HL.out] using h3
      have hk' : (gk : Int) ≤ 20 := by omega
      have hne : ¬ 20 = gk := by omega
      go_wp2
      go_ret
      exact ⟨rfl, hbel⟩

/-- Parse's loop: i the place, n the number so far, over whether it is beyond -/
def ParseRel (s : ByteArray) (k : Nat) (n e over i : Value) : Prop :=
  ∃ (j : Nat) (m : Nat) (b : Bool), j ≤ s.size ∧ k = s.size - j ∧ m ≤ 18446744073709551615 ∧ i = .int .i64 j ∧ n = .int .u64 m ∧ over = .bool b ∧ e = .int .i64 0 ∧
    (s.data.toList.take j).all Amt.isDig = true ∧ b = decide (18446744073709551616 ≤ Amt.val (s.data.toList.take j)) ∧ (b = false → m = Amt.val (s.data.toList.take j))

theorem len_data (s : ByteArray) : s.data.toList.length = s.size := Array.length_toList
theorem isEmpty_false (s : ByteArray) (h : 0 < s.size) : s.toList.isEmpty = false := by
  rw [ByteArray.toList_eq]
  have := len_data s
  cases h2 : s.data.toList with
  | nil => rw [h2] at this; simp at this; omega
  | cons a r => rfl
theorem take_snoc (s : ByteArray) (k : Nat) (h : k < s.size) : s.data.toList.take (k + 1) = s.data.toList.take k ++ [s[k]] := by
  rw [List.take_succ_eq_append_getElem (by simpa using h)]; rfl
theorem take_all (s : ByteArray) : s.data.toList.take s.size = s.data.toList := List.take_of_length_le (by rw [len_data]; omega)
theorem parse_at_bad (s : ByteArray) (j : Nat) (hj : j < s.size) (h : ¬ (48 ≤ (s[j].toNat : Int) ∧ (s[j].toNat : Int) ≤ 57)) : Amt.parse s.data.toList = (0, 30) := by
  refine Amt.parse_bad ?_
  have hb : Amt.isDig s[j] = false := by
    unfold Amt.isDig
    rw [Bool.and_eq_false_iff]
    by_cases h1 : 48 ≤ s[j].toNat
    · right; simp; omega
    · left; simp; omega
  have : s.data.toList.all Amt.isDig = false := by
    rw [List.all_eq_false]
    exact ⟨s[j], by simp [ByteArray.getElem_eq_getElem_data], by simp [hb]⟩
  simp [Amt.form, this]
theorem form_of (s : ByteArray) (hp : 0 < s.size) (z : Bool) (hz : ((s[0].toNat : Int) == 48) = z) (hz1 : z = true → (s.toList == [48]) = true) (h : (s.data.toList.take s.size).all Amt.isDig = true) : Amt.form s.data.toList = true := by
  rw [take_all] at h
  unfold Amt.form
  rw [h]
  have hne : s.data.toList.isEmpty = false := by have := isEmpty_false s hp; rwa [ByteArray.toList_eq] at this
  rw [hne]
  cases z with
  | true =>
    have := hz1 rfl
    rw [ByteArray.toList_eq, beq_iff_eq] at this
    rw [this]
    decide
  | false =>
    have h48 : s.data.toList.head? ≠ some 48 := by
      intro e
      have h0 : s.data.toList[0]? = some s[0] := by simp [ByteArray.getElem_eq_getElem_data]
      rw [List.head?_eq_getElem?, h0] at e
      have e1 : s[0] = 48 := by simpa using e
      rw [e1] at hz
      simp at hz
    simp [h48]
theorem mul10 (m : Nat) (hm : m ≤ 18446744073709551615) (w : World) :
    Calls Tryd.prog 29 #[.int .u64 (m : Int), .int .u64 10] w fun e w' => ∃ hi lo : Nat, hi ≤ 9 ∧ lo ≤ 18446744073709551615 ∧ Hid (m * 10 = hi * 18446744073709551616 + lo) ∧ e = .returned (.tuple #[.int .u64 (hi : Int), .int .u64 (lo : Int)]) ∧ w = w' :=
  (mul64 m 10 (by omega) (by omega) w).mono fun _ _ ⟨he, hw⟩ => ⟨m * 10 / 18446744073709551616, m * 10 % 18446744073709551616, by omega, by omega, Lib.hid (by omega), he, hw⟩
theorem step_false {s : ByteArray} {j m hi lo : Nat} (hj : j < s.size) (hd : (s.data.toList.take j).all Amt.isDig = true) (hv : m = Amt.val (s.data.toList.take j)) 
    (_h9 : hi ≤ 9) (_hlo : lo ≤ 18446744073709551615) (hmul : m * 10 = hi * 18446744073709551616 + lo) (h1 : 48 ≤ (s[j].toNat : Int)) (h2 : (s[j].toNat : Int) ≤ 57) :
    ParseRel s (s.size - (j + 1)) (.int .u64 (((lo : Int) + ((s[j].toNat : Int) - 48)) % 18446744073709551616)) (.int .i64 0) (.bool (decide (0 < (hi : Int) + ((lo : Int) + ((s[j].toNat : Int) - 48)) / 18446744073709551616))) (.int .i64 ((j : Int) + 1)) := by
  have hval : Amt.val (s.data.toList.take (j + 1)) = 10 * m + (s[j].toNat - 48) := by rw [take_snoc s j hj, Amt.val_snoc, hv]
  refine ⟨j + 1, (lo + (s[j].toNat - 48)) % 18446744073709551616, _, by omega, rfl, by omega, by simp, ?_, rfl, rfl, ?_, ?_, ?_⟩
  · congr 1; omega
  · rw [take_snoc s j hj, List.all_append, hd]
    simp [Amt.isDig]; omega
  · rw [hval, decide_eq_decide]; omega
  · intro hf
    rw [hval]
    have := of_decide_eq_false hf
    omega
theorem step_true {s : ByteArray} {j m : Nat} (hj : j < s.size) (hd : (s.data.toList.take j).all Amt.isDig = true) (hb : true = decide (18446744073709551616 ≤ Amt.val (s.data.toList.take j)))
    (hm : m ≤ 18446744073709551615) (h1 : 48 ≤ (s[j].toNat : Int)) (h2 : (s[j].toNat : Int) ≤ 57) :
    ParseRel s (s.size - (j + 1)) (.int .u64 (m : Int)) (.int .i64 0) (.bool true) (.int .i64 ((j : Int) + 1)) := by
  have hval : Amt.val (s.data.toList.take (j + 1)) = 10 * Amt.val (s.data.toList.take j) + (s[j].toNat - 48) := by rw [take_snoc s j hj, Amt.val_snoc]
  have hb' := of_decide_eq_true hb.symm
  refine ⟨j + 1, m, true, by omega, rfl, hm, by simp, rfl, rfl, rfl, ?_, ?_, by simp⟩
  · rw [take_snoc s j hj, List.all_append, hd]
    simp [Amt.isDig]; omega
  · rw [hval]; symm; simp; omega

set_option maxHeartbeats 1000000 in
theorem parse_loops (s : ByteArray) (w : World) (hs : s.size ≤ maxLen) (hp : 0 < s.size) (z : Bool) (hz : ((s[0].toNat : Int) == 48) = z) (hz1 : z = true → (s.toList == [48]) = true) :
    Calls Tryd.prog 24 #[.string s] w fun e w' => e = .returned (.tuple #[.int .u64 (Amt.parse s.data.toList).1, .int .i64 (Amt.parse s.data.toList).2]) ∧ w = w' := by
  unfold maxLen at hs
  have he := isEmpty_false s hp
  have hfo := Lib.hid (form_of s hp z hz hz1)
  have hadd := fun (x y : Int) (hx : 0 ≤ x) (hy : 0 ≤ y) (W : World) => add64 x y hx hy W
  have hz2 : z = true → (s.toList == [48]) = true := hz1
  clear hz1
  obtain ⟨q, hq⟩ : ∃ q : Bool, (s.toList == [48]) = q := ⟨_, rfl⟩
  rw [hq] at hz2
  cases z
  case' false => clear hz2
  case' true => obtain rfl := hz2 rfl; clear hz2
  all_goals
    go_enter Tryd.func24, Tryd.ntmps24
    go_wp2_with fail
    go_step3
    go_wp2_with fail
    go_step3
    go_wp2_with fail
    go_loopg [2, 3, 4, 24] s.size (fun k n e over i wr => ParseRel s k n e over i ∧ w = wr)
    case atStart => exact ⟨⟨0, 0, false, by omega, by omega, by omega, rfl, rfl, rfl, rfl, rfl, by simp [Amt.val], by simp [Amt.val]⟩, rfl⟩
    case round =>
      obtain ⟨⟨j, m, b, hj, hk, hm, rfl, rfl, rfl, rfl, hd, hb, hv⟩, rfl⟩ := hrel
      have HD := Lib.hid hd
      have HB := Lib.hid hb
      have HV := Lib.hid hv
      have HK := Lib.hid hk
      clear hd hb hv hk
      by_cases hlt : j < s.size
      · by_cases hdig : 48 ≤ (s[j].toNat : Int) ∧ (s[j].toNat : Int) ≤ 57
        · obtain ⟨h48, h57⟩ := hdig
          cases b with
          | true =>
            go_wp2_with fail
            go_roundg (s.size - (j + 1))
            case measure => rw [HK.out]; omega
            case rel => exact ⟨step_true hlt HD.out HB.out hm h48 h57, rfl⟩
          | false =>
            have HV1 := Lib.hid (HV.out rfl)
            clear HV
            go_wp2_with fail
            refine (mul10 m hm _).mono ?_
            rintro e w' ⟨hi, lo, h9, hlo, HM, rfl, rfl⟩
            go_wp2_with fail
            go_roundg (s.size - (j + 1))
            case measure => rw [HK.out]; omega
            case rel => exact ⟨step_false hlt HD.out HV1.out h9 hlo HM.out h48 h57, rfl⟩
        · have HP := Lib.hid (parse_at_bad s j hlt hdig)
          rcases Nat.lt_or_ge s[j].toNat 48 with h48 | h48
          · clear hdig
            go_wp2_with fail
            go_ret2
            exact ⟨by rw [HP.out]; rfl, rfl⟩
          · have h57 : 57 < (s[j].toNat : Int) := by omega
            clear hdig
            go_wp2_with fail
            try rw [Exit.noGoto_ret]
            go_ret2
            exact ⟨by rw [HP.out]; rfl, rfl⟩
      · obtain rfl : j = s.size := by omega
        have HF := Lib.hid (hfo.out HD.out)
        cases b with
        | true =>
          have HP := Lib.hid (Amt.parse_over HF.out (by have := HB.out; rw [take_all] at this; exact of_decide_eq_true this.symm))
          go_wp2_with fail
          try rw [Exit.noGoto_ret]
          go_ret2
          exact ⟨by rw [HP.out]; rfl, rfl⟩
        | false =>
          have HP := Lib.hid (Amt.parse_good HF.out (by have := HB.out; rw [take_all] at this; have := of_decide_eq_false this.symm; omega))
          have HM := HV.out rfl
          rw [take_all] at HM
          have HN := Lib.hid HM
          clear HM
          go_wp2_with fail
          try rw [Exit.noGoto_ret]
          go_ret2
          exact ⟨by rw [HP.out, ← HN.out]; rfl, rfl⟩

set_option maxHeartbeats 400000 in
theorem parse_empty (s : ByteArray) (w : World) (h0 : s.size = 0) :
    Calls Tryd.prog 24 #[.string s] w fun e w' => e = .returned (.tuple #[.int .u64 (Amt.parse s.data.toList).1, .int .i64 (Amt.parse s.data.toList).2]) ∧ w = w' := by
  have h1 : s.data.toList = [] := List.eq_nil_of_length_eq_zero (by rw [len_data]; exact h0)
  have HP := Lib.hid (show Amt.parse s.data.toList = (0, 30) by rw [h1]; decide)
  have he : s.toList.isEmpty = true := by rw [ByteArray.toList_eq, h1]; rfl
  clear h1 h0
  go_enter Tryd.func24, Tryd.ntmps24
  go_wp2_with fail
  go_step3
  go_wp2_with fail
  rw [Exit.noGoto_ret]
  go_ret2
  exact ⟨by rw [HP.out]; rfl, rfl⟩

set_option maxHeartbeats 400000 in
theorem parse_zero (s : ByteArray) (w : World) (hp : 0 < s.size) (hz : ((s[0].toNat : Int) == 48) = true) (hn : (s.toList == [48]) = false) :
    Calls Tryd.prog 24 #[.string s] w fun e w' => e = .returned (.tuple #[.int .u64 (Amt.parse s.data.toList).1, .int .i64 (Amt.parse s.data.toList).2]) ∧ w = w' := by
  have he := isEmpty_false s hp
  have HP : Hid (Amt.parse s.data.toList = (0, 30)) := by
    refine Lib.hid (Amt.parse_bad ?_)
    have h0 : s.data.toList[0]? = some s[0] := by simp [ByteArray.getElem_eq_getElem_data]
    have h48 : s[0] = 48 := UInt8.toNat_inj.1 (by have := beq_iff_eq.1 hz; simp; omega)
    rw [ByteArray.toList_eq] at hn
    cases hl : s.data.toList with
    | nil => simp [hl] at h0
    | cons a r =>
      rw [hl] at h0 hn
      have : a = 48 := by simpa [h48] using h0
      subst this
      cases r with
      | nil => simp at hn
      | cons b r => simp [Amt.form]
  go_enter Tryd.func24, Tryd.ntmps24
  go_wp2_with fail
  go_step3
  go_wp2_with fail
  try rw [Exit.noGoto_ret]
  go_ret2
  exact ⟨by rw [HP.out]; rfl, rfl⟩

/-- Parse, whatever the text -/
theorem parse_any (s : ByteArray) (w : World) (hs : s.size ≤ maxLen) :
    Calls Tryd.prog 24 #[.string s] w fun e w' => e = .returned (.tuple #[.int .u64 (Amt.parse s.data.toList).1, .int .i64 (Amt.parse s.data.toList).2]) ∧ w = w' := by
  by_cases h0 : s.size = 0
  · exact parse_empty s w h0
  · have hp : 0 < s.size := by omega
    rcases hz : ((s[0].toNat : Int) == 48) with _ | _
    · exact parse_loops s w hs hp false hz (fun h => by cases h)
    · rcases hn : (s.toList == [48]) with _ | _
      · exact parse_zero s w hp hz hn
      · exact parse_loops s w hs hp true hz (fun _ => hn)
end Go.Proofs.YtmhboacfnklbgaaDoor
