/-
  The walks of amount.Print and path.Print (cut out of the paths' seat's texts by gen_spth.py).
-/
import Derived.Test.YtichklplcpkjdaaDoorBase
import Derived.Test.YtichklplcpkjdaaDoorAmtMath
import Derived.Test.YtichklplcpkjdaaDoorPthMath
import Derived.Deep.RegionWith
import Derived.Deep.DeepCutAuto
namespace Go.Proofs.YtichklplcpkjdaaDoor
open Go.RowKit
set_option linter.unusedVariables false

def bcells (l : List UInt8) : Array Value := (l.map fun b => Value.int .u8 (b.toNat : Int)).toArray
theorem bcells_get (l : List UInt8) (i : Nat) (h : i < l.length) : (bcells l)[i]? = some (.int .u8 (l[i].toNat : Int)) := by
  simp [bcells, h]
theorem bcells_set (l : List UInt8) (i : Nat) (b : UInt8) : (bcells l).setIfInBounds i (.int .u8 (b.toNat : Int)) = bcells (l.set i b) := by
  simp [bcells, List.map_set]
theorem drop_set (l : List UInt8) (j : Nat) (b : UInt8) (h : j < l.length) : (l.set j b).drop j = b :: l.drop (j + 1) := by
  rw [List.drop_eq_getElem_cons (by simpa using h), List.drop_set]
  simp
theorem dig_byte (m : Nat) : ((48 + m % 10 : Nat) : Int) = ((UInt8.ofNat (48 + m % 10)).toNat : Int) := by
  rw [Amt.byte_dig (m % 10) (by omega)]
/-- the loop of Print: n is the number that is left, i the place, b whether a digit must come -/
def PrintRel (g : Nat) (w : World) (N : Nat) (k : Nat) (nn i ok : Value) (wr : World) : Prop :=
  ∃ (m : Nat) (b : Bool) (l : List UInt8), l.length = 20 ∧ k ≤ 20 ∧ m ≤ 18446744073709551615 ∧ nn = .int .u64 m ∧ i = .int .i64 k ∧ ok = .bool b ∧ Amt.dec N = Amt.ahead b m ++ l.drop k ∧ Blk wr g 91 (bcells l) ∧ Below g w wr

theorem print_step {g : Nat} {w wr : World} {N m j : Nat} {l : List UInt8} (hl : l.length = 20) (hj : j + 1 ≤ 20) (hm : m ≤ 18446744073709551615) (hd : Amt.dec N = Amt.ahead true m ++ l.drop (j + 1)) (hb : Blk wr g 91 (bcells l)) (hbel : Below g w wr) :
    PrintRel g w N j (.int .u64 ((m : Int) / 10)) (.int .i64 (j : Int)) (.bool (decide (0 < (m : Int) / 10))) (wr.setCell ⟨g, j, none⟩ (.int .u8 (48 + (m : Int) % 10))) := by
  refine ⟨m / 10, decide (0 < m / 10), l.set j (UInt8.ofNat (48 + m % 10)), by simp [hl], by omega, by omega, by congr 1, rfl, ?_, ?_, ?_, hbel.setCell (Nat.le_refl _) _⟩
  · congr 1
    rw [decide_eq_decide]
    omega
  · rw [drop_set l j _ (by omega), hd, Amt.ahead, if_pos rfl, Amt.dec_step m]
    simp
  · have h1 := hb.set_ j (.int .u8 (48 + (m : Int) % 10))
    have h2 : (48 + (m : Int) % 10) = ((UInt8.ofNat (48 + m % 10)).toNat : Int) := by
      rw [← dig_byte]; omega
    rw [h2, bcells_set, ← h2] at h1
    exact h1

set_option maxHeartbeats 400000 in
theorem print_any (n : Int) (w : World) (h0 : 0 ≤ n) (h1 : n ≤ 18446744073709551615) :
    Calls Tryd.prog 41 #[.int .u64 n] w fun e w' => e = .returned (.string ⟨(Amt.dec n.toNat).toArray⟩) ∧ Below w.heap.size w w' := by
  obtain ⟨N, rfl⟩ := Int.eq_ofNat_of_zero_le h0
  have hN : (Amt.dec N).length ≤ 20 := Amt.dec_len_le N (by omega)
  go_enter Tryd.func41, Tryd.ntmps41
  go_wp2
  go_loopg [0, 4, 5] 20 (fun k nn i ok wr => PrintRel w.heap.size w N k nn i ok wr)
  case atStart => exact ⟨N, true, List.replicate 20 0, rfl, by omega, by omega, rfl, rfl, rfl, by simp [Amt.ahead], Blk.new _ _ _, (Below.refl _ _).alloc (Nat.le_refl _) _⟩
  case round =>
    obtain ⟨m, b, l, hl, hk, hm, rfl, rfl, rfl, hd, hb, hbel⟩ := hrel
    have HL := Lib.hid hl
    clear hl
    have HD := Lib.hid hd
    clear hd
    cases b with
    | true =>
      have hk1 : 1 ≤ gk := by
        have h1 := congrArg List.length HD.out
        have h2 := Amt.dec_length_pos m
        simp [Amt.ahead, HL.out] at h1
        omega
      obtain ⟨j, rfl⟩ : ∃ j, gk = j + 1 := ⟨gk - 1, by omega⟩
      have hc := hb.cell j
      rw [bcells_get l j (by rw [HL.out]; omega)] at hc
      have hf := hb.frozen j
      go_wp2
      go_roundg j
      case rel => exact print_step HL.out hk hm HD.out hb hbel
      case measure => omega
    | false =>
      have hlen : gk < 20 := by
        have h1 := congrArg List.length HD.out
        have h2 := Amt.dec_length_pos N
        simp [Amt.ahead, HL.out] at h1
        omega
      have hcv : ∀ cap, (convert 68 9 (.slice (some ⟨w.heap.size, gk, none⟩) (20 - gk) cap)).run Tryd.prog wr = .ok (.string ⟨(Amt.dec N).toArray⟩) wr := by
        intro cap
        have h3 := run_convert_bytes_back (P := Tryd.prog) wr 68 9 5 ⟨w.heap.size, gk, none⟩ cap (l.drop gk) Tryd.underlying68 Tryd.underlying5 Tryd.underlying9 (fun j hj => by
          have hj' : gk + j < l.length := by simp at hj; omega
          have : (⟨w.heap.size, gk, none⟩ : Addr).add j = ⟨w.heap.size, gk + j, none⟩ := by simp [Addr.add]
          rw [this, hb.cell, bcells_get l _ hj', List.getElem_drop])
        have h4 := HD.out
        simp only [Amt.ahead, Bool.false_eq_true, if_false, List.nil_append] at h4
        rw [h4]
        simpa [HL.out] using h3
      have hk' : (gk : Int) ≤ 20 := by omega
      have hne : ¬ 20 = gk := by omega
      go_wp2
      go_ret
      exact ⟨rfl, hbel⟩

theorem print_is (n : Int) (X : List UInt8) (h : Hid (Amt.dec n.toNat = X)) (w : World) (h0 : 0 ≤ n) (h1 : n ≤ 18446744073709551615) :
    Calls Tryd.prog 41 #[.int .u64 n] w fun r w' => r = .returned (.string ⟨X.toArray⟩) ∧ Below w.heap.size w w' :=
  (print_any n w h0 h1).mono fun _ _ ⟨he, hw⟩ => ⟨by rw [he, h.out], hw⟩
/-- the cells of the table of forms -/
def formsA : Array Value := #[.string ⟨#[]⟩, .string ⟨#[]⟩, .bool false, .string ⟨(Pth.fm 1).1.toArray⟩, .string ⟨(Pth.fm 1).2.1.toArray⟩, .bool (Pth.fm 1).2.2, .string ⟨(Pth.fm 2).1.toArray⟩, .string ⟨(Pth.fm 2).2.1.toArray⟩, .bool (Pth.fm 2).2.2, .string ⟨(Pth.fm 3).1.toArray⟩, .string ⟨(Pth.fm 3).2.1.toArray⟩, .bool (Pth.fm 3).2.2, .string ⟨(Pth.fm 4).1.toArray⟩, .string ⟨(Pth.fm 4).2.1.toArray⟩, .bool (Pth.fm 4).2.2, .string ⟨(Pth.fm 5).1.toArray⟩, .string ⟨(Pth.fm 5).2.1.toArray⟩, .bool (Pth.fm 5).2.2, .string ⟨(Pth.fm 6).1.toArray⟩, .string ⟨(Pth.fm 6).2.1.toArray⟩, .bool (Pth.fm 6).2.2, .string ⟨(Pth.fm 7).1.toArray⟩, .string ⟨(Pth.fm 7).2.1.toArray⟩, .bool (Pth.fm 7).2.2, .string ⟨(Pth.fm 8).1.toArray⟩, .string ⟨(Pth.fm 8).2.1.toArray⟩, .bool (Pth.fm 8).2.2]
theorem ix0 (w : World) : (Instr.index 80 (.agg formsA) (.int .i64 0)).run Tryd.prog w = .ok (.agg #[.string ⟨(Pth.fm 0).1.toArray⟩, .string ⟨(Pth.fm 0).2.1.toArray⟩, .bool (Pth.fm 0).2.2]) w := by kernel_rfl
theorem ix1 (w : World) : (Instr.index 80 (.agg formsA) (.int .i64 1)).run Tryd.prog w = .ok (.agg #[.string ⟨(Pth.fm 1).1.toArray⟩, .string ⟨(Pth.fm 1).2.1.toArray⟩, .bool (Pth.fm 1).2.2]) w := by kernel_rfl
theorem ix2 (w : World) : (Instr.index 80 (.agg formsA) (.int .i64 2)).run Tryd.prog w = .ok (.agg #[.string ⟨(Pth.fm 2).1.toArray⟩, .string ⟨(Pth.fm 2).2.1.toArray⟩, .bool (Pth.fm 2).2.2]) w := by kernel_rfl
theorem ix3 (w : World) : (Instr.index 80 (.agg formsA) (.int .i64 3)).run Tryd.prog w = .ok (.agg #[.string ⟨(Pth.fm 3).1.toArray⟩, .string ⟨(Pth.fm 3).2.1.toArray⟩, .bool (Pth.fm 3).2.2]) w := by kernel_rfl
theorem ix4 (w : World) : (Instr.index 80 (.agg formsA) (.int .i64 4)).run Tryd.prog w = .ok (.agg #[.string ⟨(Pth.fm 4).1.toArray⟩, .string ⟨(Pth.fm 4).2.1.toArray⟩, .bool (Pth.fm 4).2.2]) w := by kernel_rfl
theorem ix5 (w : World) : (Instr.index 80 (.agg formsA) (.int .i64 5)).run Tryd.prog w = .ok (.agg #[.string ⟨(Pth.fm 5).1.toArray⟩, .string ⟨(Pth.fm 5).2.1.toArray⟩, .bool (Pth.fm 5).2.2]) w := by kernel_rfl
theorem ix6 (w : World) : (Instr.index 80 (.agg formsA) (.int .i64 6)).run Tryd.prog w = .ok (.agg #[.string ⟨(Pth.fm 6).1.toArray⟩, .string ⟨(Pth.fm 6).2.1.toArray⟩, .bool (Pth.fm 6).2.2]) w := by kernel_rfl
theorem ix7 (w : World) : (Instr.index 80 (.agg formsA) (.int .i64 7)).run Tryd.prog w = .ok (.agg #[.string ⟨(Pth.fm 7).1.toArray⟩, .string ⟨(Pth.fm 7).2.1.toArray⟩, .bool (Pth.fm 7).2.2]) w := by kernel_rfl
theorem ix8 (w : World) : (Instr.index 80 (.agg formsA) (.int .i64 8)).run Tryd.prog w = .ok (.agg #[.string ⟨(Pth.fm 8).1.toArray⟩, .string ⟨(Pth.fm 8).2.1.toArray⟩, .bool (Pth.fm 8).2.2]) w := by kernel_rfl
theorem index_forms (j : Nat) (hj : j ≤ 8) (w : World) : (Instr.index 80 (.agg formsA) (.int .i64 (j : Int))).run Tryd.prog w = .ok (.agg #[.string ⟨(Pth.fm j).1.toArray⟩, .string ⟨(Pth.fm j).2.1.toArray⟩, .bool (Pth.fm j).2.2]) w := by
  have : j = 0 ∨ j = 1 ∨ j = 2 ∨ j = 3 ∨ j = 4 ∨ j = 5 ∨ j = 6 ∨ j = 7 ∨ j = 8 := by omega
  rcases this with rfl | rfl | rfl | rfl | rfl | rfl | rfl | rfl | rfl
  · exact ix0 w
  · exact ix1 w
  · exact ix2 w
  · exact ix3 w
  · exact ix4 w
  · exact ix5 w
  · exact ix6 w
  · exact ix7 w
  · exact ix8 w
/-- the table of forms -/
def FormsAt (w : World) : Prop := (∃ t fr, w.heap[0]? = some (.cells formsA t fr)) ∧ 0 < w.heap.size
theorem FormsAt.below {w w' : World} (h : FormsAt w) (hb : Below w.heap.size w w') : FormsAt w' := by
  obtain ⟨⟨t, fr, h1⟩, h4⟩ := h
  exact ⟨⟨t, fr, (hb.block _ h4).trans h1⟩, Nat.lt_of_lt_of_le h4 hb.size⟩
theorem form_cell (k : Nat) (h8 : k ≤ 8) : formsA[k * 3]? = some (.string ⟨(Pth.fm k).1.toArray⟩) ∧ formsA[k * 3 + 1]? = some (.string ⟨(Pth.fm k).2.1.toArray⟩) ∧ formsA[k * 3 + 2]? = some (.bool (Pth.fm k).2.2) := by
  have : k = 0 ∨ k = 1 ∨ k = 2 ∨ k = 3 ∨ k = 4 ∨ k = 5 ∨ k = 6 ∨ k = 7 ∨ k = 8 := by omega
  rcases this with rfl | rfl | rfl | rfl | rfl | rfl | rfl | rfl | rfl <;> exact ⟨rfl, rfl, rfl⟩

theorem kept {W w2 : World} {B i : Nat} {v : Value} (hb : Below W.heap.size W w2) (hlt : B < W.heap.size) (h : W.cell? ⟨B, i, none⟩ = some v) : w2.cell? ⟨B, i, none⟩ = some v := (hb.cell (p := ⟨B, i, none⟩) hlt).trans h
theorem two_new (w : World) (p f : Array Value) (tp tf : TypeId) (i : Nat) : ((w.alloc (.cells p tp)).alloc (.cells f tf)).cell? ⟨w.heap.size + 1, i, none⟩ = f[i]? := by
  simp
theorem two_old (w : World) (p f : Array Value) (tp tf : TypeId) (i : Nat) : ((w.alloc (.cells p tp)).alloc (.cells f tf)).cell? ⟨w.heap.size, i, none⟩ = p[i]? := by
  rw [World.cell?_alloc_lt _ _ _ (by simp)]
  exact World.cell?_alloc_mark w p tp (0, 0) i
/-- the head of Print's answer: what stands ahead, the number, what stands behind -/
theorem pprint_bad (k a b : Int) (w : World) (h : k < 1 ∨ 8 < k) :
    Calls Tryd.prog 30 #[.agg #[.int .i64 k, .int .u64 a, .int .u64 b]] w fun e w' => e = .returned (.tuple #[.string ⟨#[]⟩, .int .i64 40]) ∧ Below w.heap.size w w' := by
  rcases h with h | h
  · go_enter Tryd.func30, Tryd.ntmps30
    go_wp2_with fail
    go_ret2
    exact ⟨rfl, (Below.refl _ _).alloc (Nat.le_refl _) _⟩
  · have t1 : ¬ k < 1 := by omega
    have t2 : 9 ≤ k := by omega
    go_enter Tryd.func30, Tryd.ntmps30
    go_wp2_with fail
    go_ret2
    exact ⟨rfl, (Below.refl _ _).alloc (Nat.le_refl _) _⟩

/-- what Print answers at a kind that is one -/
def PrintAns (k : Nat) (a b : Int) (e : Ending) : Prop :=
  ((Pth.fm k).2.2 = true ∨ b = 0) ∧ e = .returned (.tuple #[.string ⟨(Pth.text k a.toNat b.toNat).toArray⟩, .int .i64 0]) ∨ (¬ ((Pth.fm k).2.2 = true ∨ b = 0)) ∧ e = .returned (.tuple #[.string ⟨#[]⟩, .int .i64 40])

set_option maxHeartbeats 1000000 in
theorem pprint_good (k : Nat) (a b : Int) (w : World) (h1 : 1 ≤ k) (h8 : k ≤ 8) (a0 : 0 ≤ a) (a1 : a ≤ 18446744073709551615) (b0 : 0 ≤ b) (b1 : b ≤ 18446744073709551615) (G : FormsAt w) :
    Calls Tryd.prog 30 #[.agg #[.int .i64 k, .int .u64 a, .int .u64 b]] w fun e w' => PrintAns k a b e ∧ Below w.heap.size w w' := by
  have t1 : decide ((k : Int) < 1) = false := decide_eq_false (by omega)
  have t2 : decide (9 ≤ (k : Int)) = false := decide_eq_false (by omega)
  have hl := Pth.fm_len h1 h8
  obtain ⟨⟨t, fr, hf0⟩, hg⟩ := G
  obtain ⟨q0, q1, q2⟩ := form_cell k h8
  have HT : Hid (Pth.text k a.toNat b.toNat = (Pth.fm k).1 ++ Amt.dec a.toNat ++ (Pth.fm k).2.1 ++ Pth.tail k b.toNat) := Lib.hid (by simp [Pth.text])
  have HTl : Hid (Pth.tail k b.toNat = if (Pth.fm k).2.2 then Amt.dec b.toNat else []) := Lib.hid rfl
  obtain ⟨ah, be, two, hf⟩ : ∃ ah be two, Pth.fm k = (ah, be, two) := ⟨_, _, _, rfl⟩
  rw [hf] at q0 q1 q2 hl HT HTl
  have HF := Lib.hid hf
  simp only at q0 q1 q2 hl HT HTl
  clear hf
  have c0 : ∀ o, (w.alloc o).cell? ⟨0, k * 3, none⟩ = some (.string ⟨ah.toArray⟩) := fun o => by rw [World.cell?_alloc_lt _ _ _ hg, cell_of_row w _ _ formsA t fr hf0, q0]
  have c1 : ∀ o, (w.alloc o).cell? ⟨0, k * 3 + 1, none⟩ = some (.string ⟨be.toArray⟩) := fun o => by rw [World.cell?_alloc_lt _ _ _ hg, cell_of_row w _ _ formsA t fr hf0, q1]
  have c2 : ∀ o, (w.alloc o).cell? ⟨0, k * 3 + 2, none⟩ = some (.bool two) := fun o => by rw [World.cell?_alloc_lt _ _ _ hg, cell_of_row w _ _ formsA t fr hf0, q2]
  clear q0 q1 q2 hf0 hg
  obtain ⟨hla, hlb⟩ := hl
  have hx := Amt.dec_len_le a.toNat (by omega)
  have hy := Amt.dec_len_le b.toNat (by omega)
  obtain ⟨X, hX⟩ : ∃ X, Amt.dec a.toNat = X := ⟨_, rfl⟩
  obtain ⟨Y, hY⟩ : ∃ Y, Amt.dec b.toNat = Y := ⟨_, rfl⟩
  rw [hX] at hx HT
  rw [hY] at hy HTl
  have HX := Lib.hid hX
  have HY := Lib.hid hY
  clear hX hY
  go_enter Tryd.func30, Tryd.ntmps30
  go_upto_region 4 with fail
  go_cut [5] (fun s5 wx => s5 = .string ⟨(ah ++ X ++ be).toArray⟩ ∧ Below ((w.alloc (.cells #[.int .i64 k, .int .u64 a, .int .u64 b] 25)).alloc (.cells #[.string ⟨ah.toArray⟩, .string ⟨be.toArray⟩, .bool two] 79)).heap.size ((w.alloc (.cells #[.int .i64 k, .int .u64 a, .int .u64 b] 25)).alloc (.cells #[.string ⟨ah.toArray⟩, .string ⟨be.toArray⟩, .bool two] 79)) wx)
  case first =>
    go_region_with (first
      | (go_at_call 41; refine (print_is a X HX _ a0 a1).mono ?_; rintro e w2 ⟨rfl, hb2⟩; have e1 := kept hb2 (by simp) (two_new w #[.int .i64 k, .int .u64 a, .int .u64 b] #[.string ⟨ah.toArray⟩, .string ⟨be.toArray⟩, .bool two] 25 79 0); have e2 := kept hb2 (by simp) (two_new w #[.int .i64 k, .int .u64 a, .int .u64 b] #[.string ⟨ah.toArray⟩, .string ⟨be.toArray⟩, .bool two] 25 79 1); have e3 := kept hb2 (by simp; omega) (two_old w #[.int .i64 k, .int .u64 a, .int .u64 b] #[.string ⟨ah.toArray⟩, .string ⟨be.toArray⟩, .bool two] 25 79 1)))
    all_goals go_wp2_with fail
    all_goals go_meet
    all_goals exact ⟨by rw [cat2, cat2], (Below.drew (Below.refl _ _)).trans hb2⟩
  case rest =>
    obtain ⟨rfl, hbx⟩ := hcut
    have e2 := kept hbx (by simp) (two_new w #[.int .i64 k, .int .u64 a, .int .u64 b] #[.string ⟨ah.toArray⟩, .string ⟨be.toArray⟩, .bool two] 25 79 2)
    have e3 := kept hbx (by simp; omega) (two_old w #[.int .i64 k, .int .u64 a, .int .u64 b] #[.string ⟨ah.toArray⟩, .string ⟨be.toArray⟩, .bool two] 25 79 2)
    have HB := Lib.hid hbx
    have hbw : Below w.heap.size w wc := (((Below.refl _ _).alloc (Nat.le_refl _) _).alloc (by simp) _).trans (hbx.mono (by simp; omega))
    clear hbx c0 c1 c2
    have hz : (ah ++ X ++ be).length ≤ 100 := by simp; omega
    generalize hZ : ah ++ X ++ be = Z at *
    cases two with
    | true =>
      simp only [if_true] at HTl
      have HR : Hid (Pth.text k a.toNat b.toNat = Z ++ Y) := Lib.hid (by rw [HT.out, HTl.out])
      clear HT HTl hZ
      go_wp2_with fail
      refine (print_is b Y HY _ b0 b1).mono ?_
      rintro e w2 ⟨rfl, hb2⟩
      go_wp2_with fail
      go_ret2
      refine ⟨?_, hbw.trans (hb2.mono hbw.size)⟩
      refine .inl ⟨.inl (by rw [HF.out]), ?_⟩
      rw [HR.out, ← cat2]
      rfl
    | false =>
      simp only [Bool.false_eq_true, if_false] at HTl
      have HR : Hid (Pth.text k a.toNat b.toNat = Z) := Lib.hid (by rw [HT.out, HTl.out, List.append_nil])
      clear HT HTl hZ
      by_cases hb0 : b = 0
      · have t3 : (b != 0) = false := by simp [hb0]
        have H0 := Lib.hid hb0
        clear hb0
        go_wp2_with fail
        go_ret2
        refine ⟨?_, hbw⟩
        refine .inl ⟨.inr H0.out, ?_⟩
        rw [HR.out]
        rfl
      · have t3 : (b != 0) = true := by simpa using hb0
        have H0 := Lib.hid hb0
        clear hb0
        go_wp2_with fail
        go_ret2
        refine ⟨?_, hbw⟩
        exact .inr ⟨by rw [HF.out]; simpa using H0.out, rfl⟩

end Go.Proofs.YtichklplcpkjdaaDoor
