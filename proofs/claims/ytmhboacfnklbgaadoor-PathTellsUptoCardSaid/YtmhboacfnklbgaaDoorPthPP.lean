/-
  The walks of path.Parse and path.Print.
-/
import Derived.Test.YtmhboacfnklbgaaDoorPthWalk
namespace Go.Proofs.YtmhboacfnklbgaaDoor
open Go.RowKit
set_option linter.unusedVariables false

theorem form_cell (k : Nat) (h8 : k ≤ 8) : formsA[k * 3]? = some (.string ⟨(Pth.fm k).1.toArray⟩) ∧ formsA[k * 3 + 1]? = some (.string ⟨(Pth.fm k).2.1.toArray⟩) ∧ formsA[k * 3 + 2]? = some (.bool (Pth.fm k).2.2) := by
  have : k = 0 ∨ k = 1 ∨ k = 2 ∨ k = 3 ∨ k = 4 ∨ k = 5 ∨ k = 6 ∨ k = 7 ∨ k = 8 := by omega
  rcases this with rfl | rfl | rfl | rfl | rfl | rfl | rfl | rfl | rfl <;> exact ⟨rfl, rfl, rfl⟩
theorem cat2 (X Y : List UInt8) : (⟨X.toArray⟩ ++ ⟨Y.toArray⟩ : ByteArray) = ⟨(X ++ Y).toArray⟩ := by
  apply ByteArray.ext; simp

theorem kept {W w2 : World} {B i : Nat} {v : Value} (hb : Below W.heap.size W w2) (hlt : B < W.heap.size) (h : W.cell? ⟨B, i, none⟩ = some v) : w2.cell? ⟨B, i, none⟩ = some v := (hb.cell (p := ⟨B, i, none⟩) hlt).trans h
theorem two_new (w : World) (p f : Array Value) (tp tf : TypeId) (i : Nat) : ((w.alloc (.cells p tp)).alloc (.cells f tf)).cell? ⟨w.heap.size + 1, i, none⟩ = f[i]? := by
  simp
theorem two_old (w : World) (p f : Array Value) (tp tf : TypeId) (i : Nat) : ((w.alloc (.cells p tp)).alloc (.cells f tf)).cell? ⟨w.heap.size, i, none⟩ = p[i]? := by
  rw [World.cell?_alloc_lt _ _ _ (by simp)]
  exact World.cell?_alloc_mark w p tp (0, 0) i
/-- the head of Print's answer: what stands ahead, the number, what stands behind -/
theorem pprint_bad (k a b : Int) (w : World) (h : k < 1 ∨ 8 < k) :
    Calls Tryd.prog 10 #[.agg #[.int .i64 k, .int .u64 a, .int .u64 b]] w fun e w' => e = .returned (.tuple #[.string ⟨#[]⟩, .int .i64 40]) ∧ Below w.heap.size w w' := by
  rcases h with h | h
  · go_enter Tryd.func10, Tryd.ntmps10
    go_wp2_with fail
    go_ret2
    exact ⟨rfl, (Below.refl _ _).alloc (Nat.le_refl _) _⟩
  · have t1 : ¬ k < 1 := by omega
    have t2 : 9 ≤ k := by omega
    go_enter Tryd.func10, Tryd.ntmps10
    go_wp2_with fail
    go_ret2
    exact ⟨rfl, (Below.refl _ _).alloc (Nat.le_refl _) _⟩

/-- what Print answers at a kind that is one -/
def PrintAns (k : Nat) (a b : Int) (e : Ending) : Prop :=
  ((Pth.fm k).2.2 = true ∨ b = 0) ∧ e = .returned (.tuple #[.string ⟨(Pth.text k a.toNat b.toNat).toArray⟩, .int .i64 0]) ∨ (¬ ((Pth.fm k).2.2 = true ∨ b = 0)) ∧ e = .returned (.tuple #[.string ⟨#[]⟩, .int .i64 40])

set_option maxHeartbeats 1000000 in
theorem pprint_good (k : Nat) (a b : Int) (w : World) (h1 : 1 ≤ k) (h8 : k ≤ 8) (a0 : 0 ≤ a) (a1 : a ≤ 18446744073709551615) (b0 : 0 ≤ b) (b1 : b ≤ 18446744073709551615) (G : Glob w) :
    Calls Tryd.prog 10 #[.agg #[.int .i64 k, .int .u64 a, .int .u64 b]] w fun e w' => PrintAns k a b e ∧ Below w.heap.size w w' := by
  have t1 : decide ((k : Int) < 1) = false := decide_eq_false (by omega)
  have t2 : decide (9 ≤ (k : Int)) = false := decide_eq_false (by omega)
  have hl := Pth.fm_len h1 h8
  obtain ⟨⟨t, fr, hf0⟩, _, _, hg⟩ := G
  obtain ⟨q0, q1, q2⟩ := form_cell k h8
  have HT : Hid (Pth.text k a.toNat b.toNat = (Pth.fm k).1 ++ Amt.dec a.toNat ++ (Pth.fm k).2.1 ++ Pth.tail k b.toNat) := Lib.hid (by simp [Pth.text])
  have HTl : Hid (Pth.tail k b.toNat = if (Pth.fm k).2.2 then Amt.dec b.toNat else []) := Lib.hid rfl
  obtain ⟨ah, be, two, hf⟩ : ∃ ah be two, Pth.fm k = (ah, be, two) := ⟨_, _, _, rfl⟩
  rw [hf] at q0 q1 q2 hl HT HTl
  have HF := Lib.hid hf
  simp only at q0 q1 q2 hl HT HTl
  clear hf
  have c0 : ∀ o, (w.alloc o).cell? ⟨0, k * 3, none⟩ = some (.string ⟨ah.toArray⟩) := fun o => by rw [World.cell?_alloc_lt _ _ _ hg, cell_of_row w _ _ formsA t fr hf0, q0]
  have c1 : ∀ o, (w.alloc o).cell? ⟨0, k * 3 + 1, none⟩ = some (.string ⟨be.toArray⟩) := fun o => by rw [World.cell?_alloc_lt _ _ _ hg, cell_of_row w _ _ formsA t fr hf0, q1]
  have c2 : ∀ o, (w.alloc o).cell? ⟨0, k * 3 + 2, none⟩ = some (.bool two) := fun o => by rw [World.cell?_alloc_lt _ _ _ hg, cell_of_row w _ _ formsA t fr hf0, q2]
  clear q0 q1 q2 hf0 hg
  obtain ⟨hla, hlb⟩ := hl
  have hx := Amt.dec_len_le a.toNat (by omega)
  have hy := Amt.dec_len_le b.toNat (by omega)
  obtain ⟨X, hX⟩ : ∃ X, Amt.dec a.toNat = X := ⟨_, rfl⟩
  obtain ⟨Y, hY⟩ : ∃ Y, Amt.dec b.toNat = Y := ⟨_, rfl⟩
  rw [hX] at hx HT
  rw [hY] at hy HTl
  have HX := Lib.hid hX
  have HY := Lib.hid hY
  clear hX hY
  go_enter Tryd.func10, Tryd.ntmps10
  go_upto_region 4 with fail
  go_cut [5] (fun s5 wx => s5 = .string ⟨(ah ++ X ++ be).toArray⟩ ∧ Below ((w.alloc (.cells #[.int .i64 k, .int .u64 a, .int .u64 b] 24)).alloc (.cells #[.string ⟨ah.toArray⟩, .string ⟨be.toArray⟩, .bool two] 43)).heap.size ((w.alloc (.cells #[.int .i64 k, .int .u64 a, .int .u64 b] 24)).alloc (.cells #[.string ⟨ah.toArray⟩, .string ⟨be.toArray⟩, .bool two] 43)) wx)
  case first =>
    go_region_with (first
      | (go_at_call 17; refine (print_is a X HX _ a0 a1).mono ?_; rintro e w2 ⟨rfl, hb2⟩; have e1 := kept hb2 (by simp) (two_new w #[.int .i64 k, .int .u64 a, .int .u64 b] #[.string ⟨ah.toArray⟩, .string ⟨be.toArray⟩, .bool two] 24 43 0); have e2 := kept hb2 (by simp) (two_new w #[.int .i64 k, .int .u64 a, .int .u64 b] #[.string ⟨ah.toArray⟩, .string ⟨be.toArray⟩, .bool two] 24 43 1); have e3 := kept hb2 (by simp; omega) (two_old w #[.int .i64 k, .int .u64 a, .int .u64 b] #[.string ⟨ah.toArray⟩, .string ⟨be.toArray⟩, .bool two] 24 43 1)))
    all_goals go_wp2_with fail
    all_goals go_meet
    all_goals exact ⟨by rw [cat2, cat2], (Below.drew (Below.refl _ _)).trans hb2⟩
  case rest =>
    obtain ⟨rfl, hbx⟩ := hcut
    have e2 := kept hbx (by simp) (two_new w #[.int .i64 k, .int .u64 a, .int .u64 b] #[.string ⟨ah.toArray⟩, .string ⟨be.toArray⟩, .bool two] 24 43 2)
    have e3 := kept hbx (by simp; omega) (two_old w #[.int .i64 k, .int .u64 a, .int .u64 b] #[.string ⟨ah.toArray⟩, .string ⟨be.toArray⟩, .bool two] 24 43 2)
    have HB := Lib.hid hbx
    have hbw : Below w.heap.size w wc := (((Below.refl _ _).alloc (Nat.le_refl _) _).alloc (by simp) _).trans (hbx.mono (by simp; omega))
    clear hbx c0 c1 c2
    have hz : (ah ++ X ++ be).length ≤ 100 := by simp; omega
    generalize hZ : ah ++ X ++ be = Z at *
    cases two with
    | true =>
      simp only [if_true] at HTl
      have HR : Hid (Pth.text k a.toNat b.toNat = Z ++ Y) := Lib.hid (by rw [HT.out, HTl.out])
      clear HT HTl hZ
      go_wp2_with fail
      refine (print_is b Y HY _ b0 b1).mono ?_
      rintro e w2 ⟨rfl, hb2⟩
      go_wp2_with fail
      go_ret2
      refine ⟨?_, hbw.trans (hb2.mono hbw.size)⟩
      refine .inl ⟨.inl (by rw [HF.out]), ?_⟩
      rw [HR.out, ← cat2]
      rfl
    | false =>
      simp only [Bool.false_eq_true, if_false] at HTl
      have HR : Hid (Pth.text k a.toNat b.toNat = Z) := Lib.hid (by rw [HT.out, HTl.out, List.append_nil])
      clear HT HTl hZ
      by_cases hb0 : b = 0
      · have t3 : (b != 0) = false := by simp [hb0]
        have H0 := Lib.hid hb0
        clear hb0
        go_wp2_with fail
        go_ret2
        refine ⟨?_, hbw⟩
        refine .inl ⟨.inr H0.out, ?_⟩
        rw [HR.out]
        rfl
      · have t3 : (b != 0) = true := by simpa using hb0
        have H0 := Lib.hid hb0
        clear hb0
        go_wp2_with fail
        go_ret2
        refine ⟨?_, hbw⟩
        exact .inr ⟨by rw [HF.out]; simpa using H0.out, rfl⟩

/-- Parse's loop over the kinds -/
def LoopRel (w : World) (s : List UInt8) (c : Nat) (i : Value) (wr : World) : Prop :=
  ∃ j : Nat, j ≤ 9 ∧ c = 9 - j ∧ i = .int .i64 j ∧ Below w.heap.size w wr ∧ wr.heap[w.heap.size]? = some (.cells #[.int .i64 0, .int .u64 0, .int .u64 0] 24 (0, 0)) ∧ w.heap.size < wr.heap.size ∧ ∀ k, 1 ≤ k → k < j → Pth.parseK k s = none
/-- what Parse answers -/
def ParseAns (s : List UInt8) (e : Ending) : Prop :=
  (∃ k a b : Nat, Pth.parseP s = some (k, a, b) ∧ e = .returned (.tuple #[.agg #[.int .i64 k, .int .u64 a, .int .u64 b], .int .i64 0])) ∨
  (Pth.parseP s = none ∧ e = .returned (.tuple #[.agg #[.int .i64 0, .int .u64 0, .int .u64 0], .int .i64 40]))

set_option maxHeartbeats 1000000 in
theorem pparse (s : ByteArray) (w : World) (hs : s.size < 4294967281) (G : Glob w) :
    Calls Tryd.prog 12 #[.string s] w fun e w' => ParseAns s.data.toList e ∧ Below w.heap.size w w' := by
  obtain ⟨⟨t, fr, hf0⟩, ⟨m, hm⟩, hg1, hg0⟩ := G
  have hrow : ∀ o, (w.alloc o).heap[0]? = some (.cells formsA t fr) := fun o => by rw [Below.heap_alloc _ _ _ hg0]; exact hf0
  have HROW := Lib.hid hrow
  clear hrow
  go_enter Tryd.func12, Tryd.ntmps12
  go_wp2_with (refine wpList_load_row rfl 44 _ rfl 0 rfl t formsA fr _ (HROW.out _) Tryd.underlying44 rfl (by kernel_rfl) ?_)
  go_loopg [9] 9 (fun c i wr => LoopRel w s.data.toList c i wr)
  case atStart => exact ⟨0, by omega, by omega, rfl, (Below.refl _ _).alloc (Nat.le_refl _) _, Blk.new _ _ _, by simp, fun k _ h => by omega⟩
  case round =>
    obtain ⟨j, hj, hc, rfl, hbel, hblk, hsz, hn⟩ := hrel
    have HC := Lib.hid hc
    have HN := Lib.hid hn
    have HB := Lib.hid hblk
    clear hc hn hblk
    by_cases hlt : j < 9
    · have hix := index_forms j (by omega)
      by_cases h0 : j = 0
      · have t0 : ((j : Int) == 0) = true := by simp [h0]
        have H0 := Lib.hid h0
        clear h0
        go_wp2_with fail
        go_roundg (9 - (j + 1))
        case measure => rw [HC.out]; omega
        case rel => exact ⟨j + 1, by omega, rfl, rfl, hbel.alloc hbel.size _, (Below.heap_alloc _ _ _ hsz).trans HB.out, by simp; omega, fun k hk hkj => by have := H0.out; omega⟩
      · have t0 : ((j : Int) == 0) = false := by rw [beq_eq_false_iff_ne]; omega
        have hmr : ∀ o, (wr.alloc o).cell? ⟨1, 0, none⟩ = some (.int .i64 m) := fun o => by
          rw [World.cell?_alloc_lt _ _ _ (Nat.lt_of_lt_of_le hg1 hbel.size)]; exact (hbel.cell (p := ⟨1, 0, none⟩) hg1).trans hm
        have HMR := Lib.hid hmr
        clear hmr
        go_wp2_with fail
        refine (fparse j (by omega) (by omega) s m _ hs (HMR.out _) (by have := hbel.size; simp; omega)).mono ?_
        rintro e w1 ⟨⟨x, y, z, ok, rfl, h1, h2⟩, hb1⟩
        have H1 := Lib.hid h1
        have H2 := Lib.hid h2
        clear h1 h2
        have hsz1 : w.heap.size < w1.heap.size := by have := hb1.size; simp at this; omega
        have hblk1 : Blk w1 w.heap.size 24 #[.int .i64 0, .int .u64 0, .int .u64 0] := (hb1.block _ (by simp; omega)).trans ((Below.heap_alloc _ _ _ hsz).trans HB.out)
        have hbel1 : Below w.heap.size w w1 := (hbel.alloc hbel.size _).trans (hb1.mono (by simp; omega))
        cases ok with
        | false =>
          have H3 := Lib.hid (H2.out rfl)
          clear H1 H2
          go_wp2_with fail
          go_roundg (9 - (j + 1))
          case measure => rw [HC.out]; omega
          case rel => exact ⟨j + 1, by omega, rfl, rfl, hbel1.alloc hbel1.size _, (Below.heap_alloc _ _ _ hsz1).trans hblk1, by simp; omega, fun k hk hkj => by
            by_cases h : k = j
            · subst h; exact H3.out
            · exact HN.out k hk (by omega)⟩
        | true =>
          obtain ⟨hxj, hpk⟩ := H1.out rfl
          have HP := Lib.hid (Pth.parseP_at (by omega) (by omega) HN.out hpk)
          subst hxj
          clear hpk H1 H2
          have c0 : w1.cell? ⟨w.heap.size, 0, none⟩ = some (.int .i64 0) := hblk1.cell 0
          have c1 : w1.cell? ⟨w.heap.size, 1, none⟩ = some (.int .u64 0) := hblk1.cell 1
          have c2 : w1.cell? ⟨w.heap.size, 2, none⟩ = some (.int .u64 0) := hblk1.cell 2
          have f0 := hblk1.frozen 0
          have f1 := hblk1.frozen 1
          have f2 := hblk1.frozen 2
          have HBK := Lib.hid hblk1
          clear hblk1
          go_wp2_with fail
          refine bodyPost_ret (v := .tuple #[.agg #[.int .i64 x, .int .u64 y, .int .u64 z], .int .i64 0]) (by simp [results, Tryd.results12, go_sem, c0, c1, c2, hsz1]) rfl ⟨.inl ⟨x, y, z, HP.out, rfl⟩, ?_⟩
          have hb3 := ((hbel1.setCell (p := ⟨w.heap.size, 0, none⟩) (Nat.le_refl _) (.int .i64 x)).setCell (p := ⟨w.heap.size, 1, none⟩) (Nat.le_refl _) (.int .u64 y)).setCell (p := ⟨w.heap.size, 2, none⟩) (Nat.le_refl _) (.int .u64 z)
          exact hb3.alloc hb3.size _
    · obtain rfl : j = 9 := by omega
      have HP := Lib.hid (Pth.parseP_none HN.out)
      have hblk1 : Blk wr w.heap.size 24 #[.int .i64 0, .int .u64 0, .int .u64 0] := HB.out
      have c0 : wr.cell? ⟨w.heap.size, 0, none⟩ = some (.int .i64 0) := hblk1.cell 0
      have c1 : wr.cell? ⟨w.heap.size, 1, none⟩ = some (.int .u64 0) := hblk1.cell 1
      have c2 : wr.cell? ⟨w.heap.size, 2, none⟩ = some (.int .u64 0) := hblk1.cell 2
      have f0 := hblk1.frozen 0
      have f1 := hblk1.frozen 1
      have f2 := hblk1.frozen 2
      have HBK := Lib.hid hblk1
      clear hblk1
      go_wp2_with fail
      refine bodyPost_ret (v := .tuple #[.agg #[.int .i64 0, .int .u64 0, .int .u64 0], .int .i64 40]) (by simp [results, Tryd.results12, go_sem, c0, c1, c2]) rfl ⟨.inr ⟨HP.out, rfl⟩, ?_⟩
      exact ((hbel.setCell (p := ⟨w.heap.size, 0, none⟩) (Nat.le_refl _) _).setCell (p := ⟨w.heap.size, 1, none⟩) (Nat.le_refl _) _).setCell (p := ⟨w.heap.size, 2, none⟩) (Nat.le_refl _) _
end Go.Proofs.YtmhboacfnklbgaaDoor
