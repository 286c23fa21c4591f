/-
  Arguments opened: slices of acts, slices of packets.
-/
import Derived.Test.YtpekbnkmnellpaaDoorOpenA
namespace Go.Proofs.YtpekbnkmnellpaaDoor
open Go.Joins Go.ChangeShapes Go.WideShapes Go.RowKit Go.Deep
set_option linter.unusedVariables false

structure ActR where
  (what which later : Int)
  data : ByteArray
structure ActR.ok (a : ActR) : Prop where
  what : i64r a.what
  which : i64r a.which
  later : i64r a.later
  data : a.data.size ≤ 140737488351232
/-- a slice of acts that came in -/
def ActsAt (W : World) (v : Value) (l : List ActR) : Prop := ∃ ao cap, v = .slice ao l.length cap ∧ l.length ≤ 9223372036854775807 ∧
  ∀ i (h : i < l.length), ∃ b off, ao = some ⟨b, off, none⟩ ∧ b < W.heap.size ∧ W.cell? ⟨b, off + i * 4, none⟩ = some (.int .i64 l[i].what) ∧ W.cell? ⟨b, off + i * 4 + 1, none⟩ = some (.int .i64 l[i].which) ∧
    W.cell? ⟨b, off + i * 4 + 2, none⟩ = some (.int .i64 l[i].later) ∧ W.cell? ⟨b, off + i * 4 + 3, none⟩ = some (.string l[i].data) ∧ l[i].ok
def PksAt (W : World) (v : Value) (l : List Pk) : Prop := ∃ ao cap, v = .slice ao l.length cap ∧ l.length ≤ 9223372036854775807 ∧
  ∀ i (h : i < l.length), ∃ b off, ao = some ⟨b, off, none⟩ ∧ b < W.heap.size ∧ W.cell? ⟨b, off + i * 5, none⟩ = some (.int .u64 l[i].seq) ∧ W.cell? ⟨b, off + i * 5 + 1, none⟩ = some (.int .u64 l[i].src) ∧
    W.cell? ⟨b, off + i * 5 + 2, none⟩ = some (.int .u64 l[i].dst) ∧ W.cell? ⟨b, off + i * 5 + 3, none⟩ = some (.string l[i].data) ∧ W.cell? ⟨b, off + i * 5 + 4, none⟩ = some (.int .u64 l[i].timeout) ∧ l[i].ok
theorem list_of {α : Type} {n : Nat} {R : Nat → α → Prop} (h : ∀ i, i < n → ∃ x, R i x) : ∃ l : List α, l.length = n ∧ ∀ i (hi : i < l.length), R i l[i] := by
  induction n with
  | zero => exact ⟨[], rfl, fun i hi => by simp at hi⟩
  | succ n ih =>
    obtain ⟨l, hl, hr⟩ := ih (fun i hi => h i (by omega))
    obtain ⟨x, hx⟩ := h n (by omega)
    refine ⟨l ++ [x], by simp [hl], fun i hi => ?_⟩
    by_cases e : i < l.length
    · rw [List.getElem_append_left e]; exact hr i e
    · have : i = l.length := by simp at hi; omega
      subst this
      simp only [List.getElem_concat_length, hl]
      exact hx
section
variable {H : Type} {enc : TypeId × Value → H} {w : World} {base : Nat} {spare : Nat → Bool} {held : Bool} {r : Reach} {b0 : Nat} {v : Value} {d : DataW H} {p : List MemPlace}
theorem cells_act : Tryd.prog.cellsOf 48 = 4 := by kernel_rfl
set_option maxRecDepth 100000 in
theorem open_acts (hv : Value.okWide Tryd.prog w r b0 44 v) (h : DataW.Trod enc Tryd.prog w base spare held 44 v d p) (hl : Light Tryd.prog 44 d) : ∃ l, ActsAt w v l := by
  obtain ⟨a0, len, cap, rfl⟩ := okWide_slice Tryd.underlying44 hv
  obtain ⟨fuel, hf⟩ := h
  have hf' : DataW.trod enc Tryd.prog w base spare held fuel 44 [.slice a0 len cap] = some (d, p) := by simpa [Value.cells] using hf
  rcases open_slice_fields Tryd.underlying44 Tryd.underlying48 (by kernel_rfl) cells_act hf' with hcs | ⟨a, len', cap', D, sp, hcs, hm, hle, hx, hel⟩
  · simp only [List.cons.injEq, Value.slice.injEq, and_true] at hcs
    obtain ⟨rfl, rfl, rfl⟩ := hcs
    exact ⟨[], none, 0, rfl, by simp, fun i hi => by simp at hi⟩
  · simp only [List.cons.injEq, Value.slice.injEq, and_true] at hcs
    obtain ⟨rfl, rfl, rfl⟩ := hcs
    have hx' : d = .slice ((List.range len).map D) sp := hx
    subst hx'
    unfold maxLen at hm
    have key : ∀ i, i < len → ∃ x : ActR, (∃ b off, a = ⟨b, off, none⟩ ∧ b < w.heap.size ∧ w.cell? ⟨b, off + i * 4, none⟩ = some (.int .i64 x.what) ∧ w.cell? ⟨b, off + i * 4 + 1, none⟩ = some (.int .i64 x.which) ∧
        w.cell? ⟨b, off + i * 4 + 2, none⟩ = some (.int .i64 x.later) ∧ w.cell? ⟨b, off + i * 4 + 3, none⟩ = some (.string x.data)) ∧ x.ok := by
      intro i hi
      obtain ⟨ys, n, hD, hyl, hc⟩ := hel i hi
      obtain ⟨ys0, n0, hD0, hyl0, hc0⟩ := hel 0 (by omega)
      obtain ⟨z0, y0', hz0, _, _⟩ := hc0 0 _ rfl
      obtain ⟨b, off, rfl, hb, hadd⟩ := addr_at (v0 := z0) (a := a) (by simpa using hz0)
      obtain ⟨v0, y0, k0, e0, t0⟩ := hc 0 _ rfl
      obtain ⟨v1, y1, k1, e1, t1⟩ := hc 1 _ rfl
      obtain ⟨v2, y2, k2, e2, t2⟩ := hc 2 _ rfl
      obtain ⟨v3, y3, k3, e3, t3⟩ := hc 3 _ rfl
      obtain ⟨x0, rfl, r0⟩ := cell_int t0
      obtain ⟨x1, rfl, r1⟩ := cell_int t1
      obtain ⟨x2, rfl, r2⟩ := cell_int t2
      obtain ⟨x3, rfl, r3⟩ := cell_str t3
      rw [hadd] at k0 k1 k2 k3
      have hli : Light Tryd.prog 48 (D i) := hl.elem Tryd.underlying44 (List.mem_map.2 ⟨i, by simpa using hi, rfl⟩)
      rw [hD] at hli
      have hli3 : Light Tryd.prog 9 y3.1 := hli.field Tryd.underlying48 3 rfl (by rw [List.getElem?_map, e3]; rfl)
      rw [r3] at hli3
      exact ⟨⟨x0, x1, x2, x3⟩, ⟨b, off, rfl, hb, k0, by rw [Nat.add_assoc]; exact k1, by rw [Nat.add_assoc]; exact k2, by rw [Nat.add_assoc]; exact k3⟩, r0, r1, r2, hli3.str⟩
    obtain ⟨l, hll, hr⟩ := list_of key
    refine ⟨l, some a, cap, by rw [hll], by omega, fun i hi => ?_⟩
    obtain ⟨⟨b, off, rfl, h1, h2, h3, h4, h5⟩, h6⟩ := hr i hi
    exact ⟨b, off, rfl, h1, h2, h3, h4, h5, h6⟩
set_option maxRecDepth 100000 in
theorem open_pks (hv : Value.okWide Tryd.prog w r b0 45 v) (h : DataW.Trod enc Tryd.prog w base spare held 45 v d p) (hl : Light Tryd.prog 45 d) : ∃ l, PksAt w v l := by
  obtain ⟨a0, len, cap, rfl⟩ := okWide_slice Tryd.underlying45 hv
  obtain ⟨fuel, hf⟩ := h
  have hf' : DataW.trod enc Tryd.prog w base spare held fuel 45 [.slice a0 len cap] = some (d, p) := by simpa [Value.cells] using hf
  rcases open_slice_fields Tryd.underlying45 Tryd.underlying24 (by kernel_rfl) cells_pk hf' with hcs | ⟨a, len', cap', D, sp, hcs, hm, hle, hx, hel⟩
  · simp only [List.cons.injEq, Value.slice.injEq, and_true] at hcs
    obtain ⟨rfl, rfl, rfl⟩ := hcs
    exact ⟨[], none, 0, rfl, by simp, fun i hi => by simp at hi⟩
  · simp only [List.cons.injEq, Value.slice.injEq, and_true] at hcs
    obtain ⟨rfl, rfl, rfl⟩ := hcs
    have hx' : d = .slice ((List.range len).map D) sp := hx
    subst hx'
    unfold maxLen at hm
    have key : ∀ i, i < len → ∃ x : Pk, (∃ b off, a = ⟨b, off, none⟩ ∧ b < w.heap.size ∧ w.cell? ⟨b, off + i * 5, none⟩ = some (.int .u64 x.seq) ∧ w.cell? ⟨b, off + i * 5 + 1, none⟩ = some (.int .u64 x.src) ∧
        w.cell? ⟨b, off + i * 5 + 2, none⟩ = some (.int .u64 x.dst) ∧ w.cell? ⟨b, off + i * 5 + 3, none⟩ = some (.string x.data) ∧ w.cell? ⟨b, off + i * 5 + 4, none⟩ = some (.int .u64 x.timeout)) ∧ x.ok := by
      intro i hi
      obtain ⟨ys, n, hD, hyl, hc⟩ := hel i hi
      obtain ⟨ys0, n0, hD0, hyl0, hc0⟩ := hel 0 (by omega)
      obtain ⟨z0, y0', hz0, _, _⟩ := hc0 0 _ rfl
      obtain ⟨b, off, rfl, hb, hadd⟩ := addr_at (v0 := z0) (a := a) (by simpa using hz0)
      obtain ⟨v0, y0, k0, e0, t0⟩ := hc 0 _ rfl
      obtain ⟨v1, y1, k1, e1, t1⟩ := hc 1 _ rfl
      obtain ⟨v2, y2, k2, e2, t2⟩ := hc 2 _ rfl
      obtain ⟨v3, y3, k3, e3, t3⟩ := hc 3 _ rfl
      obtain ⟨v4, y4, k4, e4, t4⟩ := hc 4 _ rfl
      obtain ⟨x0, rfl, r0⟩ := cell_u64 t0
      obtain ⟨x1, rfl, r1⟩ := cell_u64 t1
      obtain ⟨x2, rfl, r2⟩ := cell_u64 t2
      obtain ⟨x3, rfl, r3⟩ := cell_str t3
      obtain ⟨x4, rfl, r4⟩ := cell_u64 t4
      rw [hadd] at k0 k1 k2 k3 k4
      have hli : Light Tryd.prog 24 (D i) := hl.elem Tryd.underlying45 (List.mem_map.2 ⟨i, by simpa using hi, rfl⟩)
      rw [hD] at hli
      have hli3 : Light Tryd.prog 9 y3.1 := hli.field Tryd.underlying24 3 rfl (by rw [List.getElem?_map, e3]; rfl)
      rw [r3] at hli3
      exact ⟨⟨x0, x1, x2, x3, x4⟩, ⟨b, off, rfl, hb, k0, by rw [Nat.add_assoc]; exact k1, by rw [Nat.add_assoc]; exact k2, by rw [Nat.add_assoc]; exact k3, by rw [Nat.add_assoc]; exact k4⟩, r0, r1, r2, r4, hli3.str⟩
    obtain ⟨l, hll, hr⟩ := list_of key
    refine ⟨l, some a, cap, by rw [hll], by omega, fun i hi => ?_⟩
    obtain ⟨⟨b, off, rfl, h1, h2, h3, h4, h5, h6⟩, h7⟩ := hr i hi
    exact ⟨b, off, rfl, h1, h2, h3, h4, h5, h6, h7⟩
end
end Go.Proofs.YtpekbnkmnellpaaDoor
