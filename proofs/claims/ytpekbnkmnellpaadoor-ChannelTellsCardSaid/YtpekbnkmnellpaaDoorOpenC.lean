/-
  Arguments opened: ends of channels.
-/
import Derived.Test.YtpekbnkmnellpaaDoorChanL
namespace Go.Proofs.YtpekbnkmnellpaaDoor
open Go.Joins Go.ChangeShapes Go.WideShapes Go.RowKit Go.Deep
set_option linter.unusedVariables false
section
variable {H : Type} {enc : TypeId × Value → H} {w : World} {base : Nat} {spare : Nat → Bool} {held : Bool} {r : Reach} {b0 : Nat} {v : Value} {d : DataW H} {p : List MemPlace}
theorem cells_chan : Tryd.prog.cellsOf 57 = 6 := by kernel_rfl
set_option maxRecDepth 100000 in
theorem open_chan (hv : Value.okWide Tryd.prog w r b0 57 v) (h : DataW.Trod enc Tryd.prog w base spare held 57 v d p) (hl : Light Tryd.prog 57 d) : ∃ c : Ch, v = c.v ∧ c.ok := by
  obtain ⟨v0, v1, v2, v3, v4, v5, y0, y1, y2, y3, y4, y5, n, rfl, rfl, h0, h1, h2, h3, h4, h5⟩ := open_agg6 Tryd.underlying57 (by kernel_rfl) cells_chan hv h
  obtain ⟨a0, rfl, w0⟩ := cell_int h0
  obtain ⟨a1, rfl⟩ := cell_bool h1
  obtain ⟨a2, rfl, w2⟩ := cell_u64 h2
  obtain ⟨a3, rfl, w3⟩ := cell_u64 h3
  obtain ⟨a4, rfl, w4⟩ := cell_str h4
  obtain ⟨a5, rfl, w5⟩ := cell_str h5
  have l4 : Light Tryd.prog 9 y4.1 := hl.field Tryd.underlying57 4 rfl rfl
  have l5 : Light Tryd.prog 9 y5.1 := hl.field Tryd.underlying57 5 rfl rfl
  rw [w4] at l4
  rw [w5] at l5
  exact ⟨⟨a0, a1, a2, a3, a4, a5⟩, rfl, w0, w2, w3, l4.str, l5.str⟩
end
end Go.Proofs.YtpekbnkmnellpaaDoor
