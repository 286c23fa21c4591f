/-
  What the seat's rows give of the package's variables: the table of forms, and some number.
-/
import Derived.Test.YtmhboacfnklbgaaDoorPthWalk
import Derived.Test.YtmhboacfnklbgaaDoorCards
import Derived.Test.YtmhboacfnklbgaaDoorTie
import Derived.ProofKit
import Derived.OpenShut
import Derived.Deep.Strs
import Derived.LaidMore
import Derived.HandedShaped
import Derived.Shelf.Vars
namespace Go.Proofs.YtmhboacfnklbgaaDoor
open Go.ChangeShapes Go.WideShapes Go.ChangeAt Go.RowKit Go.Deep

section
variable {H : Type} {enc : TypeId × Value → H} {W : World} {base : Nat} {sp : Nat → Bool} {held : Bool} {fuel : Nat}
theorem str_cell {l : List Value} {A : List UInt8} {p : List MemPlace} (h : DataW.trod enc Tryd.prog W base sp held fuel 9 l = some (.lit (.string A), p)) : l = [.string ⟨A.toArray⟩] := by
  obtain ⟨s, e, hx, _⟩ := DataW.trod_string Tryd.underlying9 h
  simp only [Prod.mk.injEq, DataW.lit.injEq, Lit.string.injEq] at hx
  rw [e, hx.1]
theorem bool_cell {l : List Value} {b : Bool} {p : List MemPlace} (h : DataW.trod enc Tryd.prog W base sp held fuel 4 l = some (.lit (.bool b), p)) : l = [.bool b] := by
  obtain ⟨s, e, hx⟩ := DataW.trod_bool Tryd.underlying4 h
  simp only [Prod.mk.injEq, DataW.lit.injEq, Lit.bool.injEq] at hx
  rw [e, hx.1]
theorem form_cells {c0 c1 c2 : Value} {A B : List UInt8} {b : Bool} {p : List MemPlace} (h : DataW.trod enc Tryd.prog W base sp held fuel 43 [c0, c1, c2] = some (.agg [.lit (.string A), .lit (.string B), .lit (.bool b)], p)) :
    c0 = .string ⟨A.toArray⟩ ∧ c1 = .string ⟨B.toArray⟩ ∧ c2 = .bool b := by
  obtain ⟨⟨d0, p0⟩, ⟨d1, p1⟩, ⟨d2, p2⟩, n, hx, _, h0, h1, h2⟩ := trod_struct3 Tryd.underlying43 h
  simp only [Prod.mk.injEq, DataW.agg.injEq, List.cons.injEq, and_true] at hx
  obtain ⟨⟨rfl, rfl, rfl⟩, _⟩ := hx
  have c9 : Tryd.prog.cellsOf 9 = 1 := by kernel_rfl
  have c4 : Tryd.prog.cellsOf 4 = 1 := by kernel_rfl
  simp only [c9, c4] at h0 h1 h2
  have e0 := str_cell h0
  have e1 := str_cell h1
  have e2 := bool_cell h2
  simp at e0 e1 e2
  exact ⟨e0, e1, e2⟩
end

theorem forms_cells {H : Type} {enc : TypeId × Value → H} {W : World} {base : Nat} {sp : Nat → Bool} {held : Bool} {fuel : Nat} {cs : List Value} {p : List MemPlace}
    (h : DataW.trod enc Tryd.prog W base sp held fuel 44 cs = some (Rows.laid_voussoir_path_forms, p)) : cs = formsA.toList := by
  obtain ⟨xs, m, _, hx, hl, hn, hel⟩ := DataW.trod_array Tryd.underlying44 h
  have c44 : Tryd.prog.cellsOf 44 = 27 := by kernel_rfl
  have c43 : Tryd.prog.cellsOf 43 = 3 := by kernel_rfl
  rw [c44] at hl
  rw [c43] at hel
  simp only [Prod.mk.injEq] at hx
  have hxs : xs.map (·.1) = _ := (DataW.agg.inj hx.1).symm
  match cs, hl with
  | [c0, c1, c2, c3, c4, c5, c6, c7, c8, c9, c10, c11, c12, c13, c14, c15, c16, c17, c18, c19, c20, c21, c22, c23, c24, c25, c26], _ =>
    match xs, hn, hxs, hel with
    | [x0, x1, x2, x3, x4, x5, x6, x7, x8], _, hxs, hel =>
      obtain ⟨d0, q0⟩ := x0; obtain ⟨d1, q1⟩ := x1; obtain ⟨d2, q2⟩ := x2; obtain ⟨d3, q3⟩ := x3; obtain ⟨d4, q4⟩ := x4; obtain ⟨d5, q5⟩ := x5; obtain ⟨d6, q6⟩ := x6; obtain ⟨d7, q7⟩ := x7; obtain ⟨d8, q8⟩ := x8
      simp only [List.map_cons, List.map_nil, List.cons.injEq, and_true] at hxs
      obtain ⟨rfl, rfl, rfl, rfl, rfl, rfl, rfl, rfl, rfl⟩ := hxs
      obtain ⟨rfl, rfl, rfl⟩ := form_cells (hel 0 (by decide))
      obtain ⟨rfl, rfl, rfl⟩ := form_cells (hel 1 (by decide))
      obtain ⟨rfl, rfl, rfl⟩ := form_cells (hel 2 (by decide))
      obtain ⟨rfl, rfl, rfl⟩ := form_cells (hel 3 (by decide))
      obtain ⟨rfl, rfl, rfl⟩ := form_cells (hel 4 (by decide))
      obtain ⟨rfl, rfl, rfl⟩ := form_cells (hel 5 (by decide))
      obtain ⟨rfl, rfl, rfl⟩ := form_cells (hel 6 (by decide))
      obtain ⟨rfl, rfl, rfl⟩ := form_cells (hel 7 (by decide))
      obtain ⟨rfl, rfl, rfl⟩ := form_cells (hel 8 (by decide))
      rfl

theorem gForms : Tryd.prog.globalNamed "voussoir/path.forms" = some 0 := by kernel_rfl
theorem tForms : (Tryd.prog.globals[0]?).map (·.type) = some 44 := by kernel_rfl
theorem glob_of {W : World} (h : laidMetH Tryd.prog [("voussoir/path.forms", Rows.laid_voussoir_path_forms)] W) (hs : W.ShapedOpen Tryd.prog) : Glob W := by
  rw [MakeChecks.laidMetH_plain _ _ _ (by kernel_rfl)] at h
  obtain ⟨ps, ⟨g0, t0, cs0, f0, p0, q0, hg0, ht0, hv0, hd0, _⟩, _, _⟩ := h
  obtain rfl := Option.some.inj (gForms.symm.trans hg0)
  obtain rfl := Option.some.inj (tForms.symm.trans ht0)
  have e := forms_cells hd0
  have hblk : ∃ t fr, W.heap[0]? = some (.cells formsA t fr) := by
    unfold World.var? at hv0
    rw [gForms] at hv0
    simp only [Option.bind_some] at hv0
    split at hv0
    · rename_i cs t fr hh
      have : cs = formsA := by
        apply Array.ext'
        rw [← e]
        exact congrArg Array.toList (Option.some.inj hv0)
      exact ⟨t, fr, by rw [← this]; exact hh⟩
    · cases hv0
  obtain ⟨m, hm⟩ : ∃ m : Int, W.cell? ⟨1, 0, none⟩ = some (.int .i64 m) :=
    Go.Proofs.cell_of_shapedOpen_int (zero := #[.int .i64 0]) (t := 3) hs (of_decide_eq_true (by kernel_rfl)) (by kernel_rfl) rfl (by kernel_rfl) (by kernel_rfl) Tryd.underlying3
  refine ⟨hblk, ⟨m, hm⟩, ?_, ?_⟩
  · rcases Nat.lt_or_ge 1 W.heap.size with h | h
    · exact h
    · simp [World.cell?, Array.getElem?_eq_none h] at hm
  · obtain ⟨t, fr, hb⟩ := hblk
    rcases Nat.lt_or_ge 0 W.heap.size with h | h
    · exact h
    · rw [Array.getElem?_eq_none h] at hb; cases hb
/-- a world for the witness: the settled one, the table of forms holding what its initialiser lays -/
noncomputable def laidWorld (os : Os) : World :=
  { World.holding Tryd.prog os ⟨#[], #[], []⟩ with heap := (World.holding Tryd.prog os ⟨#[], #[], []⟩).heap.modify 0 fun
      | .cells _ t frozen => .cells formsA t frozen
      | o => o }
theorem own : ownKnob Tryd.prog.godebug = none := by kernel_rfl
theorem laidOut : laidOutB Tryd.prog = true := by kernel_rfl
end Go.Proofs.YtmhboacfnklbgaaDoor
