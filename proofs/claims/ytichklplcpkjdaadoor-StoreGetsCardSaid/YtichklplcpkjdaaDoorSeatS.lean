/-
  What the seat's rows give of the tables: the paths' forms, sha's two.
-/
import Derived.Test.YtichklplcpkjdaaDoorOpenS
import Derived.Test.YtichklplcpkjdaaDoorCards
import Derived.Test.YtichklplcpkjdaaDoorTie
import Derived.LaidMore
import Derived.HandedShaped
import Derived.Shelf.Vars
namespace Go.Proofs.YtichklplcpkjdaaDoor
open Go.ChangeShapes Go.WideShapes Go.ChangeAt Go.RowKit Go.Deep
set_option linter.unusedVariables false

section
variable {H : Type} {enc : TypeId × Value → H} {W : World} {base : Nat} {sp : Nat → Bool} {held : Bool} {fuel : Nat}
theorem str_cell {l : List Value} {A : List UInt8} {p : List MemPlace} (h : DataW.trod enc Tryd.prog W base sp held fuel 9 l = some (.lit (.string A), p)) : l = [.string ⟨A.toArray⟩] := by
  obtain ⟨s, e, hx, _⟩ := DataW.trod_string Tryd.underlying9 h
  simp only [Prod.mk.injEq, DataW.lit.injEq, Lit.string.injEq] at hx
  rw [e, hx.1]
theorem bool_cell {l : List Value} {b : Bool} {p : List MemPlace} (h : DataW.trod enc Tryd.prog W base sp held fuel 4 l = some (.lit (.bool b), p)) : l = [.bool b] := by
  obtain ⟨s, e, hx⟩ := DataW.trod_bool Tryd.underlying4 h
  simp only [Prod.mk.injEq, DataW.lit.injEq, Lit.bool.injEq] at hx
  rw [e, hx.1]
theorem form_cells {c0 c1 c2 : Value} {A B : List UInt8} {b : Bool} {p : List MemPlace} (h : DataW.trod enc Tryd.prog W base sp held fuel 79 [c0, c1, c2] = some (.agg [.lit (.string A), .lit (.string B), .lit (.bool b)], p)) :
    c0 = .string ⟨A.toArray⟩ ∧ c1 = .string ⟨B.toArray⟩ ∧ c2 = .bool b := by
  obtain ⟨⟨d0, p0⟩, ⟨d1, p1⟩, ⟨d2, p2⟩, n, hx, _, h0, h1, h2⟩ := trod_struct3 Tryd.underlying79 h
  simp only [Prod.mk.injEq, DataW.agg.injEq, List.cons.injEq, and_true] at hx
  obtain ⟨⟨rfl, rfl, rfl⟩, _⟩ := hx
  have c9 : Tryd.prog.cellsOf 9 = 1 := by kernel_rfl
  have c4 : Tryd.prog.cellsOf 4 = 1 := by kernel_rfl
  simp only [c9, c4] at h0 h1 h2
  have e0 := str_cell h0
  have e1 := str_cell h1
  have e2 := bool_cell h2
  simp at e0 e1 e2
  exact ⟨e0, e1, e2⟩
end

theorem forms_cells {H : Type} {enc : TypeId × Value → H} {W : World} {base : Nat} {sp : Nat → Bool} {held : Bool} {fuel : Nat} {cs : List Value} {p : List MemPlace}
    (h : DataW.trod enc Tryd.prog W base sp held fuel 80 cs = some (Rows.laid_voussoir_path_forms, p)) : cs = formsA.toList := by
  obtain ⟨xs, m, _, hx, hl, hn, hel⟩ := DataW.trod_array Tryd.underlying80 h
  have c44 : Tryd.prog.cellsOf 80 = 27 := by kernel_rfl
  have c43 : Tryd.prog.cellsOf 79 = 3 := by kernel_rfl
  rw [c44] at hl
  rw [c43] at hel
  simp only [Prod.mk.injEq] at hx
  have hxs : xs.map (·.1) = _ := (DataW.agg.inj hx.1).symm
  match cs, hl with
  | [c0, c1, c2, c3, c4, c5, c6, c7, c8, c9, c10, c11, c12, c13, c14, c15, c16, c17, c18, c19, c20, c21, c22, c23, c24, c25, c26], _ =>
    match xs, hn, hxs, hel with
    | [x0, x1, x2, x3, x4, x5, x6, x7, x8], _, hxs, hel =>
      obtain ⟨d0, q0⟩ := x0; obtain ⟨d1, q1⟩ := x1; obtain ⟨d2, q2⟩ := x2; obtain ⟨d3, q3⟩ := x3; obtain ⟨d4, q4⟩ := x4; obtain ⟨d5, q5⟩ := x5; obtain ⟨d6, q6⟩ := x6; obtain ⟨d7, q7⟩ := x7; obtain ⟨d8, q8⟩ := x8
      simp only [List.map_cons, List.map_nil, List.cons.injEq, and_true] at hxs
      obtain ⟨rfl, rfl, rfl, rfl, rfl, rfl, rfl, rfl, rfl⟩ := hxs
      obtain ⟨rfl, rfl, rfl⟩ := form_cells (hel 0 (by decide))
      obtain ⟨rfl, rfl, rfl⟩ := form_cells (hel 1 (by decide))
      obtain ⟨rfl, rfl, rfl⟩ := form_cells (hel 2 (by decide))
      obtain ⟨rfl, rfl, rfl⟩ := form_cells (hel 3 (by decide))
      obtain ⟨rfl, rfl, rfl⟩ := form_cells (hel 4 (by decide))
      obtain ⟨rfl, rfl, rfl⟩ := form_cells (hel 5 (by decide))
      obtain ⟨rfl, rfl, rfl⟩ := form_cells (hel 6 (by decide))
      obtain ⟨rfl, rfl, rfl⟩ := form_cells (hel 7 (by decide))
      obtain ⟨rfl, rfl, rfl⟩ := form_cells (hel 8 (by decide))
      rfl

theorem gForms : Tryd.prog.globalNamed "voussoir/path.forms" = some 0 := by kernel_rfl
theorem tForms : (Tryd.prog.globals[0]?).map (·.type) = some 80 := by kernel_rfl
section
variable {H : Type} {enc : TypeId × Value → H} {W : World} {base : Nat} {sp : Nat → Bool} {held : Bool} {fuel : Nat}
theorem words_cells {n : Nat} {T : TypeId} {cs : List Value} {p : List MemPlace} (l : List Int) (hT : Tryd.prog.underlying T = some (.array n 82)) (hc : Tryd.prog.cellsOf T = n)
    (h : DataW.trod enc Tryd.prog W base sp held fuel T cs = some (.agg (l.map fun x => .lit (.int .u32 x)), p)) : cs = l.map fun x => Value.int .u32 x := by
  obtain ⟨xs, m, _, hx, hl, hn, hel⟩ := DataW.trod_array hT h
  have c1 : Tryd.prog.cellsOf 82 = 1 := by kernel_rfl
  rw [hc] at hl
  simp only [c1, Nat.mul_one] at hel
  simp only [Prod.mk.injEq] at hx
  have hxs : xs.map (·.1) = l.map fun x => DataW.lit (.int .u32 x) := (DataW.agg.inj hx.1).symm
  have hll : l.length = n := by have := congrArg List.length hxs; simp at this; omega
  apply List.ext_getElem
  · simp; omega
  · intro i h1 h2
    have hi : i < n := by omega
    have e := hel i hi
    have hx1 : xs[i]? = some xs[i] := List.getElem?_eq_getElem (by omega)
    rw [hx1] at e
    obtain ⟨a, e1, e2, _⟩ := DataW.trod_int Tryd.underlying82 e
    have e3 : (xs.map (·.1))[i]? = some (.lit (.int .u32 a)) := by rw [List.getElem?_map, hx1, e2]; rfl
    rw [hxs, List.getElem?_map, List.getElem?_eq_getElem (by omega)] at e3
    simp only [Option.map_some, Option.some.injEq, DataW.lit.injEq, Lit.int.injEq, true_and] at e3
    have e4 : cs[i]? = some (.int .u32 a) := by
      have := congrArg (fun l : List Value => l[0]?) e1
      simpa [List.getElem?_take, List.getElem?_drop] using this
    rw [List.getElem?_eq_getElem h1] at e4
    rw [Option.some.inj e4, List.getElem_map, e3]
end
theorem gK : Tryd.prog.globalNamed "voussoir/sha.k" = some 2 := by kernel_rfl
theorem tK : (Tryd.prog.globals[2]?).map (·.type) = some 94 := by kernel_rfl
theorem gF : Tryd.prog.globalNamed "voussoir/sha.first" = some 1 := by kernel_rfl
theorem tF : (Tryd.prog.globals[1]?).map (·.type) = some 84 := by kernel_rfl
theorem var_block {W : World} {nm : String} {g : Nat} {cs : Array Value} {l : List Value} (hg : Tryd.prog.globalNamed nm = some g) (hv : W.var? Tryd.prog nm = some cs) (e : cs.toList = l) : ∃ t fr, W.heap[g]? = some (.cells l.toArray t fr) := by
  unfold World.var? at hv
  rw [hg] at hv
  simp only [Option.bind_some] at hv
  split at hv
  · rename_i cs' t fr hh
    have : cs' = l.toArray := by
      apply Array.ext'
      rw [← e]
      exact congrArg Array.toList (Option.some.inj hv)
    exact ⟨t, fr, by rw [← this]; exact hh⟩
  · cases hv
theorem globS_of {W : World} (h : laidMetH Tryd.prog [("voussoir/path.forms", Rows.laid_voussoir_path_forms), ("voussoir/sha.k", Rows.laid_voussoir_sha_k), ("voussoir/sha.first", Rows.laid_voussoir_sha_first)] W) (hs : W.ShapedOpen Tryd.prog) : GlobS W := by
  rw [MakeChecks.laidMetH_plain _ _ _ (by kernel_rfl)] at h
  obtain ⟨ps, ⟨g2, t2, cs2, f2, p2, q2, hg2, ht2, hv2, hd2, ⟨g0, t0, cs0, f0, p0, q0, hg0, ht0, hv0, hd0, ⟨g1, t1, cs1, f1, p1, q1, hg1, ht1, hv1, hd1, _⟩, _⟩, _⟩, _, _⟩ := h
  obtain rfl := Option.some.inj (gK.symm.trans hg0)
  obtain rfl := Option.some.inj (tK.symm.trans ht0)
  obtain rfl := Option.some.inj (gF.symm.trans hg1)
  obtain rfl := Option.some.inj (tF.symm.trans ht1)
  obtain rfl := Option.some.inj (gForms.symm.trans hg2)
  obtain rfl := Option.some.inj (tForms.symm.trans ht2)
  have e0 := words_cells kL Tryd.underlying94 (by kernel_rfl) hd0
  have e1 := words_cells firstS.l Tryd.underlying84 (by kernel_rfl) hd1
  have e2 := forms_cells hd2
  have hF : ∃ t fr, W.heap[0]? = some (.cells formsA t fr) := by
    obtain ⟨t, fr, hb⟩ := var_block gForms hv2 e2
    exact ⟨t, fr, hb⟩
  obtain ⟨t, fr, hb⟩ := hF
  exact ⟨⟨var_block gK hv0 e0, var_block gF hv1 e1⟩, ⟨t, fr, hb⟩, lt_of_some hb⟩
def layIn (cs : Array Value) : Obj → Obj
  | .cells _ t frozen => .cells cs t frozen
  | o => o
noncomputable def laidWorldS (os : Os) : World :=
  { World.holding Tryd.prog os ⟨#[], #[], []⟩ with heap := (((World.holding Tryd.prog os ⟨#[], #[], []⟩).heap.modify 2 (layIn kA)).modify 1 (layIn (stC firstS.l))).modify 0 (layIn formsA) }
theorem own : ownKnob Tryd.prog.godebug = none := by kernel_rfl
theorem laidOut : laidOutB Tryd.prog = true := by kernel_rfl
end Go.Proofs.YtichklplcpkjdaaDoor
