/-
  What the seat's rows give of the tables.
-/
import Derived.Test.YtpekbnkmnellpaaDoorAwakeW
import Derived.Test.YtpekbnkmnellpaaDoorCards
import Derived.Test.YtpekbnkmnellpaaDoorTie
import Derived.ProofKit
import Derived.OpenShut
import Derived.Deep.Strs
import Derived.LaidMore
import Derived.HandedShaped
import Derived.Shelf.Vars
import Derived.Lib.SmallJoins
import Derived.Test.YtpekbnkmnellpaaDoorRSha
namespace Go.Proofs.YtpekbnkmnellpaaDoor
open Go.ChangeShapes Go.WideShapes Go.ChangeAt Go.RowKit Go.Deep
set_option linter.unusedVariables false

section
variable {H : Type} {enc : TypeId × Value → H} {W : World} {base : Nat} {sp : Nat → Bool} {held : Bool} {fuel : Nat}
theorem words_cells {n : Nat} {T : TypeId} {cs : List Value} {p : List MemPlace} (l : List Int) (hT : Tryd.prog.underlying T = some (.array n 122)) (hc : Tryd.prog.cellsOf T = n)
    (h : DataW.trod enc Tryd.prog W base sp held fuel T cs = some (.agg (l.map fun x => .lit (.int .u32 x)), p)) : cs = l.map fun x => Value.int .u32 x := by
  obtain ⟨xs, m, _, hx, hl, hn, hel⟩ := DataW.trod_array hT h
  have c1 : Tryd.prog.cellsOf 122 = 1 := by kernel_rfl
  rw [hc] at hl
  simp only [c1, Nat.mul_one] at hel
  simp only [Prod.mk.injEq] at hx
  have hxs : xs.map (·.1) = l.map fun x => DataW.lit (.int .u32 x) := (DataW.agg.inj hx.1).symm
  have hll : l.length = n := by have := congrArg List.length hxs; simp at this; omega
  apply List.ext_getElem
  · simp; omega
  · intro i h1 h2
    have hi : i < n := by omega
    have e := hel i hi
    have hx1 : xs[i]? = some xs[i] := List.getElem?_eq_getElem (by omega)
    rw [hx1] at e
    obtain ⟨a, e1, e2, _⟩ := DataW.trod_int Tryd.underlying122 e
    have e3 : (xs.map (·.1))[i]? = some (.lit (.int .u32 a)) := by rw [List.getElem?_map, hx1, e2]; rfl
    rw [hxs, List.getElem?_map, List.getElem?_eq_getElem (by omega)] at e3
    simp only [Option.map_some, Option.some.injEq, DataW.lit.injEq, Lit.int.injEq, true_and] at e3
    have e4 : cs[i]? = some (.int .u32 a) := by
      have := congrArg (fun l : List Value => l[0]?) e1
      simpa [List.getElem?_take, List.getElem?_drop] using this
    rw [List.getElem?_eq_getElem h1] at e4
    rw [Option.some.inj e4, List.getElem_map, e3]
end
theorem okWide_array4 {P : Program} {w : World} {r : Reach} {base : Nat} {t e : TypeId} {n : Nat} {v : Value} (ht : P.underlying t = some (.array n e)) (h : Value.okWide P w r base t v) : ∃ cs, v = .agg cs ∧ cs.size = P.cellsOf t := by
  simp only [Value.okWide, ht] at h
  obtain ⟨cs, h1, h2, _⟩ := h
  exact ⟨cs, h1, h2⟩
theorem arr_int {P : Program} {H : Type} {enc : TypeId × Value → H} {W : World} {base : Nat} {sp : Nat → Bool} {held : Bool} {m : Nat} {E : TypeId} {c : Value} {o : Option (DataW H × List MemPlace)} (hE : P.underlying E = some (.int .u64)) (h : DataW.trod enc P W base sp held m E [c] = o) (ho : o.isSome = true) : ∃ a, c = .int .u64 a := by
  obtain ⟨x, rfl⟩ := Option.isSome_iff_exists.1 ho
  obtain ⟨a, e1, _, _⟩ := DataW.trod_int hE h
  exact ⟨a, by simpa using e1⟩
theorem open_arr4g {P : Program} {H : Type} {enc : TypeId × Value → H} {W : World} {base : Nat} {sp : Nat → Bool} {held : Bool} {r : Reach} {b0 : Nat} {T E : TypeId} {v : Value} {d : DataW H} {p : List MemPlace} (hT : P.underlying T = some (.array 4 E)) (hE : P.underlying E = some (.int .u64)) (hC : P.cellsOf T = 4) (hC1 : P.cellsOf E = 1)
    (hv : Value.okWide P W r b0 T v) (h : DataW.Trod enc P W base sp held T v d p) : ∃ a0 a1 a2 a3 : Int, v = .agg #[.int .u64 a0, .int .u64 a1, .int .u64 a2, .int .u64 a3] := by
  obtain ⟨cs, rfl, hsz⟩ := okWide_array4 hT hv
  obtain ⟨c0, c1, c2, c3, rfl⟩ := Joins.array4 (hsz.trans hC)
  obtain ⟨fuel, hf⟩ := h
  obtain ⟨xs, m, _, _, _, hn, hel⟩ := DataW.trod_array hT hf
  simp only [hC1, Nat.mul_one] at hel
  have hs : ∀ i, i < 4 → (xs[i]?).isSome = true := fun i hi => by rw [List.getElem?_eq_getElem (by omega)]; rfl
  obtain ⟨a0, rfl⟩ := arr_int hE (hel 0 (by omega)) (hs 0 (by omega))
  obtain ⟨a1, rfl⟩ := arr_int hE (hel 1 (by omega)) (hs 1 (by omega))
  obtain ⟨a2, rfl⟩ := arr_int hE (hel 2 (by omega)) (hs 2 (by omega))
  obtain ⟨a3, rfl⟩ := arr_int hE (hel 3 (by omega)) (hs 3 (by omega))
  exact ⟨a0, a1, a2, a3, rfl⟩
theorem cells_arr4 : Tryd.prog.cellsOf 55 = 4 := by kernel_rfl
theorem cells_u64 : Tryd.prog.cellsOf 22 = 1 := by kernel_rfl
theorem gK : Tryd.prog.globalNamed "voussoir/sha.k" = some 1 := by kernel_rfl
theorem tK : (Tryd.prog.globals[1]?).map (·.type) = some 146 := by kernel_rfl
theorem gF : Tryd.prog.globalNamed "voussoir/sha.first" = some 0 := by kernel_rfl
theorem tF : (Tryd.prog.globals[0]?).map (·.type) = some 124 := by kernel_rfl
theorem var_block {W : World} {nm : String} {g : Nat} {cs : Array Value} {l : List Value} (hg : Tryd.prog.globalNamed nm = some g) (hv : W.var? Tryd.prog nm = some cs) (e : cs.toList = l) : ∃ t fr, W.heap[g]? = some (.cells l.toArray t fr) := by
  unfold World.var? at hv
  rw [hg] at hv
  simp only [Option.bind_some] at hv
  split at hv
  · rename_i cs' t fr hh
    have : cs' = l.toArray := by
      apply Array.ext'
      rw [← e]
      exact congrArg Array.toList (Option.some.inj hv)
    exact ⟨t, fr, by rw [← this]; exact hh⟩
  · cases hv
theorem glob_of {W : World} (h : laidMetH Tryd.prog [("voussoir/sha.k", Rows.laid_voussoir_sha_k), ("voussoir/sha.first", Rows.laid_voussoir_sha_first)] W) (hs : W.ShapedOpen Tryd.prog) : Glob W := by
  rw [MakeChecks.laidMetH_plain _ _ _ (by kernel_rfl)] at h
  obtain ⟨ps, ⟨g0, t0, cs0, f0, p0, q0, hg0, ht0, hv0, hd0, ⟨g1, t1, cs1, f1, p1, q1, hg1, ht1, hv1, hd1, _⟩, _⟩, _, _⟩ := h
  obtain rfl := Option.some.inj (gK.symm.trans hg0)
  obtain rfl := Option.some.inj (tK.symm.trans ht0)
  obtain rfl := Option.some.inj (gF.symm.trans hg1)
  obtain rfl := Option.some.inj (tF.symm.trans ht1)
  have e0 := words_cells kL Tryd.underlying146 (by kernel_rfl) hd0
  have e1 := words_cells firstS.l Tryd.underlying124 (by kernel_rfl) hd1
  exact ⟨var_block gK hv0 e0, var_block gF hv1 e1⟩
def layIn (cs : Array Value) : Obj → Obj
  | .cells _ t frozen => .cells cs t frozen
  | o => o
noncomputable def laidWorld (os : Os) : World :=
  { World.holding Tryd.prog os ⟨#[], #[], []⟩ with heap := ((World.holding Tryd.prog os ⟨#[], #[], []⟩).heap.modify 1 (layIn kA)).modify 0 (layIn (stC firstS.l)) }
theorem own : ownKnob Tryd.prog.godebug = none := by kernel_rfl
theorem laidOut : laidOutB Tryd.prog = true := by kernel_rfl
end Go.Proofs.YtpekbnkmnellpaaDoor
namespace Go.Proofs.YtpekbnkmnellpaaDoor
open Go.ChangeShapes Go.WideShapes Go.ChangeAt Go.RowKit Go.Deep
set_option linter.unusedVariables false

theorem gKr : Tryd.prog.globalNamed "voussoir/voussoirref01.k" = some 3 := by kernel_rfl
theorem tKr : (Tryd.prog.globals[3]?).map (·.type) = some 146 := by kernel_rfl
theorem gFr : Tryd.prog.globalNamed "voussoir/voussoirref01.first" = some 2 := by kernel_rfl
theorem tFr : (Tryd.prog.globals[2]?).map (·.type) = some 123 := by kernel_rfl
theorem globR_of {W : World} (h : laidMetH Tryd.prog [("voussoir/voussoirref01.k", Rows.laid_voussoir_voussoirref01_k), ("voussoir/voussoirref01.first", Rows.laid_voussoir_voussoirref01_first), ("voussoir/sha.k", Rows.laid_voussoir_sha_k), ("voussoir/sha.first", Rows.laid_voussoir_sha_first)] W) (hs : W.ShapedOpen Tryd.prog) : GlobR W := by
  rw [MakeChecks.laidMetH_plain _ _ _ (by kernel_rfl)] at h
  obtain ⟨ps, ⟨g2, t2, cs2, f2, p2, q2, hg2, ht2, hv2, hd2, ⟨g3, t3, cs3, f3, p3, q3, hg3, ht3, hv3, hd3, ⟨g0, t0, cs0, f0, p0, q0, hg0, ht0, hv0, hd0, ⟨g1, t1, cs1, f1, p1, q1, hg1, ht1, hv1, hd1, _⟩, _⟩, _⟩, _⟩, _, _⟩ := h
  obtain rfl := Option.some.inj (gK.symm.trans hg0)
  obtain rfl := Option.some.inj (tK.symm.trans ht0)
  obtain rfl := Option.some.inj (gF.symm.trans hg1)
  obtain rfl := Option.some.inj (tF.symm.trans ht1)
  obtain rfl := Option.some.inj (gKr.symm.trans hg2)
  obtain rfl := Option.some.inj (tKr.symm.trans ht2)
  obtain rfl := Option.some.inj (gFr.symm.trans hg3)
  obtain rfl := Option.some.inj (tFr.symm.trans ht3)
  have e0 := words_cells kL Tryd.underlying146 (by kernel_rfl) hd0
  have e1 := words_cells firstS.l Tryd.underlying124 (by kernel_rfl) hd1
  have e2 := words_cells kL Tryd.underlying146 (by kernel_rfl) hd2
  have e3 := words_cells firstS.l Tryd.underlying123 (by kernel_rfl) hd3
  exact ⟨⟨var_block gK hv0 e0, var_block gF hv1 e1⟩, var_block gKr hv2 e2, var_block gFr hv3 e3⟩
noncomputable def laidWorldR (os : Os) : World :=
  { World.holding Tryd.prog os ⟨#[], #[], []⟩ with heap := ((((World.holding Tryd.prog os ⟨#[], #[], []⟩).heap.modify 1 (layIn kA)).modify 0 (layIn (stC firstS.l))).modify 3 (layIn kA)).modify 2 (layIn (stC firstS.l)) }
end Go.Proofs.YtpekbnkmnellpaaDoor
