/-
  Slices of bytes that the call itself has made; sha.lay.
-/
import Derived.Test.YtichklplcpkjdaaDoorBase
import Derived.Laws.AppendOwn
import Derived.Laws.OwnMore
import Derived.Laws.BytesString
import Derived.OwnWalk
import Derived.Laws.BytesArg
import Derived.Outline
namespace Go.Proofs.YtichklplcpkjdaaDoor
open Go.RowKit
set_option linter.unusedVariables false

/-- bytes as cells -/
def bC (l : List UInt8) : List Value := l.map fun b => Value.int .u8 (b.toNat : Int)
theorem bC_len (l : List UInt8) : (bC l).length = l.length := List.length_map ..
theorem bC_app (l m : List UInt8) : bC (l ++ m) = bC l ++ bC m := List.map_append
/-- the slice v owns the bytes l, in a block from base on -/
def Byt (w : World) (base : Nat) (v : Value) (l : List UInt8) : Prop := w.ownsRow base 5 1 v l.length (bC l)
theorem info_u8 : (Tryd.prog.info? 5).map (fun i => (i.zero, i.size, i.bytes)) = some (some (.int .u8 0), 1, 1) := by kernel_rfl
/-- a word's four bytes -/
def w4 (x : Int) : List UInt8 := [UInt8.ofNat (x / 16777216 % 256).toNat, UInt8.ofNat (x / 65536 % 256).toNat, UInt8.ofNat (x / 256 % 256).toNat, UInt8.ofNat (x % 256).toNat]
theorem byte_back (y : Int) (h0 : 0 ≤ y) (h1 : y < 256) : ((UInt8.ofNat y.toNat).toNat : Int) = y := by
  rw [UInt8.toNat_ofNat']
  omega
theorem w4_cells (x : Int) : bC (w4 x) = [.int .u8 (x / 16777216 % 256), .int .u8 (x / 65536 % 256), .int .u8 (x / 256 % 256), .int .u8 (x % 256)] := by
  simp only [bC, w4, List.map_cons, List.map_nil]
  rw [byte_back _ (by omega) (by omega), byte_back _ (by omega) (by omega), byte_back _ (by omega) (by omega), byte_back _ (by omega) (by omega)]
def LayAns (w : World) (base : Nat) (v : Value) (l : List UInt8) (e : Ending) (w' : World) : Prop := ∃ v', e = .returned v' ∧ Byt w' base v' l ∧ w.grownBy w' v.ownBlock
theorem grown_trans {w w1 w2 : World} {r : Option Nat} (h : w.grownBy w1 r) (h' : w1.grownBy w2 r) : w.grownBy w2 r := h.trans h'
theorem fourCells (w : World) (a b c d : Value) (t : TypeId) : ∀ j u, [a, b, c, d][j]? = some u → (w.alloc (.cells #[a, b, c, d] t)).cell? ((⟨w.heap.size, 0, none⟩ : Addr).add j) = some u := by
  intro j u hu
  have e : (⟨w.heap.size, 0, none⟩ : Addr).add j = ⟨w.heap.size, j, none⟩ := by unfold Addr.add; split <;> simp_all
  rw [e, (Blk.new w t #[a, b, c, d]).cell j]
  simpa using hu
set_option maxHeartbeats 1000000 in
theorem lay_is (base : Nat) (v : Value) (l : List UInt8) (x : Int) (w : World) (hown : Byt w base v l) (hl : l.length + 4 ≤ 140737488355328) (hb : base ≤ w.heap.size) (h0 : 0 ≤ x) (h1 : x ≤ 4294967295) :
    Calls Tryd.prog 53 #[v, .int .u32 x] w (LayAns w base v (l ++ w4 x)) := by
  obtain ⟨i0, hi, hz0, hz1, hz2⟩ := info_parts info_u8
  have HI := Lib.hid (And.intro hi (And.intro hz0 (And.intro hz1 hz2)))
  clear hi hz0 hz1 hz2
  have HO := Lib.hid hown
  clear hown
  go_enter Tryd.func53, Tryd.ntmps53
  go_wp2_with (at_builtin; refine wpList_append_own _ rfl _ _ 68 rfl base 5 i0 (.int .u8 0) 1 1 Tryd.underlying68 HI.out.1 HI.out.2.1 HI.out.2.2.1 HI.out.2.2.2 rfl (by decide) _ _ _ rfl (HO.out.alloc _) ⟨w.heap.size, 0, none⟩ 4 4 _ rfl rfl (fourCells w _ _ _ _ _) ?c2 ?c3 ?c4 ?c5 ?_)
  case c2 => simp [Value.oneCell']
  case c3 => unfold maxLen; omega
  case c4 => omega
  case c5 => simp; omega
  intro v' w1 hown' hgrow hnil
  have HA : Hid (LayAns w base v (l ++ w4 x) (.returned v') w1) := Lib.hid ⟨v', rfl, by
    unfold Byt
    rw [bC_app, w4_cells, List.length_append, Int.emod_eq_of_lt (a := x / 16777216) (by omega) (by omega)]
    exact hown', (World.grownBy_alloc w _ _).trans hgrow⟩
  clear hown' hgrow hnil
  go_wp2
  go_ret
  exact HA.out
theorem Byt.nil (w : World) (base : Nat) : Byt w base (.slice none 0 0) [] := World.ownsRow_nil _ _ _ _
theorem Byt.conv {w : World} {base : Nat} {v : Value} {l : List UInt8} (h : Byt w base v l) : (convert 68 9 v).run Tryd.prog w = .ok (.string ⟨l.toArray⟩) w := by
  have hc := fun g hg => World.ownsRow.cells h (g := g) hg
  rcases h.2 with ⟨rfl, h0⟩ | ⟨g, cap, cur, rfl, _⟩
  · have : l = [] := List.length_eq_zero_iff.1 h0
    subst this
    exact run_convert_bytes_nil w _ _ Tryd.underlying68 Tryd.underlying5 0 0 _ Tryd.underlying9
  · refine run_convert_bytes_back (P := Tryd.prog) w 68 9 5 ⟨g, 0, none⟩ cap l Tryd.underlying68 Tryd.underlying5 Tryd.underlying9 fun j hj => ?_
    refine hc g rfl j _ ?_
    rw [bC, List.getElem?_map, List.getElem?_eq_getElem hj]
    rfl
theorem Byt.kept {w w' : World} {base : Nat} {v : Value} {l : List UInt8} (h : Byt w base v l) (hb : Below w.heap.size w w') : Byt w' base v l := by
  refine ⟨h.1, ?_⟩
  rcases h.2 with hn | ⟨g, cap, cur, hv, hbg, hgg, rest⟩
  · exact .inl hn
  · exact .inr ⟨g, cap, cur, hv, hbg, (hb.block g (lt_of_block hgg)).trans hgg, rest⟩
theorem Byt.alloc {w : World} {base : Nat} {v : Value} {l : List UInt8} (h : Byt w base v l) (o : Obj) : Byt (w.alloc o) base v l := World.ownsRow.alloc h o
theorem below_grown {B base : Nat} {w w1 w2 : World} {v : Value} {l : List UInt8} (hb : Below B w w1) (h : Byt w1 base v l) (hg : w1.grownBy w2 v.ownBlock) (hB : B ≤ base) (hs : B ≤ w1.heap.size) : Below B w w2 :=
  hb.grown hg hs (fun j hj => Nat.le_trans hB (h.lt j hj).1)
theorem wpList_append_run {P : Program} (w : World) {ops : Array Oper} {rest : List Oper} {o : Oper} {a : Act} {Q : Exit → Act → World → Prop} (hgd : o.guard = none) (s x : Operand) (t u : TypeId)
    (ho : o.op = .call { callee := .builtin .append, args := #[s, x], argTypes := #[t, u] }) (vs vx : Value) (hs : a.eval s = vs) (hx : a.eval x = vx) (v' : Value) (w' : World)
    (hr : (Builtin.append_ #[t, u] o.type #[vs, vx]).run P w = .ok v' w') (h : wpList P ops Q rest (a.put o.dst v') w') : wpList P ops Q (o :: rest) a w :=
  wpList_plain hgd fun K hK => by
    unfold Oper.wp execOp
    simp only [ho, resolve, invoke, builtin, Sem.run_bind, Sem.run_pure, Result.andThen_ok, List.map_toArray, List.map_cons, List.map_nil, hs, hx, hr]
    exact hK _ _ h
end Go.Proofs.YtichklplcpkjdaaDoor
