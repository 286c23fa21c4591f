/-
  What single operations come to, their operands evaluated.
-/
import Derived.Test.YtpekbnkmnellpaaDoorRegInv
namespace Go.Proofs.YtpekbnkmnellpaaDoor
open Go
set_option linter.unusedVariables false
section
variable {P : Program} {a : Act} {ρ : Operand → Value} {w w' : World} {dst : Option Tmp} {t : TypeId} {pos : String} {af : Array Edge} {g : Option (Nat × Bool)} {v x1 x2 x3 : Value} {x y z : Operand}
theorem wp_abs {c : Code} {Q : Exit → Act → World → Prop} (h : ∀ a0, a0 = a → c.wp P Q a0 w) : c.wp P Q a w := h a rfl
theorem map1 {f : Operand → Value} (h : f x = x1) : #[x].map f = #[x1] := by simp [h]
theorem map2 {f : Operand → Value} (h : f x = x1) (h2 : f y = x2) : #[x, y].map f = #[x1, x2] := by simp [h, h2]
theorem map3 {f : Operand → Value} (h : f x = x1) (h2 : f y = x2) (h3 : f z = x3) : #[x, y, z].map f = #[x1, x2, x3] := by simp [h, h2, h3]
theorem pairs1 {i : Nat} (h : ρ x = x1) : (#[(i, x)].map fun p => (p.1, ρ p.2)) = #[(i, x1)] := by simp [h]
theorem pairs4 {i j k m : Nat} {q : Operand} {x4 : Value} (h : ρ x = x1) (h2 : ρ y = x2) (h3 : ρ z = x3) (h4 : ρ q = x4) : (#[(i, x), (j, y), (k, z), (m, q)].map fun p => (p.1, ρ p.2)) = #[(i, x1), (j, x2), (k, x3), (m, x4)] := by simp [h, h2, h3, h4]
theorem run_move (hx : ρ x = v) : (execOp ρ ⟨dst, .move x, t, pos, af, g⟩).run P w = .ok (.value v) w := by subst hx; rfl
theorem run_assign (hx : ρ x = v) : (execOp ρ ⟨dst, .assign x, t, pos, af, g⟩).run P w = .ok (.value v) w := by subst hx; rfl
theorem run_pick_t (hx : ρ x = .bool true) (hy : ρ y = v) : (execOp ρ ⟨dst, .pick x y z, t, pos, af, g⟩).run P w = .ok (.value v) w := by
  subst hy
  simp [execOp, hx, go_sem]
theorem run_pick_f (hx : ρ x = .bool false) (hy : ρ z = v) : (execOp ρ ⟨dst, .pick x y z, t, pos, af, g⟩).run P w = .ok (.value v) w := by
  subst hy
  simp [execOp, hx, go_sem]
theorem run_load {T : TypeId} (hx : ρ x = x1) (h : (Instr.loadAt T x1).run P w = .ok v w') : (execOp ρ ⟨dst, .load T x, t, pos, af, g⟩).run P w = .ok (.value v) w' := by
  subst hx
  simp [execOp, h]
theorem run_box {T : TypeId} (hx : ρ x = x1) (h : (Instr.box T x1).run P w = .ok v w') : (execOp ρ ⟨dst, .box T x, t, pos, af, g⟩).run P w = .ok (.value v) w' := by
  subst hx
  simp [execOp, h]
theorem run_bslice {T : TypeId} {n : Nat} {ps : Array (Nat × Operand)} (qs : Array (Nat × Value)) (hx : (ps.map fun p => (p.1, ρ p.2)) = qs) (h : (Instr.buildSlice T n qs).run P w = .ok v w') : (execOp ρ ⟨dst, .buildSlice T n ps, t, pos, af, g⟩).run P w = .ok (.value v) w' := by
  subst hx
  simp [execOp, h]
theorem run_build {T : TypeId} {ps : Array (Nat × Operand)} (qs : Array (Nat × Value)) (hx : (ps.map fun p => (p.1, ρ p.2)) = qs) (h : (Instr.build T qs).run P w = .ok v w') : (execOp ρ ⟨dst, .build T ps, t, pos, af, g⟩).run P w = .ok (.value v) w' := by
  subst hx
  simp [execOp, h]
theorem run_store {T : TypeId} (hx : ρ x = x1) (hy : ρ y = x2) (h : (Instr.storeAt T x1 x2).run P w = .ok () w') : (execOp ρ ⟨dst, .store T x y, t, pos, af, g⟩).run P w = .ok .skip w' := by
  subst hx hy
  simp [execOp, h]
theorem run_not {T : TypeId} {b : Bool} (hx : ρ x = .bool b) : (execOp ρ ⟨dst, .unOp .not T x, t, pos, af, g⟩).run P w = .ok (.value (.bool !b)) w := by
  simp [execOp, hx, go_sem]
theorem run_fieldAddr {T : TypeId} {f : Nat} (hx : ρ x = x1) (h : (Instr.fieldAt T x1 f).run P w = .ok v w') : (execOp ρ ⟨dst, .fieldAddr T x f, t, pos, af, g⟩).run P w = .ok (.value v) w' := by
  subst hx
  simp [execOp, h]
theorem run_field {T : TypeId} {f : Nat} (hx : ρ x = x1) (h : (Instr.field T x1 f).run P w = .ok v w') : (execOp ρ ⟨dst, .field T x f, t, pos, af, g⟩).run P w = .ok (.value v) w' := by
  subst hx
  simp [execOp, h]
theorem run_extract {f : Nat} (hx : ρ x = x1) (h : (Instr.extract x1 f).run P w = .ok v w') : (execOp ρ ⟨dst, .extract x f, t, pos, af, g⟩).run P w = .ok (.value v) w' := by
  subst hx
  simp [execOp, h]
theorem run_lookup {T : TypeId} {ok : Bool} (hx : ρ x = x1) (hy : ρ y = x2) (h : (Instr.lookup T x1 x2 ok).run P w = .ok v w') : (execOp ρ ⟨dst, .lookup T x y ok, t, pos, af, g⟩).run P w = .ok (.value v) w' := by
  subst hx hy
  simp [execOp, h]
theorem run_mapUpdate {T : TypeId} (hx : ρ x = x1) (hy : ρ y = x2) (hz : ρ z = x3) (h : (Instr.mapUpdate T x1 x2 x3).run P w = .ok () w') : (execOp ρ ⟨dst, .mapUpdate T x y z, t, pos, af, g⟩).run P w = .ok .skip w' := by
  subst hx hy hz
  simp [execOp, h]
theorem run_convert {s d : TypeId} (hx : ρ x = x1) (h : (convert s d x1).run P w = .ok v w') : (execOp ρ ⟨dst, .convert s d x, t, pos, af, g⟩).run P w = .ok (.value v) w' := by
  subst hx
  simp [execOp, h]
theorem run_indexAddr {T : TypeId} (hx : ρ x = x1) (hy : ρ y = x2) (h : (Instr.indexAt T x1 x2).run P w = .ok v w') : (execOp ρ ⟨dst, .indexAddr T x y, t, pos, af, g⟩).run P w = .ok (.value v) w' := by
  subst hx hy
  simp [execOp, h]
theorem run_nilCheck {ad : Addr} (hx : ρ x = .pointer (some ad)) : (execOp ρ ⟨dst, .nilCheck x, t, pos, af, g⟩).run P w = .ok (.value (.pointer (some ad))) w := by
  simp [execOp, hx]
end
end Go.Proofs.YtpekbnkmnellpaaDoor
