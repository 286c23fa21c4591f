/-
  The walks of trie: Path, Leaf, Nothing, Inner, at, New.
-/
import Derived.Test.YtichklplcpkjdaaDoorShaTag
import Derived.Test.YtichklplcpkjdaaDoorSMap
import Derived.Test.YtichklplcpkjdaaDoorRegAll
import Derived.Lib.BufferWrite
import Derived.Deep.RegionWith
import Derived.Deep.RegionHeld3
namespace Go.Proofs.YtichklplcpkjdaaDoor
open Go.RowKit
set_option linter.unusedVariables false

theorem Glob.alloc {w : World} (G : Glob w) (o : Obj) : Glob (w.alloc o) := G.of_blocks fun i hi => Below.heap_alloc w o i (Nat.lt_of_lt_of_le hi G.two)
theorem Glob.next {w w' : World} (G : Glob w) (hb : Below w.heap.size w w') : Glob w' := G.below hb G.two
theorem partL_len (s : ByteArray) : (partL s).length = 4 + s.size := by
  simp [partL, w4]
  have : s.data.size = s.size := rfl
  omega
/-- where a key stands -/
def pathP (key : ByteArray) : List UInt8 := (sumB ⟨(inpL 6 [key]).toArray⟩).data.toList
theorem pathP_len (key : ByteArray) : (pathP key).length = 32 := by
  unfold pathP
  rw [len_data, sumB_size]
theorem pathP_str (key : ByteArray) : (⟨(pathP key).toArray⟩ : ByteArray) = sumB ⟨(inpL 6 [key]).toArray⟩ := by
  apply ByteArray.ext
  simp [pathP]
def leafB (p v : ByteArray) : ByteArray := sumB ⟨(inpL 7 [p, v]).toArray⟩
def innerB (a b : ByteArray) : ByteArray := sumB ⟨(inpL 8 [a, b]).toArray⟩
def nothingB : ByteArray := sumB ⟨(inpL 9 []).toArray⟩
theorem tag1 (c : UInt8) (X : ByteArray) (g : Nat) (W : World) (hb : Blk W g 9 #[.string X]) (G : Glob W) (hX : X.size ≤ 140737488351300) :
    Calls Tryd.prog 37 #[.int .u8 (c.toNat : Int), .slice (some ⟨g, 0, none⟩) 1 1] W fun e w' => e = .returned (.string (sumB ⟨(inpL c [X]).toArray⟩)) ∧ Below W.heap.size W w' :=
  tag_is c [X] g 1 W G hb.lt (fun j h => by
    rw [hb.cell j]
    have : j = 0 := by simp at h; omega
    subst this; rfl) (by simp) (by simp [inpL, partL_len]; omega)
theorem tag2 (c : UInt8) (X Y : ByteArray) (g : Nat) (W : World) (hb : Blk W g 9 #[.string X, .string Y]) (G : Glob W) (hX : X.size + Y.size ≤ 140737488351400) :
    Calls Tryd.prog 37 #[.int .u8 (c.toNat : Int), .slice (some ⟨g, 0, none⟩) 2 2] W fun e w' => e = .returned (.string (sumB ⟨(inpL c [X, Y]).toArray⟩)) ∧ Below W.heap.size W w' :=
  tag_is c [X, Y] g 2 W G hb.lt (fun j h => by
    rw [hb.cell j]
    have : j = 0 ∨ j = 1 := by simp at h; omega
    rcases this with rfl | rfl <;> rfl) (by simp) (by simp [inpL, partL_len]; omega)
set_option maxHeartbeats 1000000 in
theorem tpath_is (key : ByteArray) (w : World) (G : Glob w) (hs : key.size ≤ 140737488351300) :
    Calls Tryd.prog 24 #[.string key] w fun e w' => e = .returned (.string ⟨(pathP key).toArray⟩) ∧ Below w.heap.size w w' := by
  rw [pathP_str]
  have HG := Lib.hid G
  clear G
  go_enter Tryd.func24, Tryd.ntmps24
  go_wp2_with fail
  refine (tag1 6 key w.heap.size _ (Blk.new w _ _) (HG.out.alloc _) hs).mono ?_
  rintro e w1 ⟨rfl, hb1⟩
  have HL := Lib.hid (bstep (balloc (Below.refl _ w) _) hb1)
  clear hb1
  go_wp2_with fail
  go_ret
  exact ⟨rfl, HL.out⟩
set_option maxHeartbeats 1000000 in
theorem tleaf_is (p v : ByteArray) (w : World) (G : Glob w) (hs : p.size + v.size ≤ 140737488351400) :
    Calls Tryd.prog 23 #[.string p, .string v] w fun e w' => e = .returned (.string (leafB p v)) ∧ Below w.heap.size w w' := by
  have HG := Lib.hid G
  clear G
  go_enter Tryd.func23, Tryd.ntmps23
  go_wp2_with fail
  refine (tag2 7 p v w.heap.size _ (Blk.new w _ _) (HG.out.alloc _) hs).mono ?_
  rintro e w1 ⟨rfl, hb1⟩
  have HL := Lib.hid (bstep (balloc (Below.refl _ w) _) hb1)
  clear hb1
  go_wp2_with fail
  go_ret
  exact ⟨rfl, HL.out⟩
set_option maxHeartbeats 1000000 in
theorem tinner_is (a b : ByteArray) (w : World) (G : Glob w) (hs : a.size + b.size ≤ 140737488351400) :
    Calls Tryd.prog 49 #[.string a, .string b] w fun e w' => e = .returned (.string (innerB a b)) ∧ Below w.heap.size w w' := by
  have HG := Lib.hid G
  clear G
  go_enter Tryd.func49, Tryd.ntmps49
  go_wp2_with fail
  refine (tag2 8 a b w.heap.size _ (Blk.new w _ _) (HG.out.alloc _) hs).mono ?_
  rintro e w1 ⟨rfl, hb1⟩
  have HL := Lib.hid (bstep (balloc (Below.refl _ w) _) hb1)
  clear hb1
  go_wp2_with fail
  go_ret
  exact ⟨rfl, HL.out⟩
def tatV (g : Nat) (key : ByteArray) (p : List UInt8) (i : Nat) (v : Value) : Prop := match i with
  | 0 => v = .slice (some ⟨g, 0, none⟩) 32 32
  | 1 => v = .string key
  | 2 => v = .string ⟨p.toArray⟩
  | _ => True
def tatS (w W1 : World) (P : List UInt8) (n : Nat) (vs : List Value) (W : World) : Prop := match n with
  | 0 => Below W1.drew.heap.size W1.drew W
  | 1 => Below W1.drew.heap.size W1.drew W
  | 2 => Blk W w.heap.size 74 (bC P).toArray ∧ Below w.heap.size w W
  | _ => False
theorem tatS_le {w W1 : World} {P : List UInt8} (n : Nat) (vs : List Value) (W : World) (h : tatS w W1 P n vs W) : n ≤ 2 := by
  rcases n with _ | _ | _ | n
  · omega
  · omega
  · omega
  · exact absurd h id
theorem run_slc {P : Program} {ρ : Operand → Value} {w w' : World} {dst : Option Tmp} {t : TypeId} {pos : String} {af : Array Edge} {g : Option (Nat × Bool)} {v x1 : Value} {x : Operand} {T : TypeId} (hx : ρ x = x1) (h : (Instr.sliceAt T x1 none none none).run P w = .ok v w') : (execOp ρ ⟨dst, .slice T x none none none, t, pos, af, g⟩).run P w = .ok (.value v) w' := by
  subst hx
  simp [execOp, h]
theorem sl_place (g : Nat) (W : World) : (Instr.sliceAt 74 (.pointer (some ⟨g, 0, none⟩)) none none none).run Tryd.prog W = .ok (.slice (some ⟨g, 0, none⟩) 32 32) W := by go_simp
theorem run_cpy {P : Program} {ρ : Operand → Value} {w w' : World} {dst : Option Tmp} {t : TypeId} {pos : String} {af : Array Edge} {g : Option (Nat × Bool)} {v x1 x2 : Value} {x y : Operand} {T U : TypeId} (hx : ρ x = x1) (hy : ρ y = x2) (h : (Builtin.copy_ #[T, U] t #[x1, x2]).run P w = .ok v w') : (execOp ρ ⟨dst, .call { callee := .builtin .copy, args := #[x, y], argTypes := #[T, U] }, t, pos, af, g⟩).run P w = .ok (.value v) w' := by
  subst hx hy
  simp [execOp, resolve, invoke, builtin, h]
theorem cp_place (W : World) (g : Nat) (P : List UInt8) (hP : P.length = 32) {cs : Array Value} (hB : Blk W g 74 cs) (hc : cs.size = 32 := by rfl) : (Builtin.copy_ #[68, 9] 3 #[.slice (some ⟨g, 0, none⟩) 32 32, .string ⟨P.toArray⟩]).run Tryd.prog W = .ok (.int .i64 32) (W.setRow g (bC P).toArray) := by
  have h := Lib.run_copy_row_string W 68 9 3 5 g 0 32 32 ⟨P.toArray⟩ cs 74 Tryd.underlying68 (by kernel_rfl) hB (by simp [ByteArray.size, hP]) (by simp [ByteArray.size, hP, hc])
  rw [h]
  have e : (⟨P.toArray⟩ : ByteArray).size = 32 := by simp [ByteArray.size, hP]
  rw [e]
  have e2 : cs.toList.drop 32 = [] := List.drop_eq_nil_of_le (by simp [hc])
  simp only [List.take_zero, List.nil_append, Nat.zero_add, e2, List.append_nil]
  rfl
/-- a place is loaded, wherever its cells stand -/
theorem ldv_place {a : Addr} {P : List UInt8} {W : World} (hP : P.length = 32) (h : ∀ j u, (bC P)[j]? = some u → W.cell? (a.add j) = some u) : (loadVar 74 a).run Tryd.prog W = .ok (pv P) W := by
  have hl := run_loadCells_list (P := Tryd.prog) W a (bC P) h
  rw [bC_len, hP] at hl
  have hagg : (isAgg 74).run Tryd.prog W = .ok true W := Tryd.isAgg74 W
  simp [loadVar, Sem.run_bind, hagg, hl]
theorem ld_placeAt {a : Addr} {P : List UInt8} {W : World} (hP : P.length = 32) (h : ∀ j u, (bC P)[j]? = some u → W.cell? (a.add j) = some u) : (Instr.loadAt 74 (.pointer (some a))).run Tryd.prog W = .ok (pv P) W := by
  simp only [Instr.loadAt, Instr.sureAddr, Sem.run_bind, Sem.run_pure, Result.andThen_ok]
  exact ldv_place hP h
theorem blk_cells {g : Nat} {t : TypeId} {P : List UInt8} {W : World} (h : Blk W g t (bC P).toArray) (j : Nat) (u : Value) (hu : (bC P)[j]? = some u) : W.cell? ((⟨g, 0, none⟩ : Addr).add j) = some u := by
  have e : (⟨g, 0, none⟩ : Addr).add j = ⟨g, j, none⟩ := by unfold Addr.add; split <;> simp_all
  rw [e, h.cell j]
  simpa using hu
theorem ld_place {g : Nat} {P : List UInt8} {W : World} (h : Blk W g 74 (bC P).toArray) (hP : P.length = 32) : (Instr.loadAt 74 (.pointer (some ⟨g, 0, none⟩))).run Tryd.prog W = .ok (pv P) W := ld_placeAt hP (blk_cells h)
theorem below_setRow (W : World) (g : Nat) (cs : Array Value) : Below g W (W.setRow g cs) := ⟨rfl, rfl, rfl, by simp, fun k hk => setRow_other W g k _ (by omega)⟩
set_option maxRecDepth 100000 in
set_option maxHeartbeats 1000000 in
theorem at_is (key : ByteArray) (w : World) (G : Glob w) (hs : key.size ≤ 140737488351300) :
    Calls Tryd.prog 42 #[.string key] w fun e w' => e = .returned (pv (pathP key)) ∧ Below w.heap.size w w' := by
  have HG := Lib.hid G
  clear G
  obtain ⟨P, hP⟩ : ∃ P, pathP key = P := ⟨_, rfl⟩
  have hlen : P.length = 32 := hP ▸ pathP_len key
  have HP := Lib.hid hP
  clear hP
  go_enter Tryd.func42, Tryd.ntmps42
  go_upto_region 1 with fail
  have hB1 := Blk.new w 74 (Array.replicate 32 (Value.int .u8 0))
  have hL1 := balloc (Below.refl _ w) (.cells (Array.replicate 32 (Value.int .u8 0)) 74)
  change Code.wp _ _ _ _ (w.alloc (.cells (Array.replicate 32 (Value.int .u8 0)) 74))
  generalize w.alloc (.cells (Array.replicate 32 (Value.int .u8 0)) 74) = W1 at hB1 hL1 ⊢
  have HGd := Lib.hid (HG.out.next hL1.drew)
  have HB1 : Hid (Blk W1.drew w.heap.size 74 (Array.replicate 32 (Value.int .u8 0))) := Lib.hid hB1
  have HL1 := Lib.hid hL1.drew
  have HPa : Hid (∀ W, Glob W → Calls Tryd.prog 24 #[.string key] W fun e w' => e = .returned (.string ⟨P.toArray⟩) ∧ Below W.heap.size W w') := Lib.hid (fun W g => by have := tpath_is key W g hs; rw [HP.out] at this; exact this)
  clear hB1 hL1
  refine wp_abs fun a0 hA => ?_
  have h0 : a0.eval (.tmp 0) = .string key := by rw [hA]; rfl
  have h2 : a0.eval (.tmp 2) = .pointer (some ⟨w.heap.size, 0, none⟩) := by rw [hA]; rfl
  have hz : a0.tmps.size = 7 := by rw [hA]; rfl
  refine wp_region_K [some 3, some 4, some 5, some 6] 7 (CJ (tatV w.heap.size key P) (fun _ _ => True) [2, 3] (tatS w W1 P)) (by kernel_rfl) (by kernel_rfl) (by kernel_rfl) rfl (by kernel_rfl) hz (CJ.start (fun i => trivial) (Below.refl _ _)) ?_ ⟨?_, ?_, ?_, ?_, trivial⟩
  · intro d u W hd hJ
    have HS := Lib.hid (show tatS w W1 P 2 _ W from hJ.fin 2 rfl (fun k hk => by simp at hk; rcases hk with rfl | rfl <;> exact hd _ (by decide)) tatS_le)
    rw [hA]
    simp only [putAll, Act.put, List.setIfInBounds_toArray, List.set_cons_zero, List.set_cons_succ]
    clear hJ hd h0 h2 hz hA
    clear a0
    go_wp2_with fail
    refine bodyPost_ret (v := pv P) ?_ rfl ⟨by rw [HP.out], HS.out.2⟩
    have hld := ldv_place (W := W) (a := ⟨w.heap.size, 0, none⟩) hlen (blk_cells HS.out.1)
    have had : (asAddr (.pointer (some ⟨w.heap.size, 0, none⟩))).run Tryd.prog W = .ok ⟨w.heap.size, 0, none⟩ W := rfl
    simp [results, Tryd.results42, had, hld, Result.andThen]
  · exact KStep.plain rfl fun ρ d u W he hc hdi hd hJ => swp_val (run_slc (he.o h2 rfl) (sl_place w.heap.size W)) (hJ.pure 0 rfl rfl)
  · exact KStep.plain rfl fun ρ d u W he hc hdi hd hJ => swp_val (run_move (he.o h0 rfl)) (hJ.pure 1 rfl rfl)
  · refine KStep.plain rfl fun ρ d u W he hc hdi hd hJ => ?_
    have hS : Below W1.drew.heap.size W1.drew W := hJ.at_ 0 rfl hdi (fun j h => by omega)
    exact swp_call (run_call #[.string key] (he.func _) (by kernel_rfl) (map1 (he.i hz (hJ.vals 1 (hd 1 (by kernel_rfl))) (j := 1) (d := 4) rfl (by decide)))) (HPa.out W (HGd.out.below hS HGd.out.two)) (fun e W' h => ⟨_, h.1, hJ.go 0 rfl hdi (by decide) (fun j h => by omega) rfl (bstep hS h.2)⟩)
  · refine KStep.plain rfl fun ρ d u W he hc hdi hd hJ => ?_
    have hS : Below W1.drew.heap.size W1.drew W := hJ.at_ 1 rfl hdi (fun j h => by cases h; exact ⟨2, rfl, hd 2 (by kernel_rfl)⟩)
    exact swp_val (run_cpy (he.i hz (hJ.vals 0 (hd 0 (by kernel_rfl))) (j := 0) (d := 3) rfl (by decide)) (he.i hz (hJ.vals 2 (hd 2 (by kernel_rfl))) (j := 2) (d := 5) rfl (by decide)) (cp_place W w.heap.size P hlen (HB1.out.below hS))) (hJ.go 1 rfl hdi (by decide) (fun j h => by cases h; exact ⟨2, rfl, hd 2 (by kernel_rfl)⟩) trivial ⟨setRow_heap W w.heap.size _ _ _ _ (HB1.out.below hS), HL1.out.trans ((hS.mono HL1.out.size).trans (below_setRow W w.heap.size _))⟩)
end Go.Proofs.YtichklplcpkjdaaDoor
