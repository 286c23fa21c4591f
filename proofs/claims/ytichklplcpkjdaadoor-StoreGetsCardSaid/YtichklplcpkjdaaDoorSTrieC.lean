/-
  The walks of the trie's New, Get, Set, Delete (printed by gen_striec.py).
-/
import Derived.Test.YtichklplcpkjdaaDoorSTrieB
import Derived.Maps.RangeWalk
namespace Go.Proofs.YtichklplcpkjdaaDoor
open Go.RowKit Go.Maps
set_option linter.unusedVariables false

/-- a trie: its block t, its map's block b, at most n places, what it holds -/
structure TAt (w : World) (t b n : Nat) (f : PM) : Prop where
  blk : Blk w t 72 #[.map (some b)]
  m : MapP w b n f
  ok : ∀ k v, f k = some v → v.size ≤ 140737488351232
section
variable {w w' : World} {t b n m : Nat} {f : PM}
theorem MapP.below (h : MapP w b n f) (hb : Below w.heap.size w w') : MapP w' b n f := h.of_block (hb.block b h.lt)
theorem TAt.below (h : TAt w t b n f) (hb : Below w.heap.size w w') : TAt w' t b n f := ⟨h.blk.below hb, h.m.below hb, h.ok⟩
theorem TAt.mono (h : TAt w t b n f) (hn : n ≤ m) : TAt w t b m f := ⟨h.blk, h.m.mono hn, h.ok⟩
theorem MapP.not_cells (h : MapP w b n f) {g : Nat} {T : TypeId} {cs : Array Value} (hg : Blk w g T cs) : g ≠ b := by
  obtain ⟨D, ⟨es, clock, h1, h2⟩, hr⟩ := h
  intro e
  unfold Blk at hg
  rw [e, h1] at hg
  cases hg
theorem TAt.ne (h : TAt w t b n f) : t ≠ b := h.m.not_cells h.blk
theorem TAt.turned (h : TAt w t b n f) {f' : PM} (ht : w.mapTurned w' b) (hm : MapP w' b m f') (ho : ∀ k v, f' k = some v → v.size ≤ 140737488351232) : TAt w' t b m f' :=
  ⟨(((Only.refl [b] w).turned ht (by simp)).block t h.blk.lt (by simpa using h.ne)).trans h.blk, hm, ho⟩
end
/-- a region that writes nothing of what was there -/
def bwS (W0 : World) (n : Nat) (vs : List Value) (W : World) : Prop := n ≤ 1 ∧ Below W0.heap.size W0 W
theorem bwS_inv {V O : Nat → Value → Prop} {ks : List Nat} {W0 : World} {d : Nat → Bool} {u : Nat → Value} {W : World} (h : CJ V O ks (bwS W0) d u W) : Below W0.heap.size W0 W := h.inv (fun n l W h => h.2)
theorem ld_map {g b : Nat} {W : World} (h : W.cell? ⟨g, 0, none⟩ = some (.map (some b))) : (Instr.loadAt 70 (.pointer (some ⟨g, 0, none⟩))).run Tryd.prog W = .ok (.map (some b)) W := by go_simp
theorem tx0 (a b : Value) (W : World) : (Instr.extract (.tuple #[a, b]) 0).run Tryd.prog W = .ok a W := by go_simp
theorem tx1 (a b : Value) (W : World) : (Instr.extract (.tuple #[a, b]) 1).run Tryd.prog W = .ok b W := by go_simp
theorem run_del {P : Program} {ρ : Operand → Value} {w w' : World} {dst : Option Tmp} {t : TypeId} {pos : String} {af : Array Edge} {g : Option (Nat × Bool)} {v x1 x2 : Value} {x y : Operand} {T U : TypeId} (hx : ρ x = x1) (hy : ρ y = x2) (h : (Builtin.delete_ #[T, U] t #[x1, x2]).run P w = .ok v w') : (execOp ρ ⟨dst, .call { callee := .builtin .delete, args := #[x, y], argTypes := #[T, U] }, t, pos, af, g⟩).run P w = .ok (.value v) w' := by
  subst hx hy
  simp [execOp, resolve, invoke, builtin, h]
set_option maxHeartbeats 1000000 in
theorem tnew_is (w : World) : Calls Tryd.prog 25 #[] w fun e w' => e = .returned (.pointer (some ⟨w.heap.size + 1, 0, none⟩)) ∧ TAt w' (w.heap.size + 1) w.heap.size 0 (fun _ => none) ∧ Below w.heap.size w w' ∧ w'.heap.size = w.heap.size + 2 := by
  have hmm := @run_makeMap Tryd.prog
  have HT : Hid (TAt ((w.alloc (.map #[] 0)).alloc (.cells #[.map (some w.heap.size)] 72)) (w.heap.size + 1) w.heap.size 0 (fun _ => none)) := Lib.hid (by
    have h1 := Blk.new (w.alloc (.map #[] 0)) 72 #[.map (some w.heap.size)]
    rw [show (w.alloc (.map #[] 0)).heap.size = w.heap.size + 1 by simp] at h1
    exact ⟨h1, (MapP.new w).below (balloc (Below.refl _ _) _), fun k v h => by cases h⟩)
  go_enter Tryd.func25, Tryd.ntmps25
  go_wp2_with fail
  go_ret
  exact ⟨rfl, HT.out, balloc (balloc (Below.refl _ w) _) _, by simp⟩
def tgtV (t b : Nat) (key : ByteArray) (P : List UInt8) (f : PM) (i : Nat) (v : Value) : Prop := match i with
  | 0 => v = .pointer (some ⟨t, 0, none⟩)
  | 1 => v = .pointer (some ⟨t, 0, none⟩)
  | 2 => v = .pointer (some ⟨t, 0, none⟩)
  | 3 => v = .map (some b)
  | 4 => v = .string key
  | 5 => v = pv P
  | 6 => v = .tuple #[.string ((f P).getD ByteArray.empty), .bool (f P).isSome]
  | 7 => v = .tuple #[.string ((f P).getD ByteArray.empty), .bool (f P).isSome]
  | 8 => v = .string ((f P).getD ByteArray.empty)
  | 9 => v = .bool (f P).isSome
  | 10 => v = .string ((f P).getD ByteArray.empty)
  | 11 => v = .bool (f P).isSome
  | _ => True
set_option maxRecDepth 100000 in
set_option maxHeartbeats 1000000 in
theorem tget_is (w : World) (G : Glob w) (t b n : Nat) (f : PM) (key : ByteArray) (h : TAt w t b n f) (hs : key.size ≤ 140737488351300) :
    Calls Tryd.prog 31 #[.pointer (some ⟨t, 0, none⟩), .string key] w fun e w' => e = .returned (.tuple #[.string ((f (pathP key)).getD ByteArray.empty), .bool (f (pathP key)).isSome]) ∧ Below w.heap.size w w' := by
  obtain ⟨P, hP⟩ : ∃ P, pathP key = P := ⟨_, rfl⟩
  rw [hP]
  have HLen : Hid (P.length = 32) := Lib.hid (hP ▸ pathP_len key)
  have HAt : Hid (∀ W, Glob W → Calls Tryd.prog 42 #[.string key] W fun e w' => e = .returned (pv P) ∧ Below W.heap.size W w') := Lib.hid (fun W g => hP ▸ at_is key W g hs)
  have HGd := Lib.hid (G.next (Below.refl _ w).drew)
  have HT := Lib.hid h
  have HT0 := Lib.hid (h.below (Below.refl _ w).drew)
  clear hP h G
  go_enter Tryd.func31, Tryd.ntmps31
  go_upto_region 1 with fail
  refine wp_abs fun a0 hA => ?_
  have h0 : a0.eval (.tmp 0) = .pointer (some ⟨t, 0, none⟩) := by rw [hA]; rfl
  have h1 : a0.eval (.tmp 1) = .string key := by rw [hA]; rfl
  have hz : a0.tmps.size = 20 := by rw [hA]; rfl
  refine wp_region_K [some 9, some 10, some 11, some 12, some 13, some 14, some 15, some 8, some 16, some 17, some 6, some 7] 20 (CJ (tgtV t b key P f) (fun _ _ => True) [5] (bwS w.drew)) (by kernel_rfl) (by kernel_rfl) (by kernel_rfl) rfl (by kernel_rfl) hz (CJ.start (fun i => trivial) ⟨Nat.zero_le 1, Below.refl _ _⟩) ?_ ⟨?_, ?_, ?_, ?_, ?_, ?_, ?_, ?_, ?_, ?_, ?_, ?_, trivial⟩
  · intro d u W hd hJ
    have HW : Hid (Below w.heap.size w W) := Lib.hid (bstep (Below.refl _ w).drew (bwS_inv hJ))
    have e10 : u 10 = .string ((f P).getD ByteArray.empty) := hJ.vals 10 (hd 10 (by decide))
    have e11 : u 11 = .bool (f P).isSome := hJ.vals 11 (hd 11 (by decide))
    rw [hA]
    simp only [putAll, Act.put, List.setIfInBounds_toArray, List.set_cons_zero, List.set_cons_succ]
    clear hJ hd h0 h1 hz hA
    clear a0
    rw [e10, e11]
    clear e10 e11
    go_wp2_with fail
    go_ret2
    exact ⟨rfl, HW.out⟩
  · exact KStep.plain rfl fun ρ d u W he hc hdi hd hJ => swp_val (run_move (he.o h0 rfl)) (hJ.pure 0 rfl rfl)
  · exact KStep.plain rfl fun ρ d u W he hc hdi hd hJ => swp_val (run_nilCheck (he.i hz (hJ.vals 0 (hd 0 (by kernel_rfl))) (j := 0) (d := 9) rfl (by decide))) (hJ.pure 1 rfl rfl)
  · exact KStep.plain rfl fun ρ d u W he hc hdi hd hJ => swp_val (run_fieldAddr (he.i hz (hJ.vals 1 (hd 1 (by kernel_rfl))) (j := 1) (d := 10) rfl (by decide)) (by go_simp)) (hJ.pure 2 rfl rfl)
  · exact KStep.plain rfl fun ρ d u W he hc hdi hd hJ => swp_val (run_load (he.i hz (hJ.vals 2 (hd 2 (by kernel_rfl))) (j := 2) (d := 11) rfl (by decide)) (ld_map ((HT0.out.below (bwS_inv hJ)).blk.cell 0))) (hJ.pure 3 rfl rfl)
  · exact KStep.plain rfl fun ρ d u W he hc hdi hd hJ => swp_val (run_move (he.o h1 rfl)) (hJ.pure 4 rfl rfl)
  · exact KStep.plain rfl fun ρ d u W he hc hdi hd hJ => swp_call (run_call #[.string key] (he.func _) (by kernel_rfl) (map1 (he.i hz (hJ.vals 4 (hd 4 (by kernel_rfl))) (j := 4) (d := 13) rfl (by decide)))) (HAt.out W (HGd.out.next (bwS_inv hJ))) (fun e W' h => ⟨_, h.1, hJ.go 0 rfl hdi (by decide) (fun j h => by omega) rfl ⟨Nat.le_refl 1, bstep (bwS_inv hJ) h.2⟩⟩)
  · exact KStep.plain rfl fun ρ d u W he hc hdi hd hJ => swp_val (run_lookup (he.i hz (hJ.vals 3 (hd 3 (by kernel_rfl))) (j := 3) (d := 12) rfl (by decide)) (he.i hz (hJ.vals 5 (hd 5 (by kernel_rfl))) (j := 5) (d := 14) rfl (by decide)) ((HT0.out.below (bwS_inv hJ)).m.look_c HLen.out true)) (hJ.pure 6 rfl rfl)
  · exact KStep.plain rfl fun ρ d u W he hc hdi hd hJ => swp_val (run_move (he.i hz (hJ.vals 6 (hd 6 (by kernel_rfl))) (j := 6) (d := 15) rfl (by decide))) (hJ.pure 7 rfl rfl)
  · exact KStep.plain rfl fun ρ d u W he hc hdi hd hJ => swp_val (run_extract (he.i hz (hJ.vals 7 (hd 7 (by kernel_rfl))) (j := 7) (d := 8) rfl (by decide)) (tx0 _ _ W)) (hJ.pure 8 rfl rfl)
  · exact KStep.plain rfl fun ρ d u W he hc hdi hd hJ => swp_val (run_extract (he.i hz (hJ.vals 7 (hd 7 (by kernel_rfl))) (j := 7) (d := 8) rfl (by decide)) (tx1 _ _ W)) (hJ.pure 9 rfl rfl)
  · exact KStep.plain rfl fun ρ d u W he hc hdi hd hJ => swp_val (run_assign (he.i hz (hJ.vals 8 (hd 8 (by kernel_rfl))) (j := 8) (d := 16) rfl (by decide))) (hJ.pure 10 rfl rfl)
  · exact KStep.plain rfl fun ρ d u W he hc hdi hd hJ => swp_val (run_assign (he.i hz (hJ.vals 9 (hd 9 (by kernel_rfl))) (j := 9) (d := 17) rfl (by decide))) (hJ.pure 11 rfl rfl)
theorem CJ.olds2T {V O : Nat → Value → Prop} {ks : List Nat} {S : Nat → List Value → World → Prop} {d : Nat → Bool} {u : Nat → Value} {W : World} {I : World → Prop} (h : CJ V O ks S d u W) (m : Nat) {k : Nat} (hk : ks[m]? = some k) (hd : d k = false) (hq : ∀ n l W, n < m + 1 → S n l W → I W) : I W := by
  obtain ⟨n, hn, hS⟩ := h.chain
  refine hq n _ W ?_ hS
  rcases Nat.lt_or_ge m n with h1 | h1
  · have := (hn m k hk).2 h1
    rw [hd] at this
    cases this
  · omega
def tsetS (w : World) (t b n : Nat) (f' : PM) (k : Nat) (vs : List Value) (W : World) : Prop := match k with
  | 0 => Below w.drew.heap.size w.drew W
  | 1 => Below w.drew.heap.size w.drew W
  | 2 => TAt W t b n f' ∧ Only [b] w W
  | _ => False
theorem tsetS_le {w : World} {t b n : Nat} {f' : PM} (k : Nat) (vs : List Value) (W : World) (h : tsetS w t b n f' k vs W) : k ≤ 2 := by
  rcases k with _ | _ | _ | k
  · omega
  · omega
  · omega
  · exact absurd h id
theorem tsetS_lt {w : World} {t b n : Nat} {f' : PM} (k : Nat) (vs : List Value) (W : World) (hk : k < 2) (h : tsetS w t b n f' k vs W) : Below w.drew.heap.size w.drew W := by
  rcases k with _ | _ | k
  · exact h
  · exact h
  · omega
def tsetV (t b : Nat) (key : ByteArray) (P : List UInt8) (va : ByteArray) (i : Nat) (v : Value) : Prop := match i with
  | 0 => v = .pointer (some ⟨t, 0, none⟩)
  | 1 => v = .pointer (some ⟨t, 0, none⟩)
  | 2 => v = .pointer (some ⟨t, 0, none⟩)
  | 3 => v = .map (some b)
  | 4 => v = .string key
  | 5 => v = pv P
  | 6 => v = .string va
  | _ => True
set_option maxRecDepth 100000 in
set_option maxHeartbeats 1000000 in
theorem tset_is (w : World) (G : Glob w) (t b n : Nat) (f : PM) (key : ByteArray) (va : ByteArray) (h : TAt w t b n f) (hs : key.size ≤ 140737488351300) (hv : va.size ≤ 140737488351232) (hn : n < maxLen) :
    Calls Tryd.prog 33 #[.pointer (some ⟨t, 0, none⟩), .string key, .string va] w fun e w' => e = .returned (.tuple #[]) ∧ TAt w' t b (n + 1) (updP f (pathP key) (some va)) ∧ Only [b] w w' := by
  obtain ⟨P, hP⟩ : ∃ P, pathP key = P := ⟨_, rfl⟩
  rw [hP]
  have HLen : Hid (P.length = 32) := Lib.hid (hP ▸ pathP_len key)
  have HAt : Hid (∀ W, Glob W → Calls Tryd.prog 42 #[.string key] W fun e w' => e = .returned (pv P) ∧ Below W.heap.size W w') := Lib.hid (fun W g => hP ▸ at_is key W g hs)
  have HGd := Lib.hid (G.next (Below.refl _ w).drew)
  have HT := Lib.hid h
  have HT0 := Lib.hid (h.below (Below.refl _ w).drew)
  have HOk : Hid (∀ k u, updP f P (some va) k = some u → u.size ≤ 140737488351232) := Lib.hid (fun k u hu => by
    by_cases e : k = P
    · rw [e, updP_at] at hu; cases hu; exact hv
    · rw [updP_ne _ _ e] at hu; exact h.ok k u hu)
  clear hP h G
  go_enter Tryd.func33, Tryd.ntmps33
  go_upto_region 0 with fail
  refine wp_abs fun a0 hA => ?_
  have h0 : a0.eval (.tmp 0) = .pointer (some ⟨t, 0, none⟩) := by rw [hA]; rfl
  have h1 : a0.eval (.tmp 1) = .string key := by rw [hA]; rfl
  have h2 : a0.eval (.tmp 2) = .string va := by rw [hA]; rfl
  have hz : a0.tmps.size = 13 := by rw [hA]; rfl
  refine wp_region_K [some 6, some 7, some 8, some 9, some 10, some 11, some 12, none] 13 (CJ (tsetV t b key P va) (fun _ _ => True) [5, 7] (tsetS w t b (n + 1) (updP f P (some va)))) (by kernel_rfl) (by kernel_rfl) (by kernel_rfl) rfl (by kernel_rfl) hz (CJ.start (fun i => trivial) (Below.refl _ _)) ?_ ⟨?_, ?_, ?_, ?_, ?_, ?_, ?_, ?_, trivial⟩
  · intro d u W hd hJ
    have HS := Lib.hid (show tsetS w t b (n + 1) _ 2 _ W from hJ.fin 2 rfl (fun k hk => by simp at hk; rcases hk with rfl | rfl <;> exact hd _ (by decide)) tsetS_le)
    rw [hA]
    simp only [putAll, Act.put, List.setIfInBounds_toArray, List.set_cons_zero, List.set_cons_succ]
    clear hJ hd h0 h1 h2 hz hA
    clear a0
    go_wp2_with fail
    go_end0
    exact ⟨rfl, HS.out.1, HS.out.2⟩
  · exact KStep.plain rfl fun ρ d u W he hc hdi hd hJ => swp_val (run_move (he.o h0 rfl)) (hJ.pure 0 rfl rfl)
  · exact KStep.plain rfl fun ρ d u W he hc hdi hd hJ => swp_val (run_nilCheck (he.i hz (hJ.vals 0 (hd 0 (by kernel_rfl))) (j := 0) (d := 6) rfl (by decide))) (hJ.pure 1 rfl rfl)
  · exact KStep.plain rfl fun ρ d u W he hc hdi hd hJ => swp_val (run_fieldAddr (he.i hz (hJ.vals 1 (hd 1 (by kernel_rfl))) (j := 1) (d := 7) rfl (by decide)) (by go_simp)) (hJ.pure 2 rfl rfl)
  · exact KStep.plain rfl fun ρ d u W he hc hdi hd hJ => swp_val (run_load (he.i hz (hJ.vals 2 (hd 2 (by kernel_rfl))) (j := 2) (d := 8) rfl (by decide)) (ld_map ((HT0.out.below (hJ.olds2T 1 rfl (hc.notyet [3] (by kernel_rfl) rfl hdi) tsetS_lt)).blk.cell 0))) (hJ.pure 3 rfl rfl)
  · exact KStep.plain rfl fun ρ d u W he hc hdi hd hJ => swp_val (run_move (he.o h1 rfl)) (hJ.pure 4 rfl rfl)
  · refine KStep.plain rfl fun ρ d u W he hc hdi hd hJ => ?_
    have hS : Below w.drew.heap.size w.drew W := hJ.at_ 0 rfl hdi (fun j h => by omega)
    exact swp_call (run_call #[.string key] (he.func _) (by kernel_rfl) (map1 (he.i hz (hJ.vals 4 (hd 4 (by kernel_rfl))) (j := 4) (d := 10) rfl (by decide)))) (HAt.out W (HGd.out.next hS)) (fun e W' h => ⟨_, h.1, hJ.go 0 rfl hdi (by decide) (fun j h => by omega) rfl (bstep hS h.2)⟩)
  · exact KStep.plain rfl fun ρ d u W he hc hdi hd hJ => swp_val (run_move (he.o h2 rfl)) (hJ.pure 6 rfl rfl)
  · refine KStep.plain rfl fun ρ d u W he hc hdi hd hJ => ?_
    have hS : Below w.drew.heap.size w.drew W := hJ.at_ 1 rfl hdi (fun j h => by cases h; exact ⟨5, rfl, hd 5 (by kernel_rfl)⟩)
    obtain ⟨w4, hrun, hm4, ht4⟩ := (HT0.out.below hS).m.store HLen.out va (by unfold maxLen; omega) hn
    exact swp_skip (run_mapUpdate (he.i hz (hJ.vals 3 (hd 3 (by kernel_rfl))) (j := 3) (d := 9) rfl (by decide)) (he.i hz (hJ.vals 5 (hd 5 (by kernel_rfl))) (j := 5) (d := 11) rfl (by decide)) (he.i hz (hJ.vals 6 (hd 6 (by kernel_rfl))) (j := 6) (d := 12) rfl (by decide)) hrun) (hJ.go 1 rfl hdi (by decide) (fun j h => by cases h; exact ⟨5, rfl, hd 5 (by kernel_rfl)⟩) trivial ⟨(HT0.out.below hS).turned ht4 hm4 HOk.out, (Only.of_below (bstep (Below.refl _ w).drew hS)).turned ht4 (by simp)⟩)
def tdelS (w : World) (t b n : Nat) (f' : PM) (k : Nat) (vs : List Value) (W : World) : Prop := match k with
  | 0 => Below w.drew.heap.size w.drew W
  | 1 => Below w.drew.heap.size w.drew W
  | 2 => TAt W t b n f' ∧ Only [b] w W
  | _ => False
theorem tdelS_le {w : World} {t b n : Nat} {f' : PM} (k : Nat) (vs : List Value) (W : World) (h : tdelS w t b n f' k vs W) : k ≤ 2 := by
  rcases k with _ | _ | _ | k
  · omega
  · omega
  · omega
  · exact absurd h id
theorem tdelS_lt {w : World} {t b n : Nat} {f' : PM} (k : Nat) (vs : List Value) (W : World) (hk : k < 2) (h : tdelS w t b n f' k vs W) : Below w.drew.heap.size w.drew W := by
  rcases k with _ | _ | k
  · exact h
  · exact h
  · omega
def tdelV (t b : Nat) (key : ByteArray) (P : List UInt8) (i : Nat) (v : Value) : Prop := match i with
  | 0 => v = .pointer (some ⟨t, 0, none⟩)
  | 1 => v = .pointer (some ⟨t, 0, none⟩)
  | 2 => v = .pointer (some ⟨t, 0, none⟩)
  | 3 => v = .map (some b)
  | 4 => v = .string key
  | 5 => v = pv P
  | _ => True
set_option maxRecDepth 100000 in
set_option maxHeartbeats 1000000 in
theorem tdel_is (w : World) (G : Glob w) (t b n : Nat) (f : PM) (key : ByteArray) (h : TAt w t b n f) (hs : key.size ≤ 140737488351300) :
    Calls Tryd.prog 32 #[.pointer (some ⟨t, 0, none⟩), .string key] w fun e w' => e = .returned (.tuple #[]) ∧ TAt w' t b n (updP f (pathP key) none) ∧ Only [b] w w' := by
  obtain ⟨P, hP⟩ : ∃ P, pathP key = P := ⟨_, rfl⟩
  rw [hP]
  have HLen : Hid (P.length = 32) := Lib.hid (hP ▸ pathP_len key)
  have HAt : Hid (∀ W, Glob W → Calls Tryd.prog 42 #[.string key] W fun e w' => e = .returned (pv P) ∧ Below W.heap.size W w') := Lib.hid (fun W g => hP ▸ at_is key W g hs)
  have HGd := Lib.hid (G.next (Below.refl _ w).drew)
  have HT := Lib.hid h
  have HT0 := Lib.hid (h.below (Below.refl _ w).drew)
  have HOk : Hid (∀ k u, updP f P none k = some u → u.size ≤ 140737488351232) := Lib.hid (fun k u hu => by
    by_cases e : k = P
    · rw [e, updP_at] at hu; cases hu
    · rw [updP_ne _ _ e] at hu; exact h.ok k u hu)
  clear hP h G
  go_enter Tryd.func32, Tryd.ntmps32
  go_upto_region 0 with fail
  refine wp_abs fun a0 hA => ?_
  have h0 : a0.eval (.tmp 0) = .pointer (some ⟨t, 0, none⟩) := by rw [hA]; rfl
  have h1 : a0.eval (.tmp 1) = .string key := by rw [hA]; rfl
  have hz : a0.tmps.size = 10 := by rw [hA]; rfl
  refine wp_region_K [some 4, some 5, some 6, some 7, some 8, some 9, none] 10 (CJ (tdelV t b key P) (fun _ _ => True) [5, 6] (tdelS w t b n (updP f P none))) (by kernel_rfl) (by kernel_rfl) (by kernel_rfl) rfl (by kernel_rfl) hz (CJ.start (fun i => trivial) (Below.refl _ _)) ?_ ⟨?_, ?_, ?_, ?_, ?_, ?_, ?_, trivial⟩
  · intro d u W hd hJ
    have HS := Lib.hid (show tdelS w t b n _ 2 _ W from hJ.fin 2 rfl (fun k hk => by simp at hk; rcases hk with rfl | rfl <;> exact hd _ (by decide)) tdelS_le)
    rw [hA]
    simp only [putAll, Act.put, List.setIfInBounds_toArray, List.set_cons_zero, List.set_cons_succ]
    clear hJ hd h0 h1 hz hA
    clear a0
    go_wp2_with fail
    go_end0
    exact ⟨rfl, HS.out.1, HS.out.2⟩
  · exact KStep.plain rfl fun ρ d u W he hc hdi hd hJ => swp_val (run_move (he.o h0 rfl)) (hJ.pure 0 rfl rfl)
  · exact KStep.plain rfl fun ρ d u W he hc hdi hd hJ => swp_val (run_nilCheck (he.i hz (hJ.vals 0 (hd 0 (by kernel_rfl))) (j := 0) (d := 4) rfl (by decide))) (hJ.pure 1 rfl rfl)
  · exact KStep.plain rfl fun ρ d u W he hc hdi hd hJ => swp_val (run_fieldAddr (he.i hz (hJ.vals 1 (hd 1 (by kernel_rfl))) (j := 1) (d := 5) rfl (by decide)) (by go_simp)) (hJ.pure 2 rfl rfl)
  · exact KStep.plain rfl fun ρ d u W he hc hdi hd hJ => swp_val (run_load (he.i hz (hJ.vals 2 (hd 2 (by kernel_rfl))) (j := 2) (d := 6) rfl (by decide)) (ld_map ((HT0.out.below (hJ.olds2T 1 rfl (hc.notyet [3] (by kernel_rfl) rfl hdi) tdelS_lt)).blk.cell 0))) (hJ.pure 3 rfl rfl)
  · exact KStep.plain rfl fun ρ d u W he hc hdi hd hJ => swp_val (run_move (he.o h1 rfl)) (hJ.pure 4 rfl rfl)
  · refine KStep.plain rfl fun ρ d u W he hc hdi hd hJ => ?_
    have hS : Below w.drew.heap.size w.drew W := hJ.at_ 0 rfl hdi (fun j h => by omega)
    exact swp_call (run_call #[.string key] (he.func _) (by kernel_rfl) (map1 (he.i hz (hJ.vals 4 (hd 4 (by kernel_rfl))) (j := 4) (d := 8) rfl (by decide)))) (HAt.out W (HGd.out.next hS)) (fun e W' h => ⟨_, h.1, hJ.go 0 rfl hdi (by decide) (fun j h => by omega) rfl (bstep hS h.2)⟩)
  · refine KStep.plain rfl fun ρ d u W he hc hdi hd hJ => ?_
    have hS : Below w.drew.heap.size w.drew W := hJ.at_ 1 rfl hdi (fun j h => by cases h; exact ⟨5, rfl, hd 5 (by kernel_rfl)⟩)
    obtain ⟨w4, hrun, hm4, ht4⟩ := (HT0.out.below hS).m.drop HLen.out 0
    exact swp_val (run_del (he.i hz (hJ.vals 3 (hd 3 (by kernel_rfl))) (j := 3) (d := 7) rfl (by decide)) (he.i hz (hJ.vals 5 (hd 5 (by kernel_rfl))) (j := 5) (d := 9) rfl (by decide)) hrun) (hJ.go 1 rfl hdi (by decide) (fun j h => by cases h; exact ⟨5, rfl, hd 5 (by kernel_rfl)⟩) trivial ⟨(HT0.out.below hS).turned ht4 hm4 HOk.out, (Only.of_below (bstep (Below.refl _ w).drew hS)).turned ht4 (by simp)⟩)
end Go.Proofs.YtichklplcpkjdaaDoor
