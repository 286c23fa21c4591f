/-
  The order of places: bytes.Compare, the closure that places hands to slices.SortFunc, what SortFunc does.
-/
import Derived.Test.YtichklplcpkjdaaDoorSTrieA
import Derived.Test.YtichklplcpkjdaaDoorShelfS
import Derived.Lib.BytesEntry
import Derived.Deep.QuietTactic
import Derived.BigQuiet
namespace Go.Proofs.YtichklplcpkjdaaDoor
open Go.RowKit Go.Lib Go.Sort
set_option linter.unusedVariables false

theorem cmpB_refl : ∀ x : List UInt8, compareBytes x x = 0
  | [] => rfl
  | a :: x => by unfold compareBytes; simp [cmpB_refl x, UInt8.lt_irrefl]
theorem cmpB_eq : ∀ x y : List UInt8, ¬ compareBytes x y < 0 → ¬ compareBytes y x < 0 → x = y
  | [], [], _, _ => rfl
  | [], _ :: _, h, _ => by simp [compareBytes] at h
  | _ :: _, [], _, h => by simp [compareBytes] at h
  | a :: x, b :: y, h1, h2 => by
    unfold compareBytes at h1 h2
    by_cases hab : a < b
    · simp [hab] at h1
    · by_cases hba : b < a
      · simp [hba] at h2
      · have e : a = b := UInt8.toNat_inj.1 (by rw [UInt8.lt_iff_toNat_lt] at hab hba; omega)
        subst e
        simp only [hab, if_false] at h1 h2
        rw [cmpB_eq x y h1 h2]
theorem cmpB_trans : ∀ x y z : List UInt8, compareBytes x y < 0 → compareBytes y z < 0 → compareBytes x z < 0
  | [], [], _, h, _ => by simp [compareBytes] at h
  | [], _ :: _, [], _, h => by simp [compareBytes] at h
  | [], _ :: _, _ :: _, _, _ => by simp [compareBytes]
  | _ :: _, [], _, h, _ => by simp [compareBytes] at h
  | _ :: _, _ :: _, [], _, h => by simp [compareBytes] at h
  | a :: x, b :: y, c :: z, h1, h2 => by
    unfold compareBytes at h1 h2 ⊢
    simp only [UInt8.lt_iff_toNat_lt] at h1 h2 ⊢
    by_cases h3 : a.toNat < b.toNat
    · by_cases h4 : b.toNat < c.toNat
      · rw [if_pos (by omega)]; decide
      · by_cases h5 : c.toNat < b.toNat
        · rw [if_neg h4, if_pos h5] at h2; exact absurd h2 (by decide)
        · rw [if_pos (by omega)]; decide
    · by_cases h3' : b.toNat < a.toNat
      · rw [if_neg h3, if_pos h3'] at h1; exact absurd h1 (by decide)
      · rw [if_neg h3, if_neg h3'] at h1
        by_cases h4 : b.toNat < c.toNat
        · rw [if_pos (by omega)]; decide
        · by_cases h5 : c.toNat < b.toNat
          · rw [if_neg h4, if_pos h5] at h2; exact absurd h2 (by decide)
          · rw [if_neg h4, if_neg h5] at h2
            rw [if_neg (by omega), if_neg (by omega)]
            exact cmpB_trans x y z h1 h2
/-- a place -/
abbrev Pl := { p : List UInt8 // p.length = 32 }
instance : Inhabited Pl := ⟨⟨List.replicate 32 0, by simp⟩⟩
def encP (x : Pl) : List Value := bC x.1
theorem encP_len (x : Pl) : (encP x).length = 32 := by unfold encP; rw [bC_len, x.2]
theorem encP_one (x : Pl) : ∀ v ∈ encP x, v.oneCell' = true := by
  intro v hv
  unfold encP bC at hv
  obtain ⟨b, _, rfl⟩ := List.mem_map.1 hv
  rfl
def cfP (x y : Pl) : Int := compareBytes x.1 y.1
theorem ltP (x y : Pl) : ltOf cfP x y = decide (compareBytes x.1 y.1 < 0) := rfl
theorem swoP : SWO (ltOf cfP) where
  irrefl x := by rw [ltP, cmpB_refl]; rfl
  trans x y z h1 h2 := by
    rw [ltP] at *
    simp only [decide_eq_true_eq] at *
    exact cmpB_trans _ _ _ h1 h2
  ntrans x y z h1 h2 := by
    rw [ltP] at *
    simp only [decide_eq_false_iff_not] at *
    intro h
    by_cases h3 : compareBytes y.1 x.1 < 0
    · exact h2 (cmpB_trans _ _ _ h3 h)
    · have e := cmpB_eq _ _ h1 h3
      rw [e] at h
      exact h2 h
theorem totP (x y : Pl) (h1 : ltOf cfP x y = false) (h2 : ltOf cfP y x = false) : x = y := by
  rw [ltP] at *
  simp only [decide_eq_false_iff_not] at *
  exact Subtype.ext (cmpB_eq _ _ h1 h2)
/-- a slice of a place's bytes, read -/
theorem bytes_read {g : Nat} {P : List UInt8} {W : World} (h : Blk W g 74 (bC P).toArray) (hP : P.length = 32) : (Extern.Bytes.bytesOf (.slice (some ⟨g, 0, none⟩) 32 32)).run Tryd.prog W = .ok ⟨P.toArray⟩ W := by
  have hl := Lib.run_loadBytesX (P := Tryd.prog) W (P.map fun b => (b.toNat : Int)) ⟨g, 0, none⟩ .empty (fun j x hx => by
    refine blk_cells h j _ ?_
    unfold bC
    rw [List.getElem?_map] at hx ⊢
    cases hp : P[j]? with
    | none => rw [hp] at hx; simp at hx
    | some b => rw [hp] at hx; simp at hx; simp [hx])
  rw [List.length_map, hP] at hl
  unfold Extern.Bytes.bytesOf
  rw [hl]
  congr 1
  apply ByteArray.ext
  simp [Lib.bytesOf, List.map_map, Function.comp_def]
theorem cmp_run {g g' : Nat} {P Q : List UInt8} {W : World} (h : Blk W g 74 (bC P).toArray) (h' : Blk W g' 74 (bC Q).toArray) (hP : P.length = 32) (hQ : Q.length = 32) :
    (Extern.BytealgCompare.compare #[.slice (some ⟨g, 0, none⟩) 32 32, .slice (some ⟨g', 0, none⟩) 32 32]).run Tryd.prog W = .ok (.int .i64 (compareBytes P Q)) W := by
  change Sem.run Tryd.prog (do pure (goInt (Extern.BytealgCompare.cmp (← Extern.Bytes.bytesOf (.slice (some ⟨g, 0, none⟩) 32 32)) (← Extern.Bytes.bytesOf (.slice (some ⟨g', 0, none⟩) 32 32))))) W = _
  simp only [Sem.run_bind, bytes_read h hP, bytes_read h' hQ, Result.andThen, Sem.run_pure, Lib.cmp_eq]
  rfl
set_option maxHeartbeats 1000000 in
theorem bcmp_is {g g' : Nat} {P Q : List UInt8} (W : World) (h : Blk W g 74 (bC P).toArray) (h' : Blk W g' 74 (bC Q).toArray) (hP : P.length = 32) (hQ : Q.length = 32) :
    Calls Tryd.prog 52 #[.slice (some ⟨g, 0, none⟩) 32 32, .slice (some ⟨g', 0, none⟩) 32 32] W fun e w' => e = .returned (.int .i64 (compareBytes P Q)) ∧ w' = W := by
  have hc := cmp_run h h' hP hQ
  generalize compareBytes P Q = c at hc ⊢
  have HC := Lib.hid hc
  clear hc h h'
  go_enter Tryd.func52, Tryd.ntmps52
  go_wp2_with fail
  rw [run_callFunc_extern Tryd.func64 (by kernel_rfl) (by kernel_rfl) (by kernel_rfl) (e := Extern.BytealgCompare.compare) (by kernel_rfl), HC.out]
  simp only [Result.andThen]
  rw [Oper.upon_value]
  go_wp2_with fail
  go_ret
  exact ⟨rfl, rfl⟩
set_option maxRecDepth 100000 in
set_option maxHeartbeats 1000000 in
theorem closure_is (x y : Pl) (W : World) : Calls Tryd.prog 51 #[.agg (encP x).toArray, .agg (encP y).toArray] W fun e w' => e = .returned (.int .i64 (cfP x y)) ∧ ∃ q os', w' = grow (W.drewN q) os' := by
  obtain ⟨P, hP⟩ := x
  obtain ⟨Q, hQ⟩ := y
  show Calls _ _ #[pv P, pv Q] W fun e w' => e = .returned (.int .i64 (compareBytes P Q)) ∧ ∃ q os', w' = grow (W.drewN q) os'
  obtain ⟨c, hc⟩ : ∃ c, compareBytes P Q = c := ⟨_, rfl⟩
  rw [hc]
  have HCe := Lib.hid hc
  clear hc
  go_enter Tryd.func51, Tryd.ntmps51
  go_upto_region 1 with fail
  have hB1 := (Blk.new W 74 (bC P).toArray).alloc (.cells (bC Q).toArray 74)
  have hB2 := Blk.new (W.alloc (.cells (bC P).toArray 74)) 74 (bC Q).toArray
  rw [show (W.alloc (.cells (bC P).toArray 74)).heap.size = W.heap.size + 1 by simp] at hB2
  have HE : Hid (∀ q, ∃ os', ((W.alloc (.cells (bC P).toArray 74)).alloc (.cells (bC Q).toArray 74)).drewN q = grow (W.drewN q) os') := Lib.hid (fun q => ⟨_, by rw [alloc_eq_grow, alloc_eq_grow, grow_grow]; rfl⟩)
  change Code.wp _ _ _ _ ((W.alloc (.cells (bC P).toArray 74)).alloc (.cells (bC Q).toArray 74))
  generalize (W.alloc (.cells (bC P).toArray 74)).alloc (.cells (bC Q).toArray 74) = W2 at hB1 hB2 HE ⊢
  have HC : Hid (∀ q, Calls Tryd.prog 52 #[.slice (some ⟨W.heap.size, 0, none⟩) 32 32, .slice (some ⟨W.heap.size + 1, 0, none⟩) 32 32] (W2.drewN q) fun e w' => e = .returned (.int .i64 c) ∧ w' = W2.drewN q) := Lib.hid (fun q => by rw [← HCe.out]; exact bcmp_is _ hB1 hB2 hP hQ)
  clear hB1 hB2
  go_quiet ((go_at_call 52; exact Calls.quiet_of_same (HC.out _)))
  go_wp2_with fail
  go_ret
  obtain ⟨os', h⟩ := HE.out nq
  exact ⟨rfl, nq, os', h⟩
theorem cmpLaysP (blk off size : Nat) (w : World) : CmpLays Tryd.prog 51 #[] encP 32 cfP blk off size w := fun _ _ _ _ x y => closure_is x y _
/-- what the places are sorted to -/
def sortPl (d : List Pl) : List Pl := d.mergeSort fun x y => !(ltOf cfP) y x
theorem sortf_is (blk off cap : Nat) (d : Array Pl) (w : World) (hH : HoldsK encP 32 w blk off d) (hblk : blk < w.heap.size) (hsz : d.size < 4611686018427387904) :
    Calls Tryd.prog 50 #[.slice (some ⟨blk, off, none⟩) d.size cap, .func (.func 51) #[] #[]] w fun e w' => e = .returned (.tuple #[]) ∧ ∃ n os, w' = sortWorldK encP 32 w blk off n (sortPl d.toList).toArray os :=
  AnyQ.slices_SortFunc_total Tryd.sortPl 32 Tryd.isAgg74 Tryd.sizeOf74 encP encP_len encP_one cfP swoP 51 #[] blk off cap d w (enters_of Tryd.func51 (by kernel_rfl) rfl) (cmpLaysP blk off d.size w) hH hblk hsz totP
theorem sortf_none (p : Option Addr) (cap : Nat) (w : World) :
    Calls Tryd.prog 50 #[.slice p 0 cap, .func (.func 51) #[] #[]] w fun e w' => e = .returned (.tuple #[]) ∧ w' = w :=
  AnyF.slices_SortFunc_none Tryd.sortPl p cap _ w
end Go.Proofs.YtichklplcpkjdaaDoor
