/-
  The row of places, sorted.
-/
import Derived.Test.YtichklplcpkjdaaDoorSTrieG
namespace Go.Proofs.YtichklplcpkjdaaDoor
open Go.RowKit Go.Maps Go.Sort
set_option linter.unusedVariables false

theorem flat_at (l : List Pl) (t : Nat) : (l.flatMap encP)[t]? = (l[t / 32]?).bind (fun x => (encP x)[t % 32]?) := by
  have h := Go.Great.flat_get (s := 32) (by decide) (l.map fun x => pv x.1) (by
    intro v hv
    obtain ⟨x, _, rfl⟩ := List.mem_map.1 hv
    show (bC x.1).toArray.size = 32
    simp [bC_len, x.2]) t
  have e : (l.map fun x => pv x.1).flatMap (fun v => v.cells.toList) = l.flatMap encP := by
    rw [List.flatMap_map]
    rfl
  rw [e] at h
  rw [h, List.getElem?_map]
  cases l[t / 32]? with
  | none => rfl
  | some x => show (bC x.1).toArray[t % 32]? = (bC x.1)[t % 32]?; simp
theorem row_of_holds {W : World} {g : Nat} {d : Array Pl} (hg : g < W.heap.size) (h : HoldsK encP 32 W g 0 d) : RowAt W g 0 d.toList := by
  refine ⟨hg, fun i hi j u hu => ?_⟩
  have hj : j < 32 := by
    have := (List.getElem?_eq_some_iff.1 hu).1
    rwa [bC_len, d.toList[i].2] at this
  have hi' : i < d.size := by simpa using hi
  have ht : i * 32 + j < d.size * 32 := by omega
  have h1 := (h (i * 32 + j) (by rw [size_flatK]; exact ht)).1
  rw [get_flatK _ _ _ _ ht, show (i * 32 + j) / 32 = i by omega, show (i * 32 + j) % 32 = j by omega] at h1
  rw [show 0 + i * 32 + j = 0 + (i * 32 + j) by omega, h1]
  have e : d[i]! = d.toList[i] := by
    rw [getElem!_pos d i hi']
    simp
  rw [e]
  unfold encP
  have hj2 : j < (bC d.toList[i].1).length := by rw [bC_len, d.toList[i].2]; exact hj
  rw [List.getElem?_eq_getElem hj2] at hu
  rw [getElem!_pos _ j hj2]
  simpa using hu
theorem holds_of_own {W : World} {base g n cap : Nat} {l : List Pl} (h : W.ownsRow base 74 32 (.slice (some ⟨g, 0, none⟩) n cap) n (l.flatMap encP)) (hl : l.length = n) : HoldsK encP 32 W g 0 l.toArray := by
  intro t ht
  rw [size_flatK] at ht
  have ht' : t < l.length * 32 := by simpa using ht
  have hc := World.ownsRow.cells h (g := g) rfl t
  have hi : t / 32 < l.length := by omega
  have hf : (l.flatMap encP)[t]? = some ((flatK encP 32 l.toArray)[t]!) := by
    rw [flat_at, List.getElem?_eq_getElem hi, get_flatK _ _ _ _ ht]
    have e : l.toArray[t / 32]! = l[t / 32] := by
      rw [getElem!_pos l.toArray (t / 32) (by simpa using hi)]
      simp
    rw [e]
    have h2 : t % 32 < (encP l[t / 32]).length := by rw [encP_len]; omega
    simp only [Option.bind_some]
    rw [List.getElem?_eq_getElem h2, getElem!_pos (encP l[t / 32]) (t % 32) h2]
  have h1 := hc _ hf
  rw [addr0] at h1
  refine ⟨h1, ?_⟩
  rcases h.2 with ⟨h3, _⟩ | ⟨g', cap', cur, h3, _, hg, _⟩
  · cases h3
  · cases h3
    simp [World.frozen?, hg]
theorem sorted_row {w : World} {g : Nat} {d : Array Pl} {n : Nat} {os : Array Obj} {s : List Pl} (hg : g < w.heap.size) (h : HoldsK encP 32 w g 0 d) (hs : s.length = d.size) : RowAt (sortWorldK encP 32 w g 0 n s.toArray os) g 0 s := by
  have h0 : HoldsK encP 32 (Sort.ahead w n) g 0 d := h
  have h1 := holdsK_putRowK (enc := encP) (k := 32) (Sort.ahead w n) g 0 d s.toArray h0 (by simpa using hs)
  have hsz : g < (putRowK encP 32 (Sort.ahead w n) g 0 s.toArray).heap.size := by
    unfold putRowK
    rw [size_putRow]
    exact hg
  have h2 := row_of_holds hsz h1
  have hb : Below (putRowK encP 32 (Sort.ahead w n) g 0 s.toArray).heap.size (putRowK encP 32 (Sort.ahead w n) g 0 s.toArray) (grow (putRowK encP 32 (Sort.ahead w n) g 0 s.toArray) os) :=
    ⟨rfl, rfl, rfl, by simp [grow], fun i hi => heap_grow_old _ _ hi⟩
  exact h2.below hb
theorem sorted_below {w : World} {B g : Nat} {n : Nat} {os : Array Obj} {d : Array Pl} (hg : B ≤ g) (hw : B ≤ w.heap.size) : Below B w (sortWorldK encP 32 w g 0 n d os) := by
  refine ⟨rfl, rfl, rfl, ?_, fun i hi => ?_⟩
  · unfold sortWorldK
    simp only [grow, Array.size_append]
    have : (putRowK encP 32 (Sort.ahead w n) g 0 d).heap.size = w.heap.size := by unfold putRowK; rw [size_putRow]; rfl
    omega
  · unfold sortWorldK
    have hsz : (putRowK encP 32 (Sort.ahead w n) g 0 d).heap.size = w.heap.size := by unfold putRowK; rw [size_putRow]; rfl
    rw [heap_grow_old _ _ (by omega)]
    unfold putRowK putRow mapBlock
    simp only [Array.getElem?_modify]
    rw [if_neg (by omega)]
    rfl
end Go.Proofs.YtichklplcpkjdaaDoor
