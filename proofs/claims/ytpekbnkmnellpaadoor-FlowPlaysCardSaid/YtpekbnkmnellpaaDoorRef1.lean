/-
  The walk of the document's Input (voussoirref01).
-/
import Derived.Test.YtpekbnkmnellpaaDoorRef2
namespace Go.Proofs.YtpekbnkmnellpaaDoor
open Go.RowKit
set_option linter.unusedVariables false

def RInpRel (c : UInt8) (ss : List ByteArray) (w : World) (k : Nat) (s i : Value) (wr : World) : Prop :=
  ∃ j : Nat, j ≤ ss.length ∧ k = ss.length - j ∧ i = .int .i64 j ∧ s = .string ⟨(inpL c (ss.take j)).toArray⟩ ∧ Below w.heap.size w wr
theorem conv1 (c : UInt8) : ∀ (g : Nat) (W : World), W.cell? ⟨g, 0, none⟩ = some (.int .u8 (c.toNat : Int)) → (convert 89 9 (.slice (some ⟨g, 0, none⟩) 1 1)).run Tryd.prog W = .ok (.string ⟨[c].toArray⟩) W := fun g W h =>
  run_convert_bytes_back (P := Tryd.prog) W 89 9 5 ⟨g, 0, none⟩ 1 [c] Tryd.underlying89 Tryd.underlying5 Tryd.underlying9 (fun j hj => by
    have : j = 0 := by simp at hj; omega
    subst this
    exact h)
theorem conv4 (n : Int) (hn : 0 ≤ n) : ∀ (g : Nat) (W : World), W.cell? ⟨g, 0, none⟩ = some (.int .u8 (n / 16777216 % 256)) → W.cell? ⟨g, 1, none⟩ = some (.int .u8 (n / 65536 % 256)) → W.cell? ⟨g, 2, none⟩ = some (.int .u8 (n / 256 % 256)) → W.cell? ⟨g, 3, none⟩ = some (.int .u8 (n % 256)) →
    (convert 89 9 (.slice (some ⟨g, 0, none⟩) 4 4)).run Tryd.prog W = .ok (.string ⟨(w4 (n % 4294967296)).toArray⟩) W := fun g W h0 h1 h2 h3 => by
  have hw := w4_cells (n % 4294967296)
  rw [show n % 4294967296 / 16777216 % 256 = n / 16777216 % 256 by omega, show n % 4294967296 / 65536 % 256 = n / 65536 % 256 by omega, show n % 4294967296 / 256 % 256 = n / 256 % 256 by omega, show n % 4294967296 % 256 = n % 256 by omega] at hw
  refine run_convert_bytes_back (P := Tryd.prog) W 89 9 5 ⟨g, 0, none⟩ 4 (w4 (n % 4294967296)) Tryd.underlying89 Tryd.underlying5 Tryd.underlying9 (fun j hj => ?_)
  have hj4 : j < 4 := hj
  have e : (⟨g, 0, none⟩ : Addr).add j = ⟨g, j, none⟩ := by unfold Addr.add; split <;> simp_all
  have hget : (bC (w4 (n % 4294967296)))[j]? = some (.int .u8 ((w4 (n % 4294967296))[j].toNat : Int)) := by
    rw [bC, List.getElem?_map, List.getElem?_eq_getElem hj]; rfl
  rw [e]
  refine Eq.trans ?_ hget
  rw [hw]
  have : j = 0 ∨ j = 1 ∨ j = 2 ∨ j = 3 := by omega
  rcases this with rfl | rfl | rfl | rfl
  · exact h0
  · exact h1
  · exact h2
  · exact h3
set_option maxRecDepth 100000 in
set_option maxHeartbeats 1000000 in
theorem rinput_is (c : UInt8) (ss : List ByteArray) (g cap : Nat) (w : World) (hg : g < w.heap.size) (hc : ∀ j (h : j < ss.length), w.cell? ⟨g, j, none⟩ = some (.string ss[j])) (hn : ss.length ≤ 16) (hN : (inpL c ss).length ≤ 140737488355328) :
    Calls Tryd.prog 18 #[.int .u8 (c.toNat : Int), .slice (some ⟨g, 0, none⟩) ss.length cap] w fun e w' => e = .returned (.string ⟨(inpL c ss).toArray⟩) ∧ Below w.heap.size w w' := by
  have HC := Lib.hid hc
  clear hc
  have hcv1 := conv1 c
  go_enter Tryd.func18, Tryd.ntmps18
  go_wp2_with fail
  clear hcv1
  go_loopg [5, 6] ss.length (fun k s i wr => RInpRel c ss w k s i wr)
  case atStart => exact ⟨0, by omega, rfl, rfl, rfl, balloc (Below.refl _ w) _⟩
  case round =>
    obtain ⟨j, hj, hk, rfl, rfl, hbel⟩ := hrel
    have HK := Lib.hid hk
    have HL := Lib.hid hbel
    clear hk hbel
    by_cases hlt : j < ss.length
    · have hcell : wr.cell? ⟨g, j, none⟩ = some (.string ss[j]) := (HL.out.cell (p := ⟨g, j, none⟩) hg).trans (HC.out j hlt)
      have HSn := Lib.hid (inpL_snoc c ss j hlt)
      have hle := inpL_le c ss (j + 1)
      rw [HSn.out, List.length_append, List.length_append, len_data] at hle
      have h4 : (w4 ((ss[j].size : Int) % 4294967296)).length = 4 := rfl
      rw [h4] at hle
      generalize ss[j] = s at hcell HSn hle
      clear h4
      have hB := HL.out.size
      generalize inpL c (ss.take j) = X at HSn hle ⊢
      have hcv4 := conv4 (s.size : Int) (by omega)
      have hcell2 : ∀ o, (wr.alloc o).cell? ⟨g, j, none⟩ = some (.string s) := fun o => by rw [World.cell?_alloc_lt _ _ _ (by simp only; omega)]; exact hcell
      have HCat : Hid ((⟨X.toArray⟩ ++ ⟨(w4 ((s.size : Int) % 4294967296)).toArray⟩ ++ s : ByteArray) = ⟨(X ++ w4 ((s.size : Int) % 4294967296) ++ s.data.toList).toArray⟩) := Lib.hid (by
        rw [cat2]
        apply ByteArray.ext
        simp)
      have hw4 : (w4 ((s.size : Int) % 4294967296)).length ≤ 4 := Nat.le_refl 4
      go_upto_region 6 with fail
      go_region
      have HR : Hid (RInpRel c ss w (ss.length - (j + 1)) (.string (⟨X.toArray⟩ ++ ⟨(w4 ((s.size : Int) % 4294967296)).toArray⟩ ++ s)) (.int .i64 ((j + 1 : Nat) : Int)) (wr.alloc (.cells #[.int .u8 ((s.size : Int) / 16777216 % 256), .int .u8 ((s.size : Int) / 65536 % 256), .int .u8 ((s.size : Int) / 256 % 256), .int .u8 ((s.size : Int) % 256)] 5)).drew) :=
        Lib.hid ⟨j + 1, by omega, rfl, rfl, by rw [HCat.out, HSn.out], (balloc HL.out _).drew⟩
      clear hcv4 hcell2 hcell
      go_wp2_with fail
      go_roundg (ss.length - (j + 1))
      case measure => rw [HK.out]; omega
      case rel => exact HR.out
    · have HJ : Hid (j = ss.length) := Lib.hid (by omega)
      have HE : Hid (inpL c (ss.take j) = inpL c ss) := Lib.hid (by rw [HJ.out, List.take_length])
      rw [HE.out]
      clear HE HJ HK
      go_wp2_with fail
      go_ret
      exact ⟨rfl, HL.out⟩
theorem rinp13 (X dt : ByteArray) (g : Nat) (W : World) (hb : Blk W g 9 #[.string X, .string dt]) (hN : (inpL 13 [X, dt]).length ≤ 140737488355328) :
    Calls Tryd.prog 18 #[.int .u8 13, .slice (some ⟨g, 0, none⟩) 2 2] W fun e w' => e = .returned (.string ⟨(inpL 13 [X, dt]).toArray⟩) ∧ Below W.heap.size W w' :=
  rinput_is 13 [X, dt] g 2 W hb.lt (fun j h => by
    rw [hb.cell j]
    have : j = 0 ∨ j = 1 := by simp at h; omega
    rcases this with rfl | rfl <;> rfl) (by simp) hN
theorem rinp14 (X : ByteArray) (g : Nat) (W : World) (hb : Blk W g 9 #[.string X]) (hN : (inpL 14 [X]).length ≤ 140737488355328) :
    Calls Tryd.prog 18 #[.int .u8 14, .slice (some ⟨g, 0, none⟩) 1 1] W fun e w' => e = .returned (.string ⟨(inpL 14 [X]).toArray⟩) ∧ Below W.heap.size W w' :=
  rinput_is 14 [X] g 1 W hb.lt (fun j h => by
    rw [hb.cell j]
    have : j = 0 := by simp at h; omega
    subst this; rfl) (by simp) hN
end Go.Proofs.YtpekbnkmnellpaaDoor
