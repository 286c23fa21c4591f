/-
  What layer 1 (sha) computes, in plain words, in the forms in which the walks leave it.
-/
import Derived.Test.YtichklplcpkjdaaDoorShaRound
namespace Go.Proofs.YtichklplcpkjdaaDoor
open Go.RowKit
set_option linter.unusedVariables false

/-- the word at the head of bytes -/
def wordL (l : List UInt8) : Int := wordV (l.getD 0 0).toNat (l.getD 1 0).toNat (l.getD 2 0).toNat (l.getD 3 0).toNat
theorem getD_at {α : Type} (l : List α) (i : Nat) (d : α) (h : i < l.length) : l.getD i d = l[i] := by
  simp [List.getD_eq_getElem?_getD, List.getElem?_eq_getElem h]
theorem get_list (s : ByteArray) (i : Nat) (h : i < s.size) : s[i] = s.data.toList.getD i 0 := by
  rw [getD_at _ i 0 (by simpa using h)]
  rfl
theorem word_l (s : ByteArray) (w : World) (hs : 4 ≤ s.size) (h2 : s.size ≤ maxLen) :
    Calls Tryd.prog 54 #[.string s] w fun e w' => e = .returned (.int .u32 (wordL s.data.toList)) ∧ Below w.heap.size w w' := by
  have := word_is s w hs h2
  rw [get_list s 0 (by omega), get_list s 1 (by omega), get_list s 2 (by omega), get_list s 3 (by omega)] at this
  exact this
/-- the next word of a block's row -/
def schedV (a x b y : Int) : Int := IntKind.u32.wrap (IntKind.u32.wrap (IntKind.u32.wrap (a + bits .xor .u32 (bits .xor .u32 (rorV x 7) (rorV x 18)) (x / 8)) + b) + bits .xor .u32 (bits .xor .u32 (rorV y 17) (rorV y 19)) (y / 1024))
def nextW (B : List UInt8) (l : List Int) : Int :=
  if l.length < 16 then wordL (B.drop (4 * l.length)) else schedV (l.getD (l.length - 16) 0) (l.getD (l.length - 15) 0) (l.getD (l.length - 7) 0) (l.getD (l.length - 2) 0)
def schedL (B : List UInt8) : Nat → List Int
  | 0 => []
  | n + 1 => schedL B n ++ [nextW B (schedL B n)]
theorem schedL_len (B : List UInt8) : ∀ n, (schedL B n).length = n
  | 0 => rfl
  | n + 1 => by simp [schedL, schedL_len B n]
/-- the cells of a block's row of words, the first of which are reckoned -/
def wC (l : List Int) : Array Value := ((l ++ List.replicate (64 - l.length) 0).map fun x => Value.int .u32 x).toArray
theorem wC_get (l : List Int) (i : Nat) (h : i < l.length) : (wC l)[i]? = some (.int .u32 (l.getD i 0)) := by
  simp only [wC, List.getElem?_toArray, List.getElem?_map, List.getElem?_append_left h, getD_at _ i 0 h, List.getElem?_eq_getElem h]
  rfl
theorem wC_zero (l : List Int) (i : Nat) (h : l.length ≤ i) (h2 : i < 64) : (wC l)[i]? = some (.int .u32 0) := by
  simp only [wC, List.getElem?_toArray, List.getElem?_map, List.getElem?_append_right h, List.getElem?_replicate]
  rw [if_pos (by omega)]; rfl
theorem wC_set (l : List Int) (x : Int) (h : l.length < 64) : (wC l).setIfInBounds l.length (.int .u32 x) = wC (l ++ [x]) := by
  obtain ⟨m, hm⟩ : ∃ m, 64 - l.length = m + 1 := ⟨63 - l.length, by omega⟩
  have hm' : 64 - (l.length + 1) = m := by omega
  unfold wC
  rw [List.setIfInBounds_toArray]
  congr 1
  rw [hm, List.length_append, List.length_singleton, hm', List.replicate_succ]
  simp
theorem wC_size (l : List Int) (h : l.length ≤ 64) : (wC l).size = 64 := by simp [wC]; omega
/-- a state -/
structure St where
  (a b c d e f g h : Int)
def St.l (s : St) : List Int := [s.a, s.b, s.c, s.d, s.e, s.f, s.g, s.h]
def stepS (s : St) (kw : Int) : St := ⟨(tV s.e s.f s.g s.h kw + uV s.a s.b s.c) % 4294967296, s.a, s.b, s.c, (s.d + tV s.e s.f s.g s.h kw) % 4294967296, s.e, s.f, s.g⟩
def kL : List Int := [1116352408, 1899447441, 3049323471, 3921009573, 961987163, 1508970993, 2453635748, 2870763221, 3624381080, 310598401, 607225278, 1426881987, 1925078388, 2162078206, 2614888103, 3248222580, 3835390401, 4022224774, 264347078, 604807628, 770255983, 1249150122, 1555081692, 1996064986, 2554220882, 2821834349, 2952996808, 3210313671, 3336571891, 3584528711, 113926993, 338241895, 666307205, 773529912, 1294757372, 1396182291, 1695183700, 1986661051, 2177026350, 2456956037, 2730485921, 2820302411, 3259730800, 3345764771, 3516065817, 3600352804, 4094571909, 275423344, 430227734, 506948616, 659060556, 883997877, 958139571, 1322822218, 1537002063, 1747873779, 1955562222, 2024104815, 2227730452, 2361852424, 2428436474, 2756734187, 3204031479, 3329325298]
def rnds (s : St) (W : List Int) : Nat → St
  | 0 => s
  | n + 1 => stepS (rnds s W n) ((kL.getD n 0 + W.getD n 0) % 4294967296)
def addS (s x : St) : St := ⟨(s.a + x.a) % 4294967296, (s.b + x.b) % 4294967296, (s.c + x.c) % 4294967296, (s.d + x.d) % 4294967296, (s.e + x.e) % 4294967296, (s.f + x.f) % 4294967296, (s.g + x.g) % 4294967296, (s.h + x.h) % 4294967296⟩
/-- a state behind a block -/
def mixS (s : St) (B : List UInt8) : St := addS s (rnds s (schedL B 64) 64)
def addK (l m : List Int) : Nat → List Int
  | 0 => l
  | j + 1 => (addK l m j).set j ((l.getD j 0 + m.getD j 0) % 4294967296)
theorem addK_get (l m : List Int) (j : Nat) : ∀ k, k ≤ j → (addK l m k)[j]? = l[j]?
  | 0, _ => rfl
  | k + 1, h => by rw [addK, List.getElem?_set_ne (by omega)]; exact addK_get l m j k (by omega)
theorem addK_all (s x : St) : addK s.l x.l 8 = (addS s x).l := rfl
theorem stC_set (l : List Int) (j : Nat) (v : Int) : (stC l).setIfInBounds j (.int .u32 v) = stC (l.set j v) := by
  simp [stC, List.map_set]
theorem stC_get (l : List Int) (j : Nat) (h : j < l.length) : (stC l)[j]? = some (.int .u32 (l.getD j 0)) := by
  simp only [stC, List.getElem?_toArray, List.getElem?_map, getD_at _ j 0 h, List.getElem?_eq_getElem h]
  rfl
theorem stC_getK (l m : List Int) (j : Nat) (h : j < l.length) : (stC (addK l m j))[j]? = some (.int .u32 (l.getD j 0)) := by
  simp only [stC, List.getElem?_toArray, List.getElem?_map, addK_get l m j j (Nat.le_refl _), getD_at _ j 0 h, List.getElem?_eq_getElem h]
  rfl
def firstS : St := ⟨1779033703, 3144134277, 1013904242, 2773480762, 1359893119, 2600822924, 528734635, 1541459225⟩
end Go.Proofs.YtichklplcpkjdaaDoor
