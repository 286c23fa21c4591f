/-
  The trie's hash, as plain Lean: bits of a place, halves, the root that hangs on what the trie holds alone.
-/
import Derived.Test.YtichklplcpkjdaaDoorSTrieB
namespace Go.Proofs.YtichklplcpkjdaaDoor
open Go.RowKit Go.Lib Go.Sort
set_option linter.unusedVariables false

/-- a place as a number -/
def nB : List UInt8 → Nat
  | [] => 0
  | b :: l => b.toNat * 256 ^ l.length + nB l
theorem nB_lt : ∀ l : List UInt8, nB l < 256 ^ l.length
  | [] => by simp [nB]
  | b :: l => by
    have h := nB_lt l
    have hb : b.toNat < 256 := b.toNat_lt
    simp only [nB, List.length_cons, Nat.pow_succ]
    have : b.toNat * 256 ^ l.length ≤ 255 * 256 ^ l.length := Nat.mul_le_mul_right _ (by omega)
    omega
theorem nB_cmp : ∀ x y : List UInt8, x.length = y.length → (compareBytes x y < 0 ↔ nB x < nB y)
  | [], [], _ => by simp [compareBytes, nB]
  | [], _ :: _, h => by simp at h
  | _ :: _, [], h => by simp at h
  | a :: x, b :: y, h => by
    have hl : x.length = y.length := by simpa using h
    have hx := nB_lt x
    have hy := nB_lt y
    unfold compareBytes
    simp only [nB, UInt8.lt_iff_toNat_lt]
    rw [hl] at hx ⊢
    by_cases h1 : a.toNat < b.toNat
    · rw [if_pos h1]
      have : (a.toNat + 1) * 256 ^ y.length ≤ b.toNat * 256 ^ y.length := Nat.mul_le_mul_right _ h1
      rw [Nat.add_mul] at this
      constructor
      · intro _; omega
      · intro _; decide
    · rw [if_neg h1]
      by_cases h2 : b.toNat < a.toNat
      · rw [if_pos h2]
        have : (b.toNat + 1) * 256 ^ y.length ≤ a.toNat * 256 ^ y.length := Nat.mul_le_mul_right _ h2
        rw [Nat.add_mul] at this
        constructor
        · intro h; exact absurd h (by decide)
        · intro h; omega
      · rw [if_neg h2]
        have e : a.toNat = b.toNat := by omega
        rw [e, nB_cmp x y hl]
        omega
theorem nB_inj {x y : List UInt8} (hl : x.length = y.length) (h : nB x = nB y) : x = y :=
  cmpB_eq x y (by rw [nB_cmp x y hl]; omega) (by rw [nB_cmp y x hl.symm]; omega)
theorem nB_byte : ∀ (l : List UInt8) (i : Nat) (h : i < l.length), nB l / 256 ^ (l.length - 1 - i) % 256 = l[i].toNat
  | [], i, h => by simp at h
  | b :: l, 0, _ => by
    have h := nB_lt l
    have hb : b.toNat < 256 := b.toNat_lt
    simp only [nB, List.length_cons, List.getElem_cons_zero]
    rw [show l.length + 1 - 1 - 0 = l.length by omega, Nat.mul_comm, Nat.mul_add_div (Nat.pow_pos (by decide)), Nat.div_eq_of_lt h]
    omega
  | b :: l, i + 1, hi => by
    have hi' : i < l.length := by simpa using hi
    have h := nB_byte l i hi'
    simp only [nB, List.length_cons, List.getElem_cons_succ]
    rw [show l.length + 1 - 1 - (i + 1) = l.length - 1 - i by omega, ← h]
    have e : b.toNat * 256 ^ l.length = 256 ^ (l.length - 1 - i) * (b.toNat * 256 ^ i * 256) := by
      have : 256 ^ l.length = 256 ^ (l.length - 1 - i) * 256 ^ (i + 1) := by rw [← Nat.pow_add]; congr 1; omega
      rw [this, Nat.pow_succ]
      ac_rfl
    rw [e, Nat.mul_add_div (Nat.pow_pos (by decide))]
    omega
/-- a place's first d bits, as a number; its bit d -/
def preP (p : List UInt8) (d : Nat) : Nat := nB p / 2 ^ (256 - d)
def bitP (p : List UInt8) (d : Nat) : Nat := nB p / 2 ^ (255 - d) % 2
theorem bitP_lt (p : List UInt8) (d : Nat) : bitP p d < 2 := Nat.mod_lt _ (by decide)
theorem preP_succ (p : List UInt8) {d : Nat} (h : d < 256) : preP p (d + 1) = 2 * preP p d + bitP p d := by
  unfold preP bitP
  have : nB p / 2 ^ (256 - d) = nB p / 2 ^ (255 - d) / 2 := by
    rw [Nat.div_div_eq_div_mul, ← Nat.pow_succ]
    congr 2
    omega
  rw [this, show 256 - (d + 1) = 255 - d by omega]
  omega
theorem preP_mono {x y : List UInt8} (d : Nat) (h : nB x ≤ nB y) : preP x d ≤ preP y d := Nat.div_le_div_right h
theorem bitP_byte {p : List UInt8} (hp : p.length = 32) {d : Nat} (hd : d < 256) : bitP p d = (p[d / 8]'(by omega)).toNat / 2 ^ (7 - d % 8) % 2 := by
  rw [← nB_byte p (d / 8) (by omega), hp]
  unfold bitP
  have e1 : (256 : Nat) ^ (32 - 1 - d / 8) = 2 ^ (8 * (31 - d / 8)) := by rw [Nat.pow_mul]
  have e2 : (256 : Nat) = 2 ^ (7 - d % 8) * (2 * 2 ^ (d % 8)) := by
    have h : ∀ r, r < 8 → (256 : Nat) = 2 ^ (7 - r) * (2 * 2 ^ r) := by decide
    exact h _ (Nat.mod_lt _ (by decide))
  have e3 : 2 ^ (255 - d) = 2 ^ (8 * (31 - d / 8)) * 2 ^ (7 - d % 8) := by
    rw [← Nat.pow_add]
    congr 1
    omega
  rw [e1, e3, ← Nat.div_div_eq_div_mul]
  generalize nB p / 2 ^ (8 * (31 - d / 8)) = M
  conv => rhs; rw [e2]
  rw [Nat.mod_mul_right_div_self, Nat.mod_mul_right_mod]
/-- sorted, no two alike -/
def Rise (l : List Pl) : Prop := l.Pairwise fun x y => nB x.1 < nB y.1
/-- all begin alike -/
def Alike (d : Nat) (l : List Pl) : Prop := ∀ x ∈ l, ∀ y ∈ l, preP x.1 d = preP y.1 d
def cntP (d : Nat) (l : List Pl) : Nat := (l.takeWhile fun x => bitP x.1 d == 0).length
theorem cnt_le (d : Nat) (l : List Pl) : cntP d l ≤ l.length := (List.takeWhile_sublist _).length_le
theorem Rise.sub {l l' : List Pl} (h : Rise l) (hs : l'.Sublist l) : Rise l' := List.Pairwise.sublist hs h
theorem alike_zero (l : List Pl) : Alike 0 l := by
  intro x _ y _
  have hz : ∀ z : Pl, preP z.1 0 = 0 := fun z => by
    unfold preP
    have := nB_lt z.1
    rw [z.2] at this
    exact Nat.div_eq_of_lt (by simpa using this)
  rw [hz, hz]
theorem alike_full {l : List Pl} (h : Rise l) (ha : Alike 256 l) : l.length ≤ 1 := by
  match l, h, ha with
  | [], _, _ => simp
  | [_], _, _ => simp
  | x :: y :: l, h, ha =>
    have h1 := (List.pairwise_cons.1 h).1 y (by simp)
    have h2 := ha x (by simp) y (by simp)
    unfold preP at h2
    simp at h2
    omega
theorem take_cnt (d : Nat) (l : List Pl) : ∀ x ∈ l.take (cntP d l), bitP x.1 d = 0 := by
  intro x hx
  unfold cntP at hx
  rw [← List.prefix_iff_eq_take.1 (List.takeWhile_prefix (fun x : Pl => bitP x.1 d == 0))] at hx
  simpa using (List.all_takeWhile (p := fun x : Pl => bitP x.1 d == 0) (l := l) |> List.all_eq_true.1) x hx
theorem cnt_cons (d : Nat) (x : Pl) (l : List Pl) : cntP d (x :: l) = if bitP x.1 d = 0 then cntP d l + 1 else 0 := by
  unfold cntP
  rw [List.takeWhile_cons]
  by_cases h : bitP x.1 d = 0 <;> simp [h]
theorem drop_cnt {d : Nat} (hd : d < 256) : ∀ {l : List Pl}, Rise l → Alike d l → ∀ x ∈ l.drop (cntP d l), bitP x.1 d = 1
  | [], _, _, x, hx => by simp at hx
  | y :: l, h, ha, x, hx => by
    obtain ⟨h1, h2⟩ := List.pairwise_cons.1 h
    rw [cnt_cons] at hx
    have hb := bitP_lt y.1 d
    by_cases e : bitP y.1 d = 0
    · rw [if_pos e, List.drop_succ_cons] at hx
      exact drop_cnt hd h2 (fun a ha' b hb' => ha a (by simp [ha']) b (by simp [hb'])) x hx
    · rw [if_neg e, List.drop_zero] at hx
      rcases List.mem_cons.1 hx with rfl | hx'
      · omega
      · have h3 := preP_mono (d + 1) (Nat.le_of_lt (h1 x hx'))
        rw [preP_succ _ hd, preP_succ _ hd, ha y (by simp) x (by simp [hx'])] at h3
        have := bitP_lt x.1 d
        omega
theorem alike_take {d : Nat} (hd : d < 256) {l : List Pl} (ha : Alike d l) : Alike (d + 1) (l.take (cntP d l)) := by
  intro x hx y hy
  rw [preP_succ _ hd, preP_succ _ hd, take_cnt d l x hx, take_cnt d l y hy, ha x (List.mem_of_mem_take hx) y (List.mem_of_mem_take hy)]
theorem alike_drop {d : Nat} (hd : d < 256) {l : List Pl} (h : Rise l) (ha : Alike d l) : Alike (d + 1) (l.drop (cntP d l)) := by
  intro x hx y hy
  rw [preP_succ _ hd, preP_succ _ hd, drop_cnt hd h ha x hx, drop_cnt hd h ha y hy, ha x (List.mem_of_mem_drop hx) y (List.mem_of_mem_drop hy)]
/-- a subtree's hash; m: how many bits are left -/
def hashP (f : PM) : Nat → Nat → List Pl → ByteArray
  | m, d, [] => nothingB
  | m, d, [x] => leafB ⟨x.1.toArray⟩ ((f x.1).getD ByteArray.empty)
  | 0, d, l => ByteArray.empty
  | m + 1, d, x :: y :: l => innerB (hashP f m (d + 1) ((x :: y :: l).take (cntP d (x :: y :: l)))) (hashP f m (d + 1) ((x :: y :: l).drop (cntP d (x :: y :: l))))
theorem hashP_two (f : PM) (m d : Nat) {l : List Pl} (h : 2 ≤ l.length) : hashP f (m + 1) d l = innerB (hashP f m (d + 1) (l.take (cntP d l))) (hashP f m (d + 1) (l.drop (cntP d l))) := by
  match l, h with
  | x :: y :: l, _ => rfl
theorem hashP_none (f : PM) (m d : Nat) : hashP f m d [] = nothingB := by cases m <;> rfl
theorem hashP_one (f : PM) (m d : Nat) (x : Pl) : hashP f m d [x] = leafB ⟨x.1.toArray⟩ ((f x.1).getD ByteArray.empty) := by cases m <;> rfl
theorem hashP_size (f : PM) (m d : Nat) (l : List Pl) : (hashP f m d l).size ≤ 32 := by
  match m, l with
  | m, [] => rw [hashP_none]; unfold nothingB; rw [sumB_size]; omega
  | m, [x] => rw [hashP_one]; unfold leafB; rw [sumB_size]; omega
  | 0, x :: y :: l => show ByteArray.empty.size ≤ 32; simp
  | m + 1, x :: y :: l => show (innerB _ _).size ≤ 32; unfold innerB; rw [sumB_size]; omega
/-- a list of all places -/
def KeysOf (f : PM) (l : List Pl) : Prop := l.Nodup ∧ ∀ p : Pl, p ∈ l ↔ (f p.1).isSome
theorem sort_pair (l : List Pl) : (sortPl l).Pairwise fun x y => (!(ltOf cfP) y x) = true :=
  List.pairwise_mergeSort (fun a b c h1 h2 => by
    simp only [Bool.not_eq_true', ltP, decide_eq_false_iff_not] at *
    rw [nB_cmp b.1 a.1 (by rw [a.2, b.2])] at h1
    rw [nB_cmp c.1 b.1 (by rw [b.2, c.2])] at h2
    rw [nB_cmp c.1 a.1 (by rw [a.2, c.2])]
    omega) (fun a b => by
    simp only [Bool.or_eq_true, Bool.not_eq_true', ltP, decide_eq_false_iff_not]
    rw [nB_cmp b.1 a.1 (by rw [a.2, b.2]), nB_cmp a.1 b.1 (by rw [a.2, b.2])]
    omega) l
theorem sort_rise {l : List Pl} (h : l.Nodup) : Rise (sortPl l) := by
  have hn : (sortPl l).Nodup := (List.mergeSort_perm l _).nodup_iff.2 h
  refine List.Pairwise.imp₂ (fun x y h1 h2 => ?_) (sort_pair l) hn
  simp only [Bool.not_eq_true', ltP, decide_eq_false_iff_not] at h1
  rw [nB_cmp _ _ (by rw [x.2, y.2])] at h1
  have : nB x.1 ≠ nB y.1 := fun e => h2 (Subtype.ext (nB_inj (by rw [x.2, y.2]) e))
  omega
theorem sort_keys {f : PM} {l l' : List Pl} (h : KeysOf f l) (h' : KeysOf f l') : sortPl l = sortPl l' := by
  have hp : l.Perm l' := (List.perm_ext_iff_of_nodup h.1 h'.1).2 fun p => by rw [h.2, h'.2]
  refine List.Perm.eq_of_pairwise (le := fun x y => (!(ltOf cfP) y x) = true) (fun x y _ _ h1 h2 => ?_) (sort_pair l) (sort_pair l') (((List.mergeSort_perm l _).trans hp).trans (List.mergeSort_perm l' _).symm)
  simp only [Bool.not_eq_true'] at h1 h2
  exact totP x y h2 h1
open Classical in
/-- the root of what a trie holds -/
noncomputable def rootP (f : PM) : ByteArray := if h : ∃ l, KeysOf f l then hashP f 256 0 (sortPl h.choose) else ByteArray.empty
theorem rootP_is {f : PM} {l : List Pl} (h : KeysOf f l) : rootP f = hashP f 256 0 (sortPl l) := by
  have hx : ∃ l, KeysOf f l := ⟨l, h⟩
  unfold rootP
  rw [dif_pos hx, sort_keys hx.choose_spec h]
theorem rootP_size (f : PM) : (rootP f).size ≤ 32 := by
  unfold rootP
  split
  · exact hashP_size _ _ _ _
  · simp
/-- what hangs on no more than the places of length 32 -/
theorem hashP_congr {f g : PM} (h : ∀ k, k.length = 32 → f k = g k) : ∀ (m d : Nat) (l : List Pl), hashP f m d l = hashP g m d l
  | m, d, [] => by rw [hashP_none, hashP_none]
  | m, d, [x] => by rw [hashP_one, hashP_one, h x.1 x.2]
  | 0, d, x :: y :: l => rfl
  | m + 1, d, x :: y :: l => by rw [hashP_two f m d (by simp), hashP_two g m d (by simp), hashP_congr h, hashP_congr h]
theorem rootP_congr {f g : PM} (h : ∀ k, k.length = 32 → f k = g k) : rootP f = rootP g := by
  have e : ∀ l, KeysOf f l ↔ KeysOf g l := fun l => by
    unfold KeysOf
    refine and_congr Iff.rfl (forall_congr' fun p => by rw [h p.1 p.2])
  by_cases hx : ∃ l, KeysOf f l
  · obtain ⟨l, hl⟩ := hx
    rw [rootP_is hl, rootP_is ((e l).1 hl), hashP_congr h]
  · unfold rootP
    rw [dif_neg hx, dif_neg (fun ⟨l, hl⟩ => hx ⟨l, (e l).2 hl⟩)]
end Go.Proofs.YtichklplcpkjdaaDoor
