/-
  The document's Flow (voussoirref18): it answers as the plain machine of channel's flow.
-/
import Derived.Test.YtpekbnkmnellpaaDoorRDoc
import Derived.Test.YtpekbnkmnellpaaDoorFlowB
import Derived.Deep.QuietTactic
import Derived.Test.YtpekbnkmnellpaaDoorRegAll
import Derived.Deep.AppendLies
import Derived.Deep.DeepCutAuto
namespace Go.Proofs.YtpekbnkmnellpaaDoor
open Go.RowKit
set_option linter.unusedVariables false

abbrev KL := List (Int × ByteArray)
def kC (l : KL) : List Value := l.flatMap fun x => [.int .u64 x.1, .string x.2]
/-- the slice v owns the row l of Kept, in a block from base on -/
def KRow (w : World) (base : Nat) (v : Value) (l : KL) : Prop := w.ownsRow base 108 2 v l.length (kC l)
theorem kC_get (l : KL) (k j : Nat) (h : k < l.length) (hj : j < 2) : (kC l)[k * 2 + j]? = [Value.int .u64 l[k].1, .string l[k].2][j]? := flat_get _ 2 (fun _ => rfl) l k j h hj
theorem KRow.form {w : World} {base : Nat} {v : Value} {l : KL} (h : KRow w base v l) : ∃ ao cap, v = .slice ao l.length cap ∧ ∀ k (hk : k < l.length), ∃ g, ao = some ⟨g, 0, none⟩ ∧ w.cell? ⟨g, k * 2, none⟩ = some (.int .u64 l[k].1) ∧ w.cell? ⟨g, k * 2 + 1, none⟩ = some (.string l[k].2) := by
  obtain ⟨ao, cap, hv, hf⟩ := own_form h
  refine ⟨ao, cap, hv, fun k hk => ?_⟩
  obtain ⟨g, cur, h1, _, _, hc⟩ := hf (by omega)
  exact ⟨g, h1, hc _ _ (by have := kC_get l k 0 hk (by omega); simpa using this), hc _ _ (by have := kC_get l k 1 hk (by omega); simpa using this)⟩
/-- the place of a number -/
def fidx (l : KL) (q : Int) : Nat := l.findIdx fun x => x.1 == q
def findI (l : KL) (q : Int) : Int := if fidx l q < l.length then (fidx l q : Int) else -1
theorem fidx_le (l : KL) (q : Int) : fidx l q ≤ l.length := List.findIdx_le_length
theorem fidx_at (l : KL) (q : Int) (j : Nat) (hj : j < l.length) (h : j ≤ fidx l q) (he : l[j].1 = q) : fidx l q = j := by
  rcases Nat.lt_or_ge j (fidx l q) with hlt | hge
  · have := List.not_of_lt_findIdx (p := fun x : Int × ByteArray => x.1 == q) hlt
    simp [he] at this
  · omega
theorem fidx_next (l : KL) (q : Int) (j : Nat) (hj : j < l.length) (h : j ≤ fidx l q) (he : l[j].1 ≠ q) : j + 1 ≤ fidx l q := by
  rcases Nat.lt_or_ge j (fidx l q) with hlt | hge
  · omega
  · have e : fidx l q = j := by omega
    have := List.findIdx_getElem (p := fun x : Int × ByteArray => x.1 == q) (w := by show fidx l q < _; omega)
    have e2 : (l[fidx l q]'(by omega)).1 = q := by simpa [fidx] using this
    simp only [e] at e2
    exact absurd e2 he
def FindRel (l : KL) (q : Int) (c : Nat) (i : Value) : Prop := ∃ j : Nat, j ≤ l.length ∧ c = l.length - j ∧ j ≤ fidx l q ∧ i = .int .i64 (j : Int)
set_option maxHeartbeats 1000000 in
theorem find_is (w : World) (base : Nat) (v : Value) (l : KL) (q : Int) (h : KRow w base v l) (hl : l.length ≤ 1000) :
    Calls Tryd.prog 77 #[v, .int .u64 q] w fun e w' => e = .returned (.int .i64 (findI l q)) ∧ w = w' := by
  obtain ⟨ao, cap, rfl, hc⟩ := h.form
  have HC := Lib.hid hc
  clear h hc
  have hle := fidx_le l q
  go_enter Tryd.func77, Tryd.ntmps77
  go_wp2_with fail
  go_loopg [5] l.length (fun c i wr => FindRel l q c i ∧ wr = w)
  case atStart => exact ⟨⟨0, by omega, rfl, by omega, rfl⟩, rfl⟩
  case round =>
    obtain ⟨⟨j, hj, hk, hf, rfl⟩, rfl⟩ := hrel
    have HK := Lib.hid hk
    have HF := Lib.hid hf
    clear hk hf
    by_cases hlt : j < l.length
    · obtain ⟨g, rfl, c0, _⟩ := HC.out j hlt
      by_cases he : l[j].1 = q
      · have HR : Hid (findI l q = (j : Int)) := Lib.hid (by unfold findI; rw [fidx_at l q j hlt HF.out he, if_pos hlt])
        rw [he] at c0
        go_wp2_with fail
        go_ret
        exact ⟨by rw [HR.out]; rfl, rfl⟩
      · have HN := Lib.hid (fidx_next l q j hlt HF.out he)
        have hb : (l[j].1 == q) = false := by simp [he]
        generalize l[j].1 = x at c0 hb he
        go_wp2_with fail
        go_roundg (l.length - (j + 1))
        case measure => rw [HK.out]; omega
        case rel => exact ⟨⟨j + 1, by omega, rfl, HN.out, rfl⟩, rfl⟩
    · have HR : Hid (findI l q = -1) := Lib.hid (by unfold findI; rw [if_neg (by have := HF.out; omega)])
      go_wp2_with fail
      go_ret
      exact ⟨by rw [HR.out]; rfl, rfl⟩
end Go.Proofs.YtpekbnkmnellpaaDoor
namespace Go.Proofs.YtpekbnkmnellpaaDoor
open Go.RowKit
set_option linter.unusedVariables false

/-- the document's flow: the next numbers; what is kept, what came, what was said -/
structure RF where
  o : Bool
  S : Int
  R : Int
  A : Int
  k : KL
  t : KL
  s : KL
abbrev RF.cs (r : RF) (v4 v5 v6 : Value) : Array Value := #[.bool r.o, .int .u64 r.S, .int .u64 r.R, .int .u64 r.A, v4, v5, v6]
structure RFAt (W : World) (base g : Nat) (v4 v5 v6 : Value) (r : RF) : Prop where
  blk : Blk W g 106 (r.cs v4 v5 v6)
  k : KRow W base v4 r.k
  t : KRow W base v5 r.t
  s : KRow W base v6 r.s
  ap45 : ∀ x, v4.ownBlock = some x → v5.ownBlock = some x → False
  ap46 : ∀ x, v4.ownBlock = some x → v6.ownBlock = some x → False
  ap56 : ∀ x, v5.ownBlock = some x → v6.ownBlock = some x → False
  ge : base ≤ g
/-- the flow's blocks -/
def rbl (g : Nat) (v4 v5 v6 : Value) : List Nat := g :: (v4.ownBlock.toList ++ v5.ownBlock.toList ++ v6.ownBlock.toList)
theorem mem_rbl {g x : Nat} {v4 v5 v6 : Value} : x ∈ rbl g v4 v5 v6 ↔ x = g ∨ v4.ownBlock = some x ∨ v5.ownBlock = some x ∨ v6.ownBlock = some x := by
  simp [rbl, eq_comm]
section
variable {W W' : World} {base g : Nat} {v v' v4 v5 v6 : Value} {l : KL} {r : RF}
theorem KRow.kept (h : KRow W base v l) (hg : W.grownBy W' v'.ownBlock) (ha : ∀ x, v'.ownBlock = some x → v.ownBlock = some x → False) : KRow W' base v l :=
  own_only h (Only.of_grown hg) (fun x hx hm => ha x (by simpa using hm) hx)
theorem KRow.only {S : List Nat} (h : KRow W base v l) (ho : Only S W W') (ha : ∀ x, v.ownBlock = some x → x ∉ S) : KRow W' base v l := own_only h ho ha
theorem RFAt.lt (h : RFAt W base g v4 v5 v6 r) : ∀ x ∈ rbl g v4 v5 v6, base ≤ x ∧ x < W.heap.size := by
  intro x hx
  rcases mem_rbl.1 hx with rfl | hx | hx | hx
  · exact ⟨h.ge, h.blk.lt⟩
  · exact World.ownsRow.lt h.k x hx
  · exact World.ownsRow.lt h.t x hx
  · exact World.ownsRow.lt h.s x hx
/-- blocks of other types are none of the flow's -/
theorem RFAt.apart (h : RFAt W base g v4 v5 v6 r) {n : Nat} {t : TypeId} {cs : Array Value} (hb : Blk W n t cs) (h1 : t ≠ 106) (h2 : t ≠ 108) : n ∉ rbl g v4 v5 v6 := by
  intro hx
  rcases mem_rbl.1 hx with rfl | hx | hx | hx
  · have := h.blk
    unfold Blk at this hb
    rw [hb] at this
    simp at this
    exact h1 this.2
  · exact own_apart h.k hb h2 n hx rfl
  · exact own_apart h.t hb h2 n hx rfl
  · exact own_apart h.s hb h2 n hx rfl
theorem RFAt.ne4 (h : RFAt W base g v4 v5 v6 r) : ∀ x, v4.ownBlock = some x → x ≠ g := own_apart h.k h.blk (by decide)
theorem RFAt.ne5 (h : RFAt W base g v4 v5 v6 r) : ∀ x, v5.ownBlock = some x → x ≠ g := own_apart h.t h.blk (by decide)
theorem RFAt.ne6 (h : RFAt W base g v4 v5 v6 r) : ∀ x, v6.ownBlock = some x → x ≠ g := own_apart h.s h.blk (by decide)
theorem RFAt.only {S : List Nat} (h : RFAt W base g v4 v5 v6 r) (ho : Only S W W') (ha : ∀ x ∈ rbl g v4 v5 v6, x ∉ S) : RFAt W' base g v4 v5 v6 r :=
  ⟨h.blk.only ho (ha g (mem_rbl.2 (.inl rfl))), h.k.only ho fun x hx => ha x (mem_rbl.2 (.inr (.inl hx))), h.t.only ho fun x hx => ha x (mem_rbl.2 (.inr (.inr (.inl hx)))), h.s.only ho fun x hx => ha x (mem_rbl.2 (.inr (.inr (.inr hx)))), h.ap45, h.ap46, h.ap56, h.ge⟩
theorem RFAt.below (h : RFAt W base g v4 v5 v6 r) (hb : Below W.heap.size W W') : RFAt W' base g v4 v5 v6 r := h.only (S := []) (Only.of_below hb) (by simp)
/-- one of the numbers is set -/
theorem RFAt.setN (h : RFAt W base g v4 v5 v6 r) (i : Nat) (u : Value) (r' : RF) (hc : (r.cs v4 v5 v6).setIfInBounds i u = r'.cs v4 v5 v6) (hk : r'.k = r.k) (ht : r'.t = r.t) (hs : r'.s = r.s) : RFAt (W.setCell ⟨g, i, none⟩ u) base g v4 v5 v6 r' := by
  have ho : Only [g] W (W.setCell ⟨g, i, none⟩ u) := (Only.refl [g] W).set_ (by simp) _
  refine ⟨hc ▸ h.blk.set_ i u, ?_, ?_, ?_, h.ap45, h.ap46, h.ap56, h.ge⟩
  · rw [hk]; exact h.k.only ho fun x hx hm => h.ne4 x hx (by simpa using hm)
  · rw [ht]; exact h.t.only ho fun x hx hm => h.ne5 x hx (by simpa using hm)
  · rw [hs]; exact h.s.only ho fun x hx hm => h.ne6 x hx (by simpa using hm)
theorem kC_push (l : KL) (q : Int) (x : ByteArray) : kC (l ++ [(q, x)]) = kC l ++ [.int .u64 q, .string x] := by simp [kC]
theorem KRow.push {n : Nat} {q : Int} {x : ByteArray} (h : W.ownsRow base 108 2 v (l.length + 1) (kC l ++ [.int .u64 q, .string x])) : KRow W base v (l ++ [(q, x)]) := by
  unfold KRow
  rw [kC_push, List.length_append]
  exact h
theorem own_grown {W W' : World} {b : Nat} {t : TypeId} {cs : Array Value} {v : Value} (h : Blk W b t cs) (hg : W.grownBy W' v.ownBlock) (ha : ∀ x, v.ownBlock = some x → x ≠ b) : Blk W' b t cs := h.only (Only.of_grown hg) (fun hm => by
  have hx : v.ownBlock = some b := by simpa using hm
  exact ha b hx rfl)
variable {ob : Obj} {g' cap n : Nat} {q : Int} {x : ByteArray}
/-- what has been appended to a row, the flow's block as it was -/
structure Pushed (W W3 : World) (base : Nat) (ob : Obj) (v : Value) (l : KL) (q : Int) (x : ByteArray) (v' : Value) : Prop where
  own : W3.ownsRow base 108 2 v' (l.length + 1) (kC l ++ [.int .u64 q, .string x])
  grown : (W.alloc ob).grownBy W3 v.ownBlock
  at_ : v'.ownBlock = v.ownBlock ∨ v'.ownBlock = some (W.heap.size + 1)
theorem Pushed.only {W3 : World} (p : Pushed W W3 base ob v l q x v') : Only v.ownBlock.toList W W3 := (Only.of_below (S := v.ownBlock.toList) (balloc (Below.refl _ W) ob)).trans (Only.of_grown p.grown)
theorem RFAt.push4 {W3 : World} (h : RFAt W base g v4 v5 v6 r) (p : Pushed W W3 base ob v4 r.k q x v') : RFAt (W3.setCell ⟨g, 4, none⟩ v') base g v' v5 v6 { r with k := r.k ++ [(q, x)] } ∧ Only (rbl g v4 v5 v6) W (W3.setCell ⟨g, 4, none⟩ v') := by
  have ho := p.only
  have hm : ∀ y, y ∈ v4.ownBlock.toList → v4.ownBlock = some y := fun y hy => by simpa using hy
  have hS : Only (rbl g v4 v5 v6) W W3 := ho.mono fun y hy => mem_rbl.2 (.inr (.inl (hm y hy)))
  have hb : Blk W3 g 106 (r.cs v4 v5 v6) := h.blk.only ho fun hy => h.ne4 g (hm g hy) rfl
  have hset : Only [g] W3 (W3.setCell ⟨g, 4, none⟩ v') := (Only.refl [g] W3).set_ (by simp) _
  have h5 : KRow W3 base v5 r.t := h.t.only ho fun y hy hy' => h.ap45 y (hm y hy') hy
  have h6 : KRow W3 base v6 r.s := h.s.only ho fun y hy hy' => h.ap46 y (hm y hy') hy
  have h4 : KRow W3 base v' (r.k ++ [(q, x)]) := KRow.push (n := 0) p.own
  have nv : ∀ y, v'.ownBlock = some y → y ≠ g := own_apart h4 hb (by decide)
  have fresh : ∀ (u : Value) (lu : KL), KRow W base u lu → (∀ y, v4.ownBlock = some y → u.ownBlock = some y → False) → ∀ y, v'.ownBlock = some y → u.ownBlock = some y → False := fun u lu hu ha y hy hu' => by
    rcases p.at_ with e | e
    · exact ha y (e ▸ hy) hu'
    · have := (World.ownsRow.lt hu y hu').2
      rw [e] at hy
      cases hy
      omega
  refine ⟨⟨hb.set_ 4 v', h4.only hset fun y hy hy' => nv y hy (by simpa using hy'), h5.only hset fun y hy hy' => h.ne5 y hy (by simpa using hy'), h6.only hset fun y hy hy' => h.ne6 y hy (by simpa using hy'), fresh v5 _ h.t h.ap45, fresh v6 _ h.s h.ap46, h.ap56, h.ge⟩, hS.trans (hset.mono fun y hy => mem_rbl.2 (.inl (by simpa using hy)))⟩
theorem RFAt.push5 {W3 : World} (h : RFAt W base g v4 v5 v6 r) (p : Pushed W W3 base ob v5 r.t q x v') : RFAt (W3.setCell ⟨g, 5, none⟩ v') base g v4 v' v6 { r with t := r.t ++ [(q, x)] } ∧ Only (rbl g v4 v5 v6) W (W3.setCell ⟨g, 5, none⟩ v') := by
  have ho := p.only
  have hm : ∀ y, y ∈ v5.ownBlock.toList → v5.ownBlock = some y := fun y hy => by simpa using hy
  have hS : Only (rbl g v4 v5 v6) W W3 := ho.mono fun y hy => mem_rbl.2 (.inr (.inr (.inl (hm y hy))))
  have hb : Blk W3 g 106 (r.cs v4 v5 v6) := h.blk.only ho fun hy => h.ne5 g (hm g hy) rfl
  have hset : Only [g] W3 (W3.setCell ⟨g, 5, none⟩ v') := (Only.refl [g] W3).set_ (by simp) _
  have h4 : KRow W3 base v4 r.k := h.k.only ho fun y hy hy' => h.ap45 y hy (hm y hy')
  have h6 : KRow W3 base v6 r.s := h.s.only ho fun y hy hy' => h.ap56 y (hm y hy') hy
  have h5 : KRow W3 base v' (r.t ++ [(q, x)]) := KRow.push (n := 0) p.own
  have nv : ∀ y, v'.ownBlock = some y → y ≠ g := own_apart h5 hb (by decide)
  have fresh : ∀ (u : Value) (lu : KL), KRow W base u lu → (∀ y, v5.ownBlock = some y → u.ownBlock = some y → False) → ∀ y, v'.ownBlock = some y → u.ownBlock = some y → False := fun u lu hu ha y hy hu' => by
    rcases p.at_ with e | e
    · exact ha y (e ▸ hy) hu'
    · have := (World.ownsRow.lt hu y hu').2
      rw [e] at hy
      cases hy
      omega
  refine ⟨⟨hb.set_ 5 v', h4.only hset fun y hy hy' => h.ne4 y hy (by simpa using hy'), h5.only hset fun y hy hy' => nv y hy (by simpa using hy'), h6.only hset fun y hy hy' => h.ne6 y hy (by simpa using hy'), fun y h1 h2 => fresh v4 _ h.k (fun z a b => h.ap45 z b a) y h2 h1, h.ap46, fresh v6 _ h.s h.ap56, h.ge⟩, hS.trans (hset.mono fun y hy => mem_rbl.2 (.inl (by simpa using hy)))⟩
theorem RFAt.push6 {W3 : World} (h : RFAt W base g v4 v5 v6 r) (p : Pushed W W3 base ob v6 r.s q x v') : RFAt (W3.setCell ⟨g, 6, none⟩ v') base g v4 v5 v' { r with s := r.s ++ [(q, x)] } ∧ Only (rbl g v4 v5 v6) W (W3.setCell ⟨g, 6, none⟩ v') := by
  have ho := p.only
  have hm : ∀ y, y ∈ v6.ownBlock.toList → v6.ownBlock = some y := fun y hy => by simpa using hy
  have hS : Only (rbl g v4 v5 v6) W W3 := ho.mono fun y hy => mem_rbl.2 (.inr (.inr (.inr (hm y hy))))
  have hb : Blk W3 g 106 (r.cs v4 v5 v6) := h.blk.only ho fun hy => h.ne6 g (hm g hy) rfl
  have hset : Only [g] W3 (W3.setCell ⟨g, 6, none⟩ v') := (Only.refl [g] W3).set_ (by simp) _
  have h4 : KRow W3 base v4 r.k := h.k.only ho fun y hy hy' => h.ap46 y hy (hm y hy')
  have h5 : KRow W3 base v5 r.t := h.t.only ho fun y hy hy' => h.ap56 y hy (hm y hy')
  have h6 : KRow W3 base v' (r.s ++ [(q, x)]) := KRow.push (n := 0) p.own
  have nv : ∀ y, v'.ownBlock = some y → y ≠ g := own_apart h6 hb (by decide)
  have fresh : ∀ (u : Value) (lu : KL), KRow W base u lu → (∀ y, v6.ownBlock = some y → u.ownBlock = some y → False) → ∀ y, v'.ownBlock = some y → u.ownBlock = some y → False := fun u lu hu ha y hy hu' => by
    rcases p.at_ with e | e
    · exact ha y (e ▸ hy) hu'
    · have := (World.ownsRow.lt hu y hu').2
      rw [e] at hy
      cases hy
      omega
  refine ⟨⟨hb.set_ 6 v', h4.only hset fun y hy hy' => h.ne4 y hy (by simpa using hy'), h5.only hset fun y hy hy' => h.ne5 y hy (by simpa using hy'), h6.only hset fun y hy hy' => nv y hy (by simpa using hy'), h.ap45, fun y h1 h2 => fresh v4 _ h.k (fun z a b => h.ap46 z b a) y h2 h1, fun y h1 h2 => fresh v5 _ h.t (fun z a b => h.ap56 z b a) y h2 h1, h.ge⟩, hS.trans (hset.mono fun y hy => mem_rbl.2 (.inl (by simpa using hy)))⟩
end
end Go.Proofs.YtpekbnkmnellpaaDoor
namespace Go.Proofs.YtpekbnkmnellpaaDoor
open Go.RowKit
set_option linter.unusedVariables false

/-- what is kept at a number -/
def klook (l : KL) (q : Int) : Option ByteArray := if h : fidx l q < l.length then some l[fidx l q].2 else none
theorem klook_nil (q : Int) : klook [] q = none := by simp [klook]
theorem klook_cons (x : Int × ByteArray) (l : KL) (q : Int) : klook (x :: l) q = if x.1 = q then some x.2 else klook l q := by
  unfold klook fidx
  rw [List.findIdx_cons]
  by_cases h : x.1 = q
  · simp [h]
  · have hb : (x.1 == q) = false := by simp [h]
    simp only [hb, cond_false, List.length_cons, Nat.add_lt_add_iff_right, List.getElem_cons_succ, if_neg h]
theorem klook_push (l : KL) (k : Int) (t : ByteArray) (q : Int) : klook (l ++ [(k, t)]) q = if (klook l q).isSome then klook l q else if k = q then some t else none := by
  induction l with
  | nil => simp [klook_cons, klook_nil]
  | cons x l ih =>
    rw [List.cons_append, klook_cons, klook_cons, ih]
    by_cases h : x.1 = q
    · simp [h]
    · simp [h]
theorem klook_none {l : KL} {q : Int} (h : ∀ x ∈ l, x.1 ≠ q) : klook l q = none := by
  induction l with
  | nil => exact klook_nil q
  | cons x l ih =>
    rw [klook_cons, if_neg (h x (by simp))]
    exact ih fun y hy => h y (by simp [hy])
theorem klook_erase (l : KL) (q : Int) (hu : (l.map (·.1)).Nodup) (k : Int) : klook (l.eraseIdx (fidx l q)) k = if k = q then none else klook l k := by
  induction l with
  | nil => simp [klook_nil]
  | cons x l ih =>
    have hu' := List.nodup_cons.1 (by simpa using hu : (x.1 :: l.map (·.1)).Nodup)
    by_cases h : x.1 = q
    · have e : fidx (x :: l) q = 0 := by simp [fidx, List.findIdx_cons, h]
      rw [e, List.eraseIdx_cons_zero, klook_cons]
      by_cases hk : k = q
      · rw [if_pos hk]
        refine klook_none fun y hy he => hu'.1 ?_
        rw [h, ← hk, ← he]
        exact List.mem_map_of_mem hy
      · rw [if_neg hk, if_neg (by rw [h]; exact fun e => hk e.symm)]
    · have hb : (x.1 == q) = false := by simp [h]
      have e : fidx (x :: l) q = fidx l q + 1 := by simp [fidx, List.findIdx_cons, hb]
      rw [e, List.eraseIdx_cons_succ, klook_cons, klook_cons, ih hu'.2]
      by_cases hk : k = q
      · rw [if_pos hk, if_neg (by rw [hk]; exact h), if_pos hk]
      · rw [if_neg hk, if_neg hk]
theorem klook_some {l : KL} {q : Int} : (klook l q).isSome = decide (fidx l q < l.length) := by
  unfold klook
  split <;> simp_all
theorem findI_neg (l : KL) (q : Int) : decide (findI l q < 0) = !(klook l q).isSome := by
  rw [klook_some]
  unfold findI
  split
  · rename_i h; simp [h]
  · rename_i h; simp [h]
theorem findI_ge (l : KL) (q : Int) : decide (findI l q ≥ 0) = (klook l q).isSome := by
  rw [klook_some]
  unfold findI
  split
  · rename_i h; simp [h]
  · rename_i h; simp [h]
/-- the document's flow as a flow -/
def RF.fl (r : RF) : Fl := ⟨r.o, r.S, r.R, r.A, klook r.k, klook r.s, fun q => (klook r.t q).isSome⟩
/-- of n steps, at most -/
structure RF.ok (r : RF) (n : Nat) : Prop where
  sr : 1 ≤ r.S ∧ r.S ≤ n + 1
  rr : u64r r.R
  ar : u64r r.A
  uniq : (r.k.map (·.1)).Nodup
  ahead : ∀ x ∈ r.k, x.1 < r.S
  kl : r.k.length ≤ n
  tl : r.t.length ≤ n
  sl : r.s.length ≤ n
theorem RF.ok.mono {r : RF} {n m : Nat} (h : r.ok n) (hn : n ≤ m) : r.ok m := ⟨⟨h.sr.1, by have := h.sr.2; omega⟩, h.rr, h.ar, h.uniq, h.ahead, by have := h.kl; omega, by have := h.tl; omega, by have := h.sl; omega⟩
/-- the document's flow lies at g, as the flow s, with at most n things kept -/
def RefAt (W : World) (base g n : Nat) (s : Fl) : Prop := ∃ v4 v5 v6 r, RFAt W base g v4 v5 v6 r ∧ r.ok n ∧ r.fl = s
/-- blocks of the document's flows that the call made -/
def RBs (W : World) (base : Nat) (S : List Nat) : Prop := ∀ x ∈ S, base ≤ x ∧ ∃ t cs, Blk W x t cs ∧ (t = 106 ∨ t = 108)
theorem RFAt.bs {W : World} {base g : Nat} {v4 v5 v6 : Value} {r : RF} (h : RFAt W base g v4 v5 v6 r) : RBs W base (rbl g v4 v5 v6) := by
  intro x hx
  refine ⟨(h.lt x hx).1, ?_⟩
  rcases mem_rbl.1 hx with rfl | hx | hx | hx
  · exact ⟨_, _, h.blk, .inl rfl⟩
  · obtain ⟨cur, hc⟩ := own_type h.k hx
    exact ⟨_, _, hc, .inr rfl⟩
  · obtain ⟨cur, hc⟩ := own_type h.t hx
    exact ⟨_, _, hc, .inr rfl⟩
  · obtain ⟨cur, hc⟩ := own_type h.s hx
    exact ⟨_, _, hc, .inr rfl⟩
theorem RefAt.mono {W : World} {base g n m : Nat} {s : Fl} (h : RefAt W base g n s) (hn : n ≤ m) : RefAt W base g m s := by
  obtain ⟨v4, v5, v6, r, h1, h2, h3⟩ := h
  exact ⟨v4, v5, v6, r, h1, h2.mono hn, h3⟩
theorem RefAt.below {W W' : World} {base g n : Nat} {s : Fl} (h : RefAt W base g n s) (hb : Below W.heap.size W W') : RefAt W' base g n s := by
  obtain ⟨v4, v5, v6, r, h1, h2, h3⟩ := h
  exact ⟨v4, v5, v6, r, h1.below hb, h2, h3⟩
/-- what changes other blocks leaves it -/
theorem RefAt.only {W W' : World} {base g n : Nat} {s : Fl} {S : List Nat} (h : RefAt W base g n s) (ho : Only S W W') (hS : ∀ x ∈ S, ∀ t cs, Blk W x t cs → t ≠ 106 ∧ t ≠ 108) : RefAt W' base g n s := by
  obtain ⟨v4, v5, v6, r, h1, h2, h3⟩ := h
  refine ⟨v4, v5, v6, r, h1.only ho fun x hx hm => ?_, h2, h3⟩
  obtain ⟨_, t, cs, hb, ht⟩ := h1.bs x hx
  obtain ⟨n1, n2⟩ := hS x hm t cs hb
  rcases ht with ht | ht
  · exact n1 ht
  · exact n2 ht
/-- what a step of the document's flow leaves as it was -/
structure DStep (W W' : World) (base g n : Nat) (s : Fl) : Prop where
  at_ : RefAt W' base g n s
  only : ∃ S, RBs W base S ∧ Only S W W'
theorem DStep.below {W W' : World} {base g n : Nat} {s : Fl} (h : DStep W W' base g n s) (hb : base ≤ W.heap.size) : Below base W W' := by
  obtain ⟨S, h1, h2⟩ := h.only
  exact h2.below (fun x hx => (h1 x hx).1) hb
theorem DStep.of_below {W W' : World} {base g n : Nat} {s : Fl} (h : RefAt W base g n s) (hb : Below W.heap.size W W') : DStep W W' base g n s := ⟨h.below hb, [], fun x hx => absurd hx (by simp), Only.of_below hb⟩
end Go.Proofs.YtpekbnkmnellpaaDoor
namespace Go.Proofs.YtpekbnkmnellpaaDoor
open Go.RowKit
set_option linter.unusedVariables false

theorem rnew_at (o : Bool) (w : World) (base : Nat) (hb : base ≤ w.heap.size) : RefAt (w.alloc (.cells #[.bool o, .int .u64 1, .int .u64 1, .int .u64 1, .slice none 0 0, .slice none 0 0, .slice none 0 0] 106)) base w.heap.size 0 (Fl.new o) := by
  have hn : ∀ w' : World, KRow w' base (.slice none 0 0) [] := fun w' => World.ownsRow_nil _ _ _ _
  refine ⟨.slice none 0 0, .slice none 0 0, .slice none 0 0, ⟨o, 1, 1, 1, [], [], []⟩, ⟨Blk.new w _ _, hn _, hn _, hn _, ?_, ?_, ?_, hb⟩, ⟨⟨by show (1 : Int) ≤ 1; omega, by show (1 : Int) ≤ ((0 : Nat) : Int) + 1; omega⟩, one_r, one_r, by simp, by simp, by simp, by simp, by simp⟩, ?_⟩
  · intro x h; cases h
  · intro x h; cases h
  · intro x h; cases h
  · unfold RF.fl Fl.new
    have e : klook [] = fun _ => none := funext klook_nil
    simp [e]
set_option maxHeartbeats 1000000 in
theorem rnewflow_is (o : Bool) (w : World) (base : Nat) (hb : base ≤ w.heap.size) :
    Calls Tryd.prog 37 #[.bool o] w fun e w' => e = .returned (.pointer (some ⟨w.heap.size, 0, none⟩)) ∧ RefAt w' base w.heap.size 0 (Fl.new o) ∧ Below w.heap.size w w' := by
  have HR := Lib.hid (rnew_at o w base hb)
  clear hb
  go_enter Tryd.func37, Tryd.ntmps37
  go_wp2_with fail
  go_ret
  exact ⟨rfl, HR.out, balloc (Below.refl _ w) _⟩
set_option maxHeartbeats 1000000 in
theorem rnext_is (w : World) (base g n : Nat) (s : Fl) (h : RefAt w base g n s) :
    Calls Tryd.prog 45 #[.pointer (some ⟨g, 0, none⟩)] w fun e w' => e = .returned (.tuple #[.int .u64 s.send, .int .u64 s.recv, .int .u64 s.ack]) ∧ Below w.heap.size w w' := by
  obtain ⟨v4, v5, v6, r, hF, hO, rfl⟩ := h
  have c1 : w.cell? ⟨g, 1, none⟩ = some (.int .u64 r.S) := hF.blk.cell 1
  have c2 : w.cell? ⟨g, 2, none⟩ = some (.int .u64 r.R) := hF.blk.cell 2
  have c3 : w.cell? ⟨g, 3, none⟩ = some (.int .u64 r.A) := hF.blk.cell 3
  clear hF hO
  show Calls _ _ _ _ fun e w' => e = .returned (.tuple #[.int .u64 r.S, .int .u64 r.R, .int .u64 r.A]) ∧ _
  go_enter Tryd.func45, Tryd.ntmps45
  go_wp2_with fail
  go_quiet (fail)
  go_wp2_with fail
  go_ret3
  exact ⟨rfl, below_drewN' (Below.refl _ w) _⟩
set_option maxHeartbeats 1000000 in
theorem rsent_is (w : World) (base g n : Nat) (s : Fl) (k : Int) (h : RefAt w base g n s) (hn : n ≤ 1000) :
    Calls Tryd.prog 43 #[.pointer (some ⟨g, 0, none⟩), .int .u64 k] w fun e w' => e = .returned (.tuple #[.string ((s.sent k).getD ByteArray.empty), .bool (s.sent k).isSome]) ∧ Below w.heap.size w w' := by
  obtain ⟨v4, v5, v6, r, hF, hO, rfl⟩ := h
  have c4 : w.cell? ⟨g, 4, none⟩ = some v4 := hF.blk.cell 4
  have hle : r.k.length ≤ 1000 := Nat.le_trans hO.kl hn
  have HFind := Lib.hid (find_is w base v4 r.k k hF.k hle)
  obtain ⟨ao, cap, rfl, hc⟩ := hF.k.form
  clear hF hO
  show Calls _ _ _ _ fun e w' => e = .returned (.tuple #[.string ((klook r.k k).getD ByteArray.empty), .bool (klook r.k k).isSome]) ∧ _
  by_cases hk : fidx r.k k < r.k.length
  · have e1 : klook r.k k = some (r.k[fidx r.k k]).2 := by unfold klook; rw [dif_pos hk]
    have e2 : findI r.k k = (fidx r.k k : Int) := by unfold findI; rw [if_pos hk]
    rw [e1]
    rw [e2] at HFind
    obtain ⟨gk, rfl, c9, cc⟩ := hc _ hk
    clear hc e1 e2 c9
    generalize (r.k[fidx r.k k]).2 = x at cc ⊢
    generalize fidx r.k k = j at cc hk HFind
    generalize r.k.length = m at hle hk HFind c4
    go_enter Tryd.func43, Tryd.ntmps43
    go_wp2_with fail
    refine HFind.out.mono ?_
    rintro e w1 ⟨rfl, rfl⟩
    go_wp2_with fail
    go_ret2
    exact ⟨rfl, Below.refl _ w⟩
  · have e1 : klook r.k k = none := by unfold klook; rw [dif_neg hk]
    have e2 : findI r.k k = -1 := by unfold findI; rw [if_neg hk]
    rw [e1]
    rw [e2] at HFind
    clear hc e1 e2 hk
    go_enter Tryd.func43, Tryd.ntmps43
    go_wp2_with fail
    refine HFind.out.mono ?_
    rintro e w1 ⟨rfl, rfl⟩
    go_wp2_with fail
    go_ret2
    exact ⟨rfl, Below.refl _ w⟩
set_option maxHeartbeats 1000000 in
theorem rwritten_is (w : World) (base g n : Nat) (s : Fl) (k : Int) (h : RefAt w base g n s) (hn : n ≤ 1000) :
    Calls Tryd.prog 44 #[.pointer (some ⟨g, 0, none⟩), .int .u64 k] w fun e w' => e = .returned (.tuple #[.string ((s.written k).getD ByteArray.empty), .bool (s.written k).isSome]) ∧ Below w.heap.size w w' := by
  obtain ⟨v4, v5, v6, r, hF, hO, rfl⟩ := h
  have c4 : w.cell? ⟨g, 6, none⟩ = some v6 := hF.blk.cell 6
  have hle : r.s.length ≤ 1000 := Nat.le_trans hO.sl hn
  have HFind := Lib.hid (find_is w base v6 r.s k hF.s hle)
  obtain ⟨ao, cap, rfl, hc⟩ := hF.s.form
  clear hF hO
  show Calls _ _ _ _ fun e w' => e = .returned (.tuple #[.string ((klook r.s k).getD ByteArray.empty), .bool (klook r.s k).isSome]) ∧ _
  by_cases hk : fidx r.s k < r.s.length
  · have e1 : klook r.s k = some (r.s[fidx r.s k]).2 := by unfold klook; rw [dif_pos hk]
    have e2 : findI r.s k = (fidx r.s k : Int) := by unfold findI; rw [if_pos hk]
    rw [e1]
    rw [e2] at HFind
    obtain ⟨gk, rfl, c9, cc⟩ := hc _ hk
    clear hc e1 e2 c9
    generalize (r.s[fidx r.s k]).2 = x at cc ⊢
    generalize fidx r.s k = j at cc hk HFind
    generalize r.s.length = m at hle hk HFind c4
    go_enter Tryd.func44, Tryd.ntmps44
    go_wp2_with fail
    refine HFind.out.mono ?_
    rintro e w1 ⟨rfl, rfl⟩
    go_wp2_with fail
    go_ret2
    exact ⟨rfl, Below.refl _ w⟩
  · have e1 : klook r.s k = none := by unfold klook; rw [dif_neg hk]
    have e2 : findI r.s k = -1 := by unfold findI; rw [if_neg hk]
    rw [e1]
    rw [e2] at HFind
    clear hc e1 e2 hk
    go_enter Tryd.func44, Tryd.ntmps44
    go_wp2_with fail
    refine HFind.out.mono ?_
    rintro e w1 ⟨rfl, rfl⟩
    go_wp2_with fail
    go_ret2
    exact ⟨rfl, Below.refl _ w⟩
theorem of_ge {l : KL} {q : Int} : ((findI l q) ≥ 0) = ((klook l q).isSome = true) := by
  have := findI_ge l q
  cases h : (klook l q).isSome <;> simp_all
set_option maxHeartbeats 1000000 in
theorem rcame_is (w : World) (base g n : Nat) (s : Fl) (k : Int) (h : RefAt w base g n s) (hn : n ≤ 1000) (hk : u64r k) :
    Calls Tryd.prog 46 #[.pointer (some ⟨g, 0, none⟩), .int .u64 k] w fun e w' => e = .returned (.bool (s.came k)) ∧ w = w' := by
  obtain ⟨v4, v5, v6, r, hF, hO, rfl⟩ := h
  have c0 : w.cell? ⟨g, 0, none⟩ = some (.bool r.o) := hF.blk.cell 0
  have c2 : w.cell? ⟨g, 2, none⟩ = some (.int .u64 r.R) := hF.blk.cell 2
  have c5 : w.cell? ⟨g, 5, none⟩ = some v5 := hF.blk.cell 5
  have hle : r.t.length ≤ 1000 := Nat.le_trans hO.tl hn
  have HFind := Lib.hid (find_is w base v5 r.t k hF.t hle)
  obtain ⟨ao, cap, rfl, hc⟩ := hF.t.form
  have HG := Lib.hid (findI_ge r.t k)
  clear hF hO hc
  obtain ⟨b, hb⟩ : ∃ b, r.fl.came k = b := ⟨_, rfl⟩
  rw [hb]
  have HB := Lib.hid hb
  clear hb
  cases ho : r.o with
  | true =>
    have HB2 : Hid (b = (decide (0 < k) && decide (k < r.R))) := Lib.hid (by rw [← HB.out]; unfold Fl.came RF.fl; rw [ho]; rfl)
    rw [ho] at c0
    clear HB ho
    generalize r.R = rv at c2 HB2
    by_cases h0 : 0 < k
    · by_cases h1 : k < rv
      · have HB3 : Hid (b = true) := Lib.hid (by rw [HB2.out, decide_eq_true h0, decide_eq_true h1]; rfl)
        have t0 : decide (0 < k) = true := decide_eq_true h0
        have t1 : decide (k < rv) = true := decide_eq_true h1
        go_enter Tryd.func46, Tryd.ntmps46
        go_wp2_with fail
        go_ret
        exact ⟨by rw [HB3.out]; rfl, rfl⟩
      · have HB3 : Hid (b = false) := Lib.hid (by rw [HB2.out, decide_eq_true h0, decide_eq_false h1]; rfl)
        have t0 : decide (0 < k) = true := decide_eq_true h0
        have t1 : decide (k < rv) = false := decide_eq_false h1
        go_enter Tryd.func46, Tryd.ntmps46
        go_wp2_with fail
        go_ret
        exact ⟨by rw [HB3.out]; rfl, rfl⟩
    · have HB3 : Hid (b = false) := Lib.hid (by rw [HB2.out, decide_eq_false h0]; rfl)
      have t0 : decide (0 < k) = false := decide_eq_false h0
      go_enter Tryd.func46, Tryd.ntmps46
      go_wp2_with fail
      go_ret
      exact ⟨by rw [HB3.out]; rfl, rfl⟩
  | false =>
    have HB2 : Hid (b = decide (findI r.t k ≥ 0)) := Lib.hid (by rw [HG.out, ← HB.out]; unfold Fl.came RF.fl; rw [ho]; rfl)
    rw [ho] at c0
    clear HB ho HG
    generalize findI r.t k = fi at HB2 HFind
    go_enter Tryd.func46, Tryd.ntmps46
    go_wp2_with fail
    refine HFind.out.mono ?_
    rintro e w1 ⟨rfl, rfl⟩
    go_wp2_with fail
    go_ret
    exact ⟨by rw [HB2.out]; rfl, rfl⟩
end Go.Proofs.YtpekbnkmnellpaaDoor
namespace Go.Proofs.YtpekbnkmnellpaaDoor
open Go.RowKit
set_option linter.unusedVariables false

theorem info_kept : (Tryd.prog.info? 108).map (fun i => (i.zero, i.size, i.bytes)) = some (some (.agg #[.int .u64 0, .string ⟨#[]⟩]), 2, 24) := by kernel_rfl
abbrev keptO (q : Int) (x : ByteArray) : Obj := .cells #[.int .u64 q, .string x] 108
theorem ld_row {g i : Nat} {W : World} {v : Value} (h : W.cell? ⟨g, i, none⟩ = some v) (hv : ∃ ao n cap, v = .slice ao n cap) : (Instr.loadAt 104 (.pointer (some ⟨g, i, none⟩))).run Tryd.prog W = .ok v W := by
  obtain ⟨ao, n, cap, rfl⟩ := hv
  go_simp
theorem st_row {g i : Nat} {W : World} {v v' : Value} (h : W.cell? ⟨g, i, none⟩ = some v) (hf : W.frozen? ⟨g, i, none⟩ = false) (hv : ∃ ao n cap, v = .slice ao n cap) (hv' : ∃ ao n cap, v' = .slice ao n cap) : (Instr.storeAt 104 (.pointer (some ⟨g, i, none⟩)) v').run Tryd.prog W = .ok () (W.setCell ⟨g, i, none⟩ v') := by
  obtain ⟨ao, n, cap, rfl⟩ := hv
  obtain ⟨ao', n', cap', rfl⟩ := hv'
  go_simp
theorem ld_u {g i : Nat} {W : World} {x : Int} (h : W.cell? ⟨g, i, none⟩ = some (.int .u64 x)) : (Instr.loadAt 22 (.pointer (some ⟨g, i, none⟩))).run Tryd.prog W = .ok (.int .u64 x) W := by go_simp
theorem ld_pk {g : Nat} {W : World} {sq fr to_ tm : Int} {dt : ByteArray} (h : Blk W g 24 #[.int .u64 sq, .int .u64 fr, .int .u64 to_, .string dt, .int .u64 tm]) : (Instr.loadAt 24 (.pointer (some ⟨g, 0, none⟩))).run Tryd.prog W = .ok (.agg #[.int .u64 sq, .int .u64 fr, .int .u64 to_, .string dt, .int .u64 tm]) W := by
  have c0 : W.cell? ⟨g, 0, none⟩ = some (.int .u64 sq) := h.cell 0
  have c1 : W.cell? ⟨g, 1, none⟩ = some (.int .u64 fr) := h.cell 1
  have c2 : W.cell? ⟨g, 2, none⟩ = some (.int .u64 to_) := h.cell 2
  have c3 : W.cell? ⟨g, 3, none⟩ = some (.string dt) := h.cell 3
  have c4 : W.cell? ⟨g, 4, none⟩ = some (.int .u64 tm) := h.cell 4
  go_simp
theorem bsl_kept (q : Int) (x : ByteArray) (W : World) : (Instr.buildSlice 104 1 #[(0, .agg #[.int .u64 q, .string x])]).run Tryd.prog W = .ok (.slice (some ⟨W.heap.size, 0, none⟩) 1 1) (W.alloc (keptO q x)) := by go_simp
theorem bld_kept1 (q : Int) (W : World) : (Instr.build 108 #[(0, .int .u64 q)]).run Tryd.prog W = .ok (.agg #[.int .u64 q, .string ⟨#[]⟩]) W := by go_simp
theorem bld_kept2 (q : Int) (x : ByteArray) (W : World) : (Instr.build 108 #[(0, .int .u64 q), (1, .string x)]).run Tryd.prog W = .ok (.agg #[.int .u64 q, .string x]) W := by go_simp
theorem pairs2 {f : Operand → Value} {i j : Nat} {x y : Operand} {x1 x2 : Value} (h : f x = x1) (h2 : f y = x2) : (#[(i, x), (j, y)].map fun p => (p.1, f p.2)) = #[(i, x1), (j, x2)] := by simp [h, h2]
theorem KRow.slc {w : World} {base : Nat} {v : Value} {l : KL} (h : KRow w base v l) : ∃ ao n cap, v = .slice ao n cap := by
  obtain ⟨ao, cap, h1, _⟩ := h.form
  exact ⟨ao, _, cap, h1⟩
theorem Pushed.slc {W W3 : World} {base : Nat} {ob : Obj} {v v' : Value} {l : KL} {q : Int} {x : ByteArray} (p : Pushed W W3 base ob v l q x v') : ∃ ao n cap, v' = .slice ao n cap := by
  obtain ⟨ao, cap, h1, _⟩ := own_form p.own
  exact ⟨ao, _, cap, h1⟩
/-- the append -/
theorem app_kept {W : World} {base : Nat} {v : Value} {l : KL} (h : KRow W base v l) (hl : l.length ≤ 1000) (hb : base ≤ W.heap.size) (q : Int) (x : ByteArray) :
    ∃ v' w3, (Builtin.append_ #[104, 104] 104 #[v, .slice (some ⟨W.heap.size, 0, none⟩) 1 1]).run Tryd.prog (W.alloc (keptO q x)) = .ok v' w3 ∧ Pushed W w3 base (keptO q x) v l q x v' := by
  obtain ⟨i0, hi, hz0, hz1, hz2⟩ := info_parts info_kept
  obtain ⟨g3, cap3, w3, hr3, hown3, hgrow3, hat3, _⟩ := run_append_lies (P := Tryd.prog) (W.alloc (keptO q x)) 104 104 base 108 i0 (.agg #[.int .u64 0, .string ⟨#[]⟩]) 2 24 Tryd.underlying104 hi hz0 hz1 hz2 rfl (by decide) v l.length (kC l) (World.ownsRow.alloc h _) ⟨W.heap.size, 0, none⟩ 1 1 [.int .u64 q, .string x] rfl (World.news_of_block (heap_alloc_new W _)) (by intro u hu; simp at hu; rcases hu with rfl | rfl <;> rfl) (by decide) (by unfold maxLen; omega) (by omega) (by simp; omega) _ rfl
  refine ⟨_, w3, hr3, hown3, hgrow3, ?_⟩
  rcases hat3 with e | e
  · exact .inl (by rw [e]; rfl)
  · right
    rw [e]
    simp [Value.ownBlock]
/-- the stages of a region that appends to a row of the flow: a call, the new element, the append, the store -/
def apS (W0 : World) (base g i : Nat) (v : Value) (l : KL) (q : Int) (x : ByteArray) (n : Nat) (vs : List Value) (W : World) : Prop := match n with
  | 0 => Below W0.heap.size W0 W
  | 1 => Below W0.heap.size W0 W
  | 2 => ∃ W1, Below W0.heap.size W0 W1 ∧ W = W1.alloc (keptO q x) ∧ vs.getD 1 undef = .slice (some ⟨W1.heap.size, 0, none⟩) 1 1
  | 3 => ∃ W1, Below W0.heap.size W0 W1 ∧ Pushed W1 W base (keptO q x) v l q x (vs.getD 2 undef)
  | 4 => ∃ W1 v' W3, Below W0.heap.size W0 W1 ∧ Pushed W1 W3 base (keptO q x) v l q x v' ∧ W = W3.setCell ⟨g, i, none⟩ v'
  | _ => False
theorem apS_le {W0 : World} {base g i : Nat} {v : Value} {l : KL} {q : Int} {x : ByteArray} (n : Nat) (vs : List Value) (W : World) (h : apS W0 base g i v l q x n vs W) : n ≤ 4 := by
  rcases n with _ | _ | _ | _ | _ | n
  · omega
  · omega
  · omega
  · omega
  · omega
  · exact absurd h id
theorem apS_le3 {W0 : World} {base g i : Nat} {v : Value} {l : KL} {q : Int} {x : ByteArray} (n : Nat) (vs : List Value) (W : World) (h : apS W0 base g i v l q x (n + 1) (undef :: vs) W) : n ≤ 3 := by
  have := apS_le _ _ _ h
  omega
/-- a block stays as long as nothing has been appended -/
theorem apS_blk {W0 : World} {base g i : Nat} {v : Value} {l : KL} {q : Int} {x : ByteArray} {b : Nat} {t : TypeId} {cs : Array Value} (hb : Blk W0 b t cs) (n : Nat) (vs : List Value) (W : World) (hn : n < 3) (h : apS W0 base g i v l q x n vs W) : Blk W b t cs := by
  rcases n with _ | _ | _ | n
  · exact hb.below h
  · exact hb.below h
  · obtain ⟨W1, h1, rfl, _⟩ := h
    exact (hb.below h1).alloc _
  · omega
theorem apS_blk0 {W0 : World} {base g i : Nat} {v : Value} {l : KL} {q : Int} {x : ByteArray} {b : Nat} {t : TypeId} {cs : Array Value} (hb : Blk W0 b t cs) (n : Nat) (vs : List Value) (W : World) (hn : n < 2) (h : apS W0 base g i v l q x (n + 1) (undef :: vs) W) : Blk W b t cs := apS_blk hb (n + 1) _ W (by omega) h
theorem CJ.olds2' {V O : Nat → Value → Prop} {ks : List Nat} {S : Nat → List Value → World → Prop} {d : Nat → Bool} {u : Nat → Value} {W : World} {I : World → Prop} (h : CJ V O ks S d u W) (m : Nat) {k : Nat} (hk : ks[m]? = some k) (hd : d k = false) (hq : ∀ n l W, n < m + 1 → S n l W → I W) : I W := by
  obtain ⟨n, hn, hS⟩ := h.chain
  refine hq n _ W ?_ hS
  rcases Nat.lt_or_ge m n with h1 | h1
  · have := (hn m k hk).2 h1
    rw [hd] at this
    cases this
  · omega
/-- one of the three rows has grown -/
def RF.grew (r : RF) (i : Nat) (q : Int) (x : ByteArray) : RF := match i with
  | 4 => { r with k := r.k ++ [(q, x)] }
  | 5 => { r with t := r.t ++ [(q, x)] }
  | _ => { r with s := r.s ++ [(q, x)] }
def RF.row (r : RF) (i : Nat) : KL := match i with
  | 4 => r.k
  | 5 => r.t
  | _ => r.s
def rowV (v4 v5 v6 : Value) (i : Nat) : Value := match i with
  | 4 => v4
  | 5 => v5
  | _ => v6
/-- where all is done -/
theorem apS_fin {W0 W : World} {base g i : Nat} {v4 v5 v6 : Value} {r : RF} {q : Int} {x : ByteArray} (F : RFAt W0 base g v4 v5 v6 r) (hi : i = 4 ∨ i = 5 ∨ i = 6) {vs : List Value} (h : apS W0 base g i (rowV v4 v5 v6 i) (r.row i) q x 4 vs W) :
    ∃ u4 u5 u6, RFAt W base g u4 u5 u6 (r.grew i q x) ∧ Only (rbl g v4 v5 v6) W0 W := by
  obtain ⟨W1, v', W3, h1, p, rfl⟩ := h
  have F1 := F.below h1
  have hS : ∀ {S : List Nat} {W' : World}, Only S W1 W' → Only S W0 W' := fun ho => (Only.of_below h1).trans ho
  rcases hi with rfl | rfl | rfl
  · obtain ⟨a, b⟩ := F1.push4 p
    exact ⟨_, _, _, a, hS b⟩
  · obtain ⟨a, b⟩ := F1.push5 p
    exact ⟨_, _, _, a, hS b⟩
  · obtain ⟨a, b⟩ := F1.push6 p
    exact ⟨_, _, _, a, hS b⟩
def rcvV (g B : Nat) (v5 : Value) (q : Int) (i : Nat) (v : Value) : Prop := match i with
  | 0 => v = .pointer (some ⟨g, 0, none⟩)
  | 1 => v = .pointer (some ⟨g, 0, none⟩)
  | 2 => v = .pointer (some ⟨g, 0, none⟩)
  | 3 => v = .pointer (some ⟨g, 5, none⟩)
  | 4 => v = v5
  | 5 => v = .pointer (some ⟨B, 0, none⟩)
  | 6 => v = .int .u64 q
  | 7 => v = .agg #[.int .u64 q, .string ⟨#[]⟩]
  | 10 => v = .pointer (some ⟨g, 0, none⟩)
  | 11 => v = .pointer (some ⟨g, 5, none⟩)
  | _ => True
set_option maxHeartbeats 1000000 in
theorem rrecv_late (w : World) (g : Nat) (p : Pk) (h : Int) (hl : lateB p h = true) :
    Calls Tryd.prog 39 #[.pointer (some ⟨g, 0, none⟩), p.v, .int .u64 h] w fun e w' => e = .returned (.int .i64 182) ∧ Below w.heap.size w w' := by
  obtain ⟨sq, fr, to_, dt, tm⟩ := p
  simp only [lateB, Bool.and_eq_true] at hl
  obtain ⟨t0, t1⟩ := hl
  have t0' : (tm != 0) = true := t0
  have t1' : decide (tm ≤ h) = true := t1
  clear t0 t1
  show Calls Tryd.prog 39 #[.pointer (some ⟨g, 0, none⟩), .agg #[.int .u64 sq, .int .u64 fr, .int .u64 to_, .string dt, .int .u64 tm], .int .u64 h] w _
  go_enter Tryd.func39, Tryd.ntmps39
  go_wp2_with fail
  go_ret
  exact ⟨rfl, balloc (Below.refl _ w) _⟩
set_option maxRecDepth 100000 in
set_option maxHeartbeats 2000000 in
theorem rrecv_ord (w : World) (base g : Nat) (v4 v5 v6 : Value) (r : RF) (p : Pk) (h : Int) (F : RFAt w base g v4 v5 v6 r) (hl : lateB p h = false) (hle : r.t.length ≤ 1000) (ho : r.o = true) (hk : p.seq = r.R) :
    Calls Tryd.prog 39 #[.pointer (some ⟨g, 0, none⟩), p.v, .int .u64 h] w fun e w' => e = .returned (.int .i64 0) ∧ RFAt w' base g v4 v5 v6 { r with R := IntKind.u64.wrap (r.R + 1) } ∧ ∃ S, RBs w base S ∧ Only S w w' := by
  obtain ⟨sq, fr, to_, dt, tm⟩ := p
  have hk' : sq = r.R := hk
  have HK0 := Lib.hid hk'
  clear hk hk'
  have hL : (tm != 0) = false ∨ ((tm != 0) = true ∧ decide (tm ≤ h) = false) := not_late hl
  clear hl
  have HF := Lib.hid F
  clear F
  show Calls Tryd.prog 39 #[.pointer (some ⟨g, 0, none⟩), .agg #[.int .u64 sq, .int .u64 fr, .int .u64 to_, .string dt, .int .u64 tm], .int .u64 h] w _
  rcases hL with t0 | ⟨t0, t1⟩
  all_goals
    go_enter Tryd.func39, Tryd.ntmps39
    go_upto_region 3 with fail
    have hP := Blk.new w 24 #[.int .u64 sq, .int .u64 fr, .int .u64 to_, .string dt, .int .u64 tm]
    have HL1 := Lib.hid (balloc (Below.refl _ w) (.cells #[.int .u64 sq, .int .u64 fr, .int .u64 to_, .string dt, .int .u64 tm] 24))
    generalize w.alloc (.cells #[.int .u64 sq, .int .u64 fr, .int .u64 to_, .string dt, .int .u64 tm] 24) = w1 at hP HL1 ⊢
    have HF1 := Lib.hid (HF.out.below HL1.out)
    have HP := Lib.hid hP
    have p0 : w1.cell? ⟨w.heap.size, 0, none⟩ = some (.int .u64 sq) := hP.cell 0
    have c0 : w1.cell? ⟨g, 0, none⟩ = some (.bool r.o) := HF1.out.blk.cell 0
    have c2 : w1.cell? ⟨g, 2, none⟩ = some (.int .u64 r.R) := HF1.out.blk.cell 2
    have f2 := HF1.out.blk.frozen 2
    clear hP
    have t2 : (sq != r.R) = false := by simp [HK0.out]
    rw [ho] at c0
    clear ho
    go_wp2_with fail
    go_quiet (fail)
    have HR := Lib.hid ((HF1.out.below (below_drewN' (Below.refl _ w1) nq)).setN 2 (.int .u64 (IntKind.u64.wrap (r.R + 1))) { r with R := IntKind.u64.wrap (r.R + 1) } rfl rfl rfl rfl)
    have HO := Lib.hid ((Only.of_below (S := [g]) (below_drewN' HL1.out nq)).set_ (g := g) (i := 2) (by simp) (.int .u64 (IntKind.u64.wrap (r.R + 1))))
    go_wp2_with fail
    go_ret
    exact ⟨rfl, HR.out, [g], fun x hx => (by rw [show x = g by simpa using hx]; exact HF.out.bs g (mem_rbl.2 (.inl rfl))), HO.out⟩
set_option maxRecDepth 100000 in
set_option maxHeartbeats 2000000 in
theorem rrecv_ordno (w : World) (base g : Nat) (v4 v5 v6 : Value) (r : RF) (p : Pk) (h : Int) (F : RFAt w base g v4 v5 v6 r) (hl : lateB p h = false) (hle : r.t.length ≤ 1000) (ho : r.o = true) (hk : p.seq ≠ r.R) :
    Calls Tryd.prog 39 #[.pointer (some ⟨g, 0, none⟩), p.v, .int .u64 h] w fun e w' => e = .returned (.int .i64 183) ∧ Below w.heap.size w w' := by
  obtain ⟨sq, fr, to_, dt, tm⟩ := p
  have hk' : sq ≠ r.R := hk
  have HK0 := Lib.hid hk'
  clear hk hk'
  have hL : (tm != 0) = false ∨ ((tm != 0) = true ∧ decide (tm ≤ h) = false) := not_late hl
  clear hl
  have HF := Lib.hid F
  clear F
  show Calls Tryd.prog 39 #[.pointer (some ⟨g, 0, none⟩), .agg #[.int .u64 sq, .int .u64 fr, .int .u64 to_, .string dt, .int .u64 tm], .int .u64 h] w _
  rcases hL with t0 | ⟨t0, t1⟩
  all_goals
    go_enter Tryd.func39, Tryd.ntmps39
    go_upto_region 3 with fail
    have hP := Blk.new w 24 #[.int .u64 sq, .int .u64 fr, .int .u64 to_, .string dt, .int .u64 tm]
    have HL1 := Lib.hid (balloc (Below.refl _ w) (.cells #[.int .u64 sq, .int .u64 fr, .int .u64 to_, .string dt, .int .u64 tm] 24))
    generalize w.alloc (.cells #[.int .u64 sq, .int .u64 fr, .int .u64 to_, .string dt, .int .u64 tm] 24) = w1 at hP HL1 ⊢
    have HF1 := Lib.hid (HF.out.below HL1.out)
    have HP := Lib.hid hP
    have p0 : w1.cell? ⟨w.heap.size, 0, none⟩ = some (.int .u64 sq) := hP.cell 0
    have c0 : w1.cell? ⟨g, 0, none⟩ = some (.bool r.o) := HF1.out.blk.cell 0
    have c2 : w1.cell? ⟨g, 2, none⟩ = some (.int .u64 r.R) := HF1.out.blk.cell 2
    have f2 := HF1.out.blk.frozen 2
    clear hP
    have t2 : (sq != r.R) = true := by simp [HK0.out]
    rw [ho] at c0
    clear ho
    go_wp2_with fail
    go_quiet (fail)
    go_wp2_with fail
    go_ret
    exact ⟨rfl, below_drewN' HL1.out nq⟩
set_option maxRecDepth 100000 in
set_option maxHeartbeats 2000000 in
theorem rrecv_unno (w : World) (base g : Nat) (v4 v5 v6 : Value) (r : RF) (p : Pk) (h : Int) (F : RFAt w base g v4 v5 v6 r) (hl : lateB p h = false) (hle : r.t.length ≤ 1000) (ho : r.o = false) (hk : p.seq = 0 ∨ (klook r.t p.seq).isSome = true) :
    Calls Tryd.prog 39 #[.pointer (some ⟨g, 0, none⟩), p.v, .int .u64 h] w fun e w' => e = .returned (.int .i64 184) ∧ Below w.heap.size w w' := by
  obtain ⟨sq, fr, to_, dt, tm⟩ := p
  have hk' : sq = 0 ∨ (klook r.t sq).isSome = true := hk
  have HK0 := Lib.hid hk'
  clear hk hk'
  have hL : (tm != 0) = false ∨ ((tm != 0) = true ∧ decide (tm ≤ h) = false) := not_late hl
  clear hl
  have HF := Lib.hid F
  clear F
  show Calls Tryd.prog 39 #[.pointer (some ⟨g, 0, none⟩), .agg #[.int .u64 sq, .int .u64 fr, .int .u64 to_, .string dt, .int .u64 tm], .int .u64 h] w _
  rcases hL with t0 | ⟨t0, t1⟩
  all_goals
    go_enter Tryd.func39, Tryd.ntmps39
    go_upto_region 3 with fail
    have hP := Blk.new w 24 #[.int .u64 sq, .int .u64 fr, .int .u64 to_, .string dt, .int .u64 tm]
    have HL1 := Lib.hid (balloc (Below.refl _ w) (.cells #[.int .u64 sq, .int .u64 fr, .int .u64 to_, .string dt, .int .u64 tm] 24))
    generalize w.alloc (.cells #[.int .u64 sq, .int .u64 fr, .int .u64 to_, .string dt, .int .u64 tm] 24) = w1 at hP HL1 ⊢
    have HF1 := Lib.hid (HF.out.below HL1.out)
    have HP := Lib.hid hP
    have p0 : w1.cell? ⟨w.heap.size, 0, none⟩ = some (.int .u64 sq) := hP.cell 0
    have c0 : w1.cell? ⟨g, 0, none⟩ = some (.bool r.o) := HF1.out.blk.cell 0
    have c2 : w1.cell? ⟨g, 2, none⟩ = some (.int .u64 r.R) := HF1.out.blk.cell 2
    have f2 := HF1.out.blk.frozen 2
    clear hP
    have c5 : w1.cell? ⟨g, 5, none⟩ = some v5 := HF1.out.blk.cell 5
    have HFind : Hid (∀ m, Calls Tryd.prog 77 #[v5, .int .u64 sq] (w1.drewN m) fun e w' => e = .returned (.int .i64 (findI r.t sq)) ∧ w' = w1.drewN m) := Lib.hid (fun m => (find_is (w1.drewN m) base v5 r.t sq (HF1.out.below (below_drewN' (Below.refl _ w1) m)).t hle).mono fun e w' ⟨h1, h2⟩ => ⟨h1, h2.symm⟩)
    obtain ⟨ao, cap, hv5, hc5⟩ := HF1.out.t.form
    rw [hv5] at c5 HFind
    rw [ho] at c0
    clear ho hc5
    by_cases h0 : sq = 0
    · have t2 : (sq == 0) = true := by simp [h0]
      clear h0
      go_wp2_with fail
      go_quiet ((go_at_call 77; exact Calls.quiet_of_same (HFind.out _)))
      go_wp2_with fail
      go_ret
      exact ⟨rfl, below_drewN' HL1.out nq⟩
    · have t2 : (sq == 0) = false := by simp [h0]
      have hT : decide (findI r.t sq ≥ 0) = true := by rw [findI_ge]; rcases HK0.out with h | h; exact absurd h h0; exact h
      clear h0
      generalize findI r.t sq = fi at hT HFind
      go_wp2_with fail
      go_quiet ((go_at_call 77; exact Calls.quiet_of_same (HFind.out _)))
      go_wp2_with fail
      go_ret
      exact ⟨rfl, below_drewN' HL1.out nq⟩
set_option maxRecDepth 100000 in
set_option maxHeartbeats 2000000 in
theorem rrecv_un (w : World) (base g : Nat) (v4 v5 v6 : Value) (r : RF) (p : Pk) (h : Int) (F : RFAt w base g v4 v5 v6 r) (hl : lateB p h = false) (hle : r.t.length ≤ 1000) (ho : r.o = false) (hk : ¬ (p.seq = 0 ∨ (klook r.t p.seq).isSome = true)) :
    Calls Tryd.prog 39 #[.pointer (some ⟨g, 0, none⟩), p.v, .int .u64 h] w fun e w' => e = .returned (.int .i64 0) ∧ ∃ u4 u5 u6, RFAt w' base g u4 u5 u6 { r with t := r.t ++ [(p.seq, ⟨#[]⟩)] } ∧ ∃ S, RBs w base S ∧ Only S w w' := by
  obtain ⟨sq, fr, to_, dt, tm⟩ := p
  have hk' : ¬ (sq = 0 ∨ (klook r.t sq).isSome = true) := hk
  have HK0 := Lib.hid hk'
  clear hk hk'
  have hL : (tm != 0) = false ∨ ((tm != 0) = true ∧ decide (tm ≤ h) = false) := not_late hl
  clear hl
  have HF := Lib.hid F
  clear F
  show Calls Tryd.prog 39 #[.pointer (some ⟨g, 0, none⟩), .agg #[.int .u64 sq, .int .u64 fr, .int .u64 to_, .string dt, .int .u64 tm], .int .u64 h] w _
  rcases hL with t0 | ⟨t0, t1⟩
  all_goals
    go_enter Tryd.func39, Tryd.ntmps39
    go_upto_region 3 with fail
    have hP := Blk.new w 24 #[.int .u64 sq, .int .u64 fr, .int .u64 to_, .string dt, .int .u64 tm]
    have HL1 := Lib.hid (balloc (Below.refl _ w) (.cells #[.int .u64 sq, .int .u64 fr, .int .u64 to_, .string dt, .int .u64 tm] 24))
    generalize w.alloc (.cells #[.int .u64 sq, .int .u64 fr, .int .u64 to_, .string dt, .int .u64 tm] 24) = w1 at hP HL1 ⊢
    have HF1 := Lib.hid (HF.out.below HL1.out)
    have HP := Lib.hid hP
    have p0 : w1.cell? ⟨w.heap.size, 0, none⟩ = some (.int .u64 sq) := hP.cell 0
    have c0 : w1.cell? ⟨g, 0, none⟩ = some (.bool r.o) := HF1.out.blk.cell 0
    have c2 : w1.cell? ⟨g, 2, none⟩ = some (.int .u64 r.R) := HF1.out.blk.cell 2
    have f2 := HF1.out.blk.frozen 2
    clear hP
    have c5 : w1.cell? ⟨g, 5, none⟩ = some v5 := HF1.out.blk.cell 5
    have HFind : Hid (∀ m, Calls Tryd.prog 77 #[v5, .int .u64 sq] (w1.drewN m) fun e w' => e = .returned (.int .i64 (findI r.t sq)) ∧ w' = w1.drewN m) := Lib.hid (fun m => (find_is (w1.drewN m) base v5 r.t sq (HF1.out.below (below_drewN' (Below.refl _ w1) m)).t hle).mono fun e w' ⟨h1, h2⟩ => ⟨h1, h2.symm⟩)
    obtain ⟨ao, cap, hv5, hc5⟩ := HF1.out.t.form
    rw [hv5] at c5 HFind
    rw [ho] at c0
    clear ho hc5
    have t2 : (sq == 0) = false := by have := HK0.out; simp at this ⊢; exact this.1
    have hT : decide (findI r.t sq ≥ 0) = false := by rw [findI_ge]; have := HK0.out; simp at this ⊢; exact this.2
    generalize findI r.t sq = fi at hT HFind
    go_wp2_with fail
    go_quiet ((go_at_call 77; exact Calls.quiet_of_same (HFind.out _)))
    have HL2 : Hid (Below w.heap.size w (w1.drewN nq).drew) := Lib.hid (below_drewN' HL1.out nq).drew
    have HF2 : Hid (RFAt (w1.drewN nq) base g v4 v5 v6 r) := Lib.hid (HF1.out.below (below_drewN' (Below.refl _ w1) nq))
    have HP0 : Hid (Blk (w1.drewN nq).drew w.heap.size 24 #[.int .u64 sq, .int .u64 fr, .int .u64 to_, .string dt, .int .u64 tm]) := Lib.hid HP.out
    clear p0 c0 c2 f2 c5 HF1 HP HFind HL1
    generalize w1.drewN nq = w2 at HF2 HP0 HL2 ⊢
    go_upto_region 10 with fail
    have HF0 : Hid (RFAt w2.drew base g v4 v5 v6 r) := Lib.hid (HF2.out.below (Below.refl _ w2).drew)
    have HB0 : Hid (Blk w2.drew g 106 (r.cs v4 v5 v6)) := Lib.hid HF0.out.blk
    have HBase : Hid (base ≤ w2.drew.heap.size) := Lib.hid (Nat.le_trans HF0.out.ge (Nat.le_of_lt HF0.out.blk.lt))
    have HLe : Hid (r.t.length ≤ 1000) := Lib.hid hle
    refine wp_abs fun a0 hA => ?_
    have h0 : a0.eval (.tmp 0) = .pointer (some ⟨g, 0, none⟩) := by rw [hA]; rfl
    have h4 : a0.eval (.tmp 4) = .pointer (some ⟨w.heap.size, 0, none⟩) := by rw [hA]; rfl
    have hz : a0.tmps.size = 59 := by rw [hA]; rfl
    refine wp_region_K [some 47, some 48, some 49, some 50, some 51, some 52, some 53, some 54, some 55, some 56, some 57, some 58, none] 59 (CJ (rcvV g w.heap.size v5 sq) (fun _ _ => True) [8, 9, 12] (fun n vs W => apS w2.drew base g 5 v5 r.t sq ⟨#[]⟩ (n + 1) (undef :: vs) W)) (by kernel_rfl) (by kernel_rfl) (by kernel_rfl) rfl (by kernel_rfl) hz (CJ.start (fun i => trivial) (Below.refl _ _)) ?_ ⟨?_, ?_, ?_, ?_, ?_, ?_, ?_, ?_, ?_, ?_, ?_, ?_, ?_, trivial⟩
    · intro d u W hd hJ
      have HS := Lib.hid (apS_fin (i := 5) HF0.out (by omega) (show apS w2.drew base g 5 v5 r.t sq ⟨#[]⟩ 4 _ W from hJ.fin 3 rfl (fun k hk => by simp at hk; rcases hk with rfl | rfl | rfl <;> exact hd _ (by decide)) apS_le3))
      rw [hA]
      simp only [putAll, Act.put, List.setIfInBounds_toArray, List.set_cons_zero, List.set_cons_succ]
      clear hJ hd h0 h4 hz hA
      clear a0
      go_wp2_with fail
      go_ret
      obtain ⟨u4, u5, u6, hR, hO⟩ := HS.out
      exact ⟨rfl, u4, u5, u6, hR, _, HF.out.bs, (Only.of_below HL2.out).trans hO⟩
    · exact KStep.plain rfl fun ρ d u W he hc hdi hd hJ => swp_val (run_move (he.o h0 rfl)) (hJ.pure 0 rfl rfl)
    · exact KStep.plain rfl fun ρ d u W he hc hdi hd hJ => swp_val (run_move (he.o h0 rfl)) (hJ.pure 1 rfl rfl)
    · exact KStep.plain rfl fun ρ d u W he hc hdi hd hJ => swp_val (run_nilCheck (he.i hz (hJ.vals 1 (hd 1 (by kernel_rfl))) (j := 1) (d := 48) rfl (by decide))) (hJ.pure 2 rfl rfl)
    · exact KStep.plain rfl fun ρ d u W he hc hdi hd hJ => swp_val (run_fieldAddr (he.i hz (hJ.vals 2 (hd 2 (by kernel_rfl))) (j := 2) (d := 49) rfl (by decide)) (by go_simp)) (hJ.pure 3 rfl rfl)
    · exact KStep.plain rfl fun ρ d u W he hc hdi hd hJ => swp_val (run_load (he.i hz (hJ.vals 3 (hd 3 (by kernel_rfl))) (j := 3) (d := 50) rfl (by decide)) (ld_row ((hJ.olds2' 1 rfl (hc.notyet [4] (by kernel_rfl) rfl hdi) (apS_blk0 HB0.out)).cell 5) HF0.out.t.slc)) (hJ.pure 4 rfl rfl)
    · exact KStep.plain rfl fun ρ d u W he hc hdi hd hJ => swp_val (run_fieldAddr (he.o h4 rfl) (by go_simp)) (hJ.pure 5 rfl rfl)
    · exact KStep.plain rfl fun ρ d u W he hc hdi hd hJ => swp_val (run_load (he.i hz (hJ.vals 5 (hd 5 (by kernel_rfl))) (j := 5) (d := 52) rfl (by decide)) (ld_u ((hJ.olds2' 0 rfl (hc.notyet [7, 6] (by kernel_rfl) rfl hdi) (fun n l W hn => apS_blk0 HP0.out n l W (by omega))).cell 0))) (hJ.pure 6 rfl rfl)
    · exact KStep.plain rfl fun ρ d u W he hc hdi hd hJ => swp_val (run_build #[(0, .int .u64 sq)] (pairs1 (he.i hz (hJ.vals 6 (hd 6 (by kernel_rfl))) (j := 6) (d := 53) rfl (by decide))) (bld_kept1 _ W)) (hJ.pure 7 rfl rfl)
    · refine KStep.plain rfl fun ρ d u W he hc hdi hd hJ => ?_
      have hS : Below w2.drew.heap.size w2.drew W := hJ.at_ 0 rfl hdi (fun j h => by omega)
      exact swp_val (run_bslice (v := .slice (some ⟨W.heap.size, 0, none⟩) 1 1) #[(0, .agg #[.int .u64 sq, .string ⟨#[]⟩])] (pairs1 (he.i hz (hJ.vals 7 (hd 7 (by kernel_rfl))) (j := 7) (d := 54) rfl (by decide))) (bsl_kept sq ⟨#[]⟩ W)) (hJ.go 0 rfl hdi (by decide) (fun j h => by omega) trivial ⟨W, hS, rfl, rfl⟩)
    · refine KStep.plain rfl fun ρ d u W he hc hdi hd hJ => ?_
      obtain ⟨W1, hb1, hW, hu⟩ := hJ.at_ 1 rfl hdi (fun j h => by cases h; exact ⟨8, rfl, hd 8 (by kernel_rfl)⟩)
      subst hW
      have hu' : u 8 = .slice (some ⟨W1.heap.size, 0, none⟩) 1 1 := hu
      obtain ⟨v', w3, hr3, hp3⟩ := app_kept (HF0.out.below hb1).t HLe.out (Nat.le_trans HBase.out hb1.size) sq ⟨#[]⟩
      exact swp_val (run_app (he.i hz (hJ.vals 4 (hd 4 (by kernel_rfl))) (j := 4) (d := 51) rfl (by decide)) (he.i hz hu' (j := 8) (d := 55) rfl (by decide)) hr3) (hJ.go 1 rfl hdi (by decide) (fun j h => by cases h; exact ⟨8, rfl, hd 8 (by kernel_rfl)⟩) trivial ⟨W1, hb1, hp3⟩)
    · exact KStep.plain rfl fun ρ d u W he hc hdi hd hJ => swp_val (run_nilCheck (he.i hz (hJ.vals 0 (hd 0 (by kernel_rfl))) (j := 0) (d := 47) rfl (by decide))) (hJ.pure 10 rfl rfl)
    · exact KStep.plain rfl fun ρ d u W he hc hdi hd hJ => swp_val (run_fieldAddr (he.i hz (hJ.vals 10 (hd 10 (by kernel_rfl))) (j := 10) (d := 57) rfl (by decide)) (by go_simp)) (hJ.pure 11 rfl rfl)
    · refine KStep.plain rfl fun ρ d u W he hc hdi hd hJ => ?_
      obtain ⟨W1, hb1, hp3⟩ := hJ.at_ 2 rfl hdi (fun j h => by cases h; exact ⟨9, rfl, hd 9 (by kernel_rfl)⟩)
      have hp : Pushed W1 W base (keptO sq ⟨#[]⟩) v5 r.t sq ⟨#[]⟩ (u 9) := hp3
      have hB : Blk W g 106 (r.cs v4 v5 v6) := (HF0.out.below hb1).blk.only hp.only (fun hx => HF0.out.ne5 g (by simpa using hx) rfl)
      exact swp_skip (run_store (he.i hz (hJ.vals 11 (hd 11 (by kernel_rfl))) (j := 11) (d := 58) rfl (by decide)) (he.i hz (rfl : u 9 = u 9) (j := 9) (d := 56) rfl (by decide)) (st_row (hB.cell 5) (hB.frozen 5) HF0.out.t.slc hp.slc)) (hJ.go 2 rfl hdi (by decide) (fun j h => by cases h; exact ⟨9, rfl, hd 9 (by kernel_rfl)⟩) trivial ⟨W1, _, W, hb1, hp, rfl⟩)
set_option maxRecDepth 100000 in
set_option maxHeartbeats 2000000 in
theorem rwrite_none (w : World) (G : GlobR w) (base g n : Nat) (v4 v5 v6 : Value) (r : RF) (k : Int) (a : ByteArray) (F : RFAt w base g v4 v5 v6 r) (hO : r.ok n) (hn : n ≤ 1000) (hk : u64r k) (ha : a.size ≤ 140737488351232) (hc : r.fl.came k = false) :
    Calls Tryd.prog 40 #[.pointer (some ⟨g, 0, none⟩), .int .u64 k, .string a] w fun e w' => e = .returned (.int .i64 185) ∧ w = w' := by
  have HF := Lib.hid F
  have hle : r.s.length ≤ 1000 := Nat.le_trans hO.sl hn
  have HC := Lib.hid (rcame_is w base g n r.fl k ⟨v4, v5, v6, r, F, hO, rfl⟩ hn hk)
  have c6 : w.cell? ⟨g, 6, none⟩ = some v6 := F.blk.cell 6
  have HFind := Lib.hid (find_is w base v6 r.s k F.s hle)
  obtain ⟨ao, cap, hv6, hc6⟩ := F.s.form
  rw [hv6] at c6 HFind
  rw [hc] at HC
  clear hc6 hc F hO
  clear HFind
  go_enter Tryd.func40, Tryd.ntmps40
  go_wp2_with fail
  refine HC.out.mono ?_
  rintro e w1 ⟨rfl, rfl⟩
  go_wp2_with fail
  go_ret
  exact ⟨rfl, rfl⟩
set_option maxRecDepth 100000 in
set_option maxHeartbeats 2000000 in
theorem rwrite_twice (w : World) (G : GlobR w) (base g n : Nat) (v4 v5 v6 : Value) (r : RF) (k : Int) (a : ByteArray) (F : RFAt w base g v4 v5 v6 r) (hO : r.ok n) (hn : n ≤ 1000) (hk : u64r k) (ha : a.size ≤ 140737488351232) (hc : r.fl.came k = true) (hw : (klook r.s k).isSome = true) :
    Calls Tryd.prog 40 #[.pointer (some ⟨g, 0, none⟩), .int .u64 k, .string a] w fun e w' => e = .returned (.int .i64 184) ∧ w = w' := by
  have HF := Lib.hid F
  have hle : r.s.length ≤ 1000 := Nat.le_trans hO.sl hn
  have HC := Lib.hid (rcame_is w base g n r.fl k ⟨v4, v5, v6, r, F, hO, rfl⟩ hn hk)
  have c6 : w.cell? ⟨g, 6, none⟩ = some v6 := F.blk.cell 6
  have HFind := Lib.hid (find_is w base v6 r.s k F.s hle)
  obtain ⟨ao, cap, hv6, hc6⟩ := F.s.form
  rw [hv6] at c6 HFind
  rw [hc] at HC
  clear hc6 hc F hO
  have hT : decide (findI r.s k ≥ 0) = true := by rw [findI_ge]; exact hw
  clear hw
  generalize findI r.s k = fi at hT HFind
  go_enter Tryd.func40, Tryd.ntmps40
  go_wp2_with fail
  refine HC.out.mono ?_
  rintro e w1 ⟨rfl, rfl⟩
  go_wp2_with fail
  refine HFind.out.mono ?_
  rintro e w1 ⟨rfl, rfl⟩
  go_wp2_with fail
  go_ret
  exact ⟨rfl, rfl⟩
def wrtV (g : Nat) (v6 : Value) (q : Int) (a ax : ByteArray) (i : Nat) (v : Value) : Prop := match i with
  | 0 => v = .pointer (some ⟨g, 0, none⟩)
  | 1 => v = .pointer (some ⟨g, 0, none⟩)
  | 2 => v = .pointer (some ⟨g, 0, none⟩)
  | 3 => v = .pointer (some ⟨g, 6, none⟩)
  | 4 => v = v6
  | 5 => v = .int .u64 q
  | 6 => v = .string a
  | 7 => v = .string ax
  | 8 => v = .agg #[.int .u64 q, .string ax]
  | 11 => v = .pointer (some ⟨g, 0, none⟩)
  | 12 => v = .pointer (some ⟨g, 6, none⟩)
  | _ => True
set_option maxRecDepth 100000 in
set_option maxHeartbeats 2000000 in
theorem rwrite_ok (w : World) (G : GlobR w) (base g n : Nat) (v4 v5 v6 : Value) (r : RF) (k : Int) (a : ByteArray) (F : RFAt w base g v4 v5 v6 r) (hO : r.ok n) (hn : n ≤ 1000) (hk : u64r k) (ha : a.size ≤ 140737488351232) (hc : r.fl.came k = true) (hw : (klook r.s k).isSome = false) :
    Calls Tryd.prog 40 #[.pointer (some ⟨g, 0, none⟩), .int .u64 k, .string a] w fun e w' => e = .returned (.int .i64 0) ∧ ∃ u4 u5 u6, RFAt w' base g u4 u5 u6 { r with s := r.s ++ [(k, ansB a)] } ∧ ∃ S, RBs w base S ∧ Only S w w' := by
  have HF := Lib.hid F
  have hle : r.s.length ≤ 1000 := Nat.le_trans hO.sl hn
  have HC := Lib.hid (rcame_is w base g n r.fl k ⟨v4, v5, v6, r, F, hO, rfl⟩ hn hk)
  have c6 : w.cell? ⟨g, 6, none⟩ = some v6 := F.blk.cell 6
  have HFind := Lib.hid (find_is w base v6 r.s k F.s hle)
  obtain ⟨ao, cap, hv6, hc6⟩ := F.s.form
  rw [hv6] at c6 HFind
  rw [hc] at HC
  clear hc6 hc F hO
  have hT : decide (findI r.s k ≥ 0) = false := by rw [findI_ge]; exact hw
  clear hw
  generalize findI r.s k = fi at hT HFind
  obtain ⟨ax, hax⟩ : ∃ ax, ansB a = ax := ⟨_, rfl⟩
  have HAx := Lib.hid hax
  have HA := Lib.hid ha
  have HGd : Hid (GlobR w.drew) := Lib.hid (G.below (Below.refl _ w).drew G.four)
  clear hax ha G
  go_enter Tryd.func40, Tryd.ntmps40
  go_wp2_with fail
  refine HC.out.mono ?_
  rintro e w1 ⟨rfl, rfl⟩
  go_wp2_with fail
  refine HFind.out.mono ?_
  rintro e w1 ⟨rfl, rfl⟩
  clear HFind HC c6
  go_upto_region 6 with fail
  have HF0 : Hid (RFAt w.drew base g v4 v5 v6 r) := Lib.hid (HF.out.below (Below.refl _ w).drew)
  have HB0 : Hid (Blk w.drew g 106 (r.cs v4 v5 v6)) := Lib.hid HF0.out.blk
  have HBase : Hid (base ≤ w.drew.heap.size) := Lib.hid (Nat.le_trans HF0.out.ge (Nat.le_of_lt HF0.out.blk.lt))
  have HLe : Hid (r.s.length ≤ 1000) := Lib.hid hle
  refine wp_abs fun a0 hA => ?_
  have h0 : a0.eval (.tmp 0) = .pointer (some ⟨g, 0, none⟩) := by rw [hA]; rfl
  have h1 : a0.eval (.tmp 1) = .int .u64 k := by rw [hA]; rfl
  have h2 : a0.eval (.tmp 2) = .string a := by rw [hA]; rfl
  have hz : a0.tmps.size = 33 := by rw [hA]; rfl
  refine wp_region_K [some 20, some 21, some 22, some 23, some 24, some 25, some 26, some 27, some 28, some 29, some 30, some 31, some 32, none] 33 (CJ (wrtV g v6 k a ax) (fun _ _ => True) [7, 9, 10, 13] (apS w.drew base g 6 v6 r.s k ax)) (by kernel_rfl) (by kernel_rfl) (by kernel_rfl) rfl (by kernel_rfl) hz (CJ.start (fun i => trivial) (Below.refl _ _)) ?_ ⟨?_, ?_, ?_, ?_, ?_, ?_, ?_, ?_, ?_, ?_, ?_, ?_, ?_, ?_, trivial⟩
  · intro d u W hd hJ
    have HS := Lib.hid (apS_fin (i := 6) HF0.out (by omega) (show apS w.drew base g 6 v6 r.s k ax 4 _ W from hJ.fin 4 rfl (fun k hk => by simp at hk; rcases hk with rfl | rfl | rfl | rfl <;> exact hd _ (by decide)) apS_le))
    rw [hA]
    simp only [putAll, Act.put, List.setIfInBounds_toArray, List.set_cons_zero, List.set_cons_succ]
    clear hJ hd h0 h1 h2 hz hA
    clear a0
    go_wp2_with fail
    go_ret
    obtain ⟨u4, u5, u6, hR, hO⟩ := HS.out
    exact ⟨rfl, u4, u5, u6, by rw [HAx.out]; exact hR, _, HF.out.bs, (Only.of_below (Below.refl _ w).drew).trans hO⟩
  · exact KStep.plain rfl fun ρ d u W he hc hdi hd hJ => swp_val (run_move (he.o h0 rfl)) (hJ.pure 0 rfl rfl)
  · exact KStep.plain rfl fun ρ d u W he hc hdi hd hJ => swp_val (run_move (he.o h0 rfl)) (hJ.pure 1 rfl rfl)
  · exact KStep.plain rfl fun ρ d u W he hc hdi hd hJ => swp_val (run_nilCheck (he.i hz (hJ.vals 1 (hd 1 (by kernel_rfl))) (j := 1) (d := 21) rfl (by decide))) (hJ.pure 2 rfl rfl)
  · exact KStep.plain rfl fun ρ d u W he hc hdi hd hJ => swp_val (run_fieldAddr (he.i hz (hJ.vals 2 (hd 2 (by kernel_rfl))) (j := 2) (d := 22) rfl (by decide)) (by go_simp)) (hJ.pure 3 rfl rfl)
  · exact KStep.plain rfl fun ρ d u W he hc hdi hd hJ => swp_val (run_load (he.i hz (hJ.vals 3 (hd 3 (by kernel_rfl))) (j := 3) (d := 23) rfl (by decide)) (ld_row ((hJ.olds2' 2 rfl (hc.notyet [4] (by kernel_rfl) rfl hdi) (apS_blk HB0.out)).cell 6) HF0.out.s.slc)) (hJ.pure 4 rfl rfl)
  · exact KStep.plain rfl fun ρ d u W he hc hdi hd hJ => swp_val (run_move (he.o h1 rfl)) (hJ.pure 5 rfl rfl)
  · exact KStep.plain rfl fun ρ d u W he hc hdi hd hJ => swp_val (run_move (he.o h2 rfl)) (hJ.pure 6 rfl rfl)
  · refine KStep.plain rfl fun ρ d u W he hc hdi hd hJ => ?_
    have hS : Below w.drew.heap.size w.drew W := hJ.at_ 0 rfl hdi (fun j h => by omega)
    exact swp_call (run_call #[.string a] (he.func _) (by kernel_rfl) (map1 (he.i hz (hJ.vals 6 (hd 6 (by kernel_rfl))) (j := 6) (d := 26) rfl (by decide)))) (rans_is a W (HGd.out.below hS HGd.out.four) HA.out) (fun e W' h => ⟨_, by rw [h.1, HAx.out], hJ.go 0 rfl hdi (by decide) (fun j h => by omega) rfl (bstep hS h.2)⟩)
  · exact KStep.plain rfl fun ρ d u W he hc hdi hd hJ => swp_val (run_build #[(0, .int .u64 k), (1, .string ax)] (pairs2 (he.i hz (hJ.vals 5 (hd 5 (by kernel_rfl))) (j := 5) (d := 25) rfl (by decide)) (he.i hz (hJ.vals 7 (hd 7 (by kernel_rfl))) (j := 7) (d := 27) rfl (by decide))) (bld_kept2 _ _ W)) (hJ.pure 8 rfl rfl)
  · refine KStep.plain rfl fun ρ d u W he hc hdi hd hJ => ?_
    have hS : Below w.drew.heap.size w.drew W := hJ.at_ 1 rfl hdi (fun j h => by cases h; exact ⟨7, rfl, hc.path 8 [7] (by kernel_rfl) (hd 8 (by kernel_rfl)) 7 rfl⟩)
    exact swp_val (run_bslice (v := .slice (some ⟨W.heap.size, 0, none⟩) 1 1) #[(0, .agg #[.int .u64 k, .string ax])] (pairs1 (he.i hz (hJ.vals 8 (hd 8 (by kernel_rfl))) (j := 8) (d := 28) rfl (by decide))) (bsl_kept k ax W)) (hJ.go 1 rfl hdi (by decide) (fun j h => by cases h; exact ⟨7, rfl, hc.path 8 [7] (by kernel_rfl) (hd 8 (by kernel_rfl)) 7 rfl⟩) trivial ⟨W, hS, rfl, rfl⟩)
  · refine KStep.plain rfl fun ρ d u W he hc hdi hd hJ => ?_
    obtain ⟨W1, hb1, hW, hu⟩ := hJ.at_ 2 rfl hdi (fun j h => by cases h; exact ⟨9, rfl, hd 9 (by kernel_rfl)⟩)
    subst hW
    have hu' : u 9 = .slice (some ⟨W1.heap.size, 0, none⟩) 1 1 := hu
    obtain ⟨v', w3, hr3, hp3⟩ := app_kept (HF0.out.below hb1).s HLe.out (Nat.le_trans HBase.out hb1.size) k ax
    exact swp_val (run_app (he.i hz (hJ.vals 4 (hd 4 (by kernel_rfl))) (j := 4) (d := 24) rfl (by decide)) (he.i hz hu' (j := 9) (d := 29) rfl (by decide)) hr3) (hJ.go 2 rfl hdi (by decide) (fun j h => by cases h; exact ⟨9, rfl, hd 9 (by kernel_rfl)⟩) trivial ⟨W1, hb1, hp3⟩)
  · exact KStep.plain rfl fun ρ d u W he hc hdi hd hJ => swp_val (run_nilCheck (he.i hz (hJ.vals 0 (hd 0 (by kernel_rfl))) (j := 0) (d := 20) rfl (by decide))) (hJ.pure 11 rfl rfl)
  · exact KStep.plain rfl fun ρ d u W he hc hdi hd hJ => swp_val (run_fieldAddr (he.i hz (hJ.vals 11 (hd 11 (by kernel_rfl))) (j := 11) (d := 31) rfl (by decide)) (by go_simp)) (hJ.pure 12 rfl rfl)
  · refine KStep.plain rfl fun ρ d u W he hc hdi hd hJ => ?_
    obtain ⟨W1, hb1, hp3⟩ := hJ.at_ 3 rfl hdi (fun j h => by cases h; exact ⟨10, rfl, hd 10 (by kernel_rfl)⟩)
    have hp : Pushed W1 W base (keptO k ax) v6 r.s k ax (u 10) := hp3
    have hB : Blk W g 106 (r.cs v4 v5 v6) := (HF0.out.below hb1).blk.only hp.only (fun hx => HF0.out.ne6 g (by simpa using hx) rfl)
    exact swp_skip (run_store (he.i hz (hJ.vals 12 (hd 12 (by kernel_rfl))) (j := 12) (d := 32) rfl (by decide)) (he.i hz (rfl : u 10 = u 10) (j := 10) (d := 30) rfl (by decide)) (st_row (hB.cell 6) (hB.frozen 6) HF0.out.s.slc hp.slc)) (hJ.go 3 rfl hdi (by decide) (fun j h => by cases h; exact ⟨10, rfl, hd 10 (by kernel_rfl)⟩) trivial ⟨W1, _, W, hb1, hp, rfl⟩)
set_option maxHeartbeats 1000000 in
theorem rsend_long (w : World) (g : Nat) (fr to_ tm : Int) (dt : ByteArray) (hd : 400 < dt.size) (hd2 : dt.size ≤ 140737488351232) :
    Calls Tryd.prog 38 #[.pointer (some ⟨g, 0, none⟩), .int .u64 fr, .int .u64 to_, .string dt, .int .u64 tm] w fun e w' => e = .returned (.tuple #[Pk.zero.v, .int .i64 181]) ∧ Below w.heap.size w w' := by
  go_enter Tryd.func38, Tryd.ntmps38
  go_wp2_with fail
  refine bodyPost_ret (v := .tuple #[Pk.zero.v, .int .i64 181]) (by simp [results, Tryd.results38, go_sem, Pk.zero, Pk.v]) rfl ⟨rfl, ?_⟩
  exact balloc (Below.refl _ w) _
def sndV (g B : Nat) (v4 : Value) (q fr to_ tm : Int) (dt cx : ByteArray) (i : Nat) (v : Value) : Prop := match i with
  | 0 => v = .pointer (some ⟨g, 0, none⟩)
  | 1 => v = .pointer (some ⟨g, 0, none⟩)
  | 2 => v = .pointer (some ⟨g, 0, none⟩)
  | 3 => v = .pointer (some ⟨g, 4, none⟩)
  | 4 => v = v4
  | 5 => v = .pointer (some ⟨g, 0, none⟩)
  | 6 => v = .pointer (some ⟨g, 0, none⟩)
  | 7 => v = .pointer (some ⟨g, 1, none⟩)
  | 8 => v = .int .u64 q
  | 9 => v = .agg #[.int .u64 q, .int .u64 fr, .int .u64 to_, .string dt, .int .u64 tm]
  | 10 => v = .string cx
  | 11 => v = .agg #[.int .u64 q, .string cx]
  | 14 => v = .pointer (some ⟨g, 0, none⟩)
  | 15 => v = .pointer (some ⟨g, 4, none⟩)
  | _ => True
set_option maxRecDepth 100000 in
set_option maxHeartbeats 2000000 in
theorem rsend_ok (w : World) (G : GlobR w) (base g : Nat) (v4 v5 v6 : Value) (r : RF) (fr to_ tm : Int) (dt : ByteArray) (F : RFAt w base g v4 v5 v6 r) (hle : r.k.length ≤ 1000) (hp : (Pk.mk r.S fr to_ dt tm).ok) (hd : dt.size ≤ 400) :
    Calls Tryd.prog 38 #[.pointer (some ⟨g, 0, none⟩), .int .u64 fr, .int .u64 to_, .string dt, .int .u64 tm] w fun e w' => e = .returned (.tuple #[(Pk.mk r.S fr to_ dt tm).v, .int .i64 0]) ∧ ∃ u4 u5 u6, RFAt w' base g u4 u5 u6 { r with k := r.k ++ [(r.S, (Pk.mk r.S fr to_ dt tm).comm)], S := IntKind.u64.wrap (r.S + 1) } ∧ ∃ S, RBs w base S ∧ Only S w w' := by
  obtain ⟨cx, hcx⟩ : ∃ cx, (Pk.mk r.S fr to_ dt tm).comm = cx := ⟨_, rfl⟩
  rw [hcx]
  have HCx := Lib.hid hcx
  have HPk := Lib.hid hp
  have HG := Lib.hid G
  have HF := Lib.hid F
  have c1 : (w.alloc (.cells #[.int .u64 0, .int .u64 0, .int .u64 0, .string ⟨#[]⟩, .int .u64 0] 24)).cell? ⟨g, 1, none⟩ = some (.int .u64 r.S) := (F.blk.alloc _).cell 1
  have hg := F.blk.lt
  clear hcx hp G F
  go_enter Tryd.func38, Tryd.ntmps38
  go_upto_region 4 with fail
  have hF1 := HF.out.below (balloc (balloc (Below.refl _ w) (.cells #[.int .u64 0, .int .u64 0, .int .u64 0, .string ⟨#[]⟩, .int .u64 0] 24)) (.cells #[.int .u64 r.S, .int .u64 fr, .int .u64 to_, .string dt, .int .u64 tm] 24))
  have hR1 := (Blk.new w 24 #[.int .u64 0, .int .u64 0, .int .u64 0, .string ⟨#[]⟩, .int .u64 0]).alloc (.cells #[.int .u64 r.S, .int .u64 fr, .int .u64 to_, .string dt, .int .u64 tm] 24)
  have hP1 := Blk.new (w.alloc (.cells #[.int .u64 0, .int .u64 0, .int .u64 0, .string ⟨#[]⟩, .int .u64 0] 24)) 24 #[.int .u64 r.S, .int .u64 fr, .int .u64 to_, .string dt, .int .u64 tm]
  have hL1 := balloc (balloc (Below.refl _ w) (.cells #[.int .u64 0, .int .u64 0, .int .u64 0, .string ⟨#[]⟩, .int .u64 0] 24)) (.cells #[.int .u64 r.S, .int .u64 fr, .int .u64 to_, .string dt, .int .u64 tm] 24)
  rw [show (w.alloc (.cells #[.int .u64 0, .int .u64 0, .int .u64 0, .string ⟨#[]⟩, .int .u64 0] 24)).heap.size = w.heap.size + 1 by simp] at hP1
  generalize (w.alloc (.cells #[.int .u64 0, .int .u64 0, .int .u64 0, .string ⟨#[]⟩, .int .u64 0] 24)).alloc (.cells #[.int .u64 r.S, .int .u64 fr, .int .u64 to_, .string dt, .int .u64 tm] 24) = w1 at hF1 hR1 hP1 hL1 ⊢
  have HF2 := Lib.hid hF1
  have HR1 := Lib.hid hR1
  have HP1 := Lib.hid hP1
  have HL1 := Lib.hid hL1
  have HGd := Lib.hid (HG.out.below hL1.drew HG.out.four)
  have HP0 : Hid (Blk w1.drew (w.heap.size + 1) 24 #[.int .u64 r.S, .int .u64 fr, .int .u64 to_, .string dt, .int .u64 tm]) := Lib.hid hP1
  clear hF1 hR1 hP1 hL1 c1
  have HF0 : Hid (RFAt w1.drew base g v4 v5 v6 r) := Lib.hid (HF2.out.below (Below.refl _ w1).drew)
  have HB0 : Hid (Blk w1.drew g 106 (r.cs v4 v5 v6)) := Lib.hid HF0.out.blk
  have HBase : Hid (base ≤ w1.drew.heap.size) := Lib.hid (Nat.le_trans HF0.out.ge (Nat.le_of_lt HF0.out.blk.lt))
  have HLe : Hid (r.k.length ≤ 1000) := Lib.hid hle
  refine wp_abs fun a0 hA => ?_
  have h0 : a0.eval (.tmp 0) = .pointer (some ⟨g, 0, none⟩) := by rw [hA]; rfl
  have h12 : a0.eval (.tmp 12) = .pointer (some ⟨w.heap.size + 1, 0, none⟩) := by rw [hA]; rfl
  have hz : a0.tmps.size = 50 := by rw [hA]; rfl
  refine wp_region_K [some 26, some 27, some 28, some 29, some 30, some 31, some 32, some 33, some 34, some 35, some 36, some 37, some 38, some 39, some 40, some 41, none] 50 (CJ (sndV g (w.heap.size + 1) v4 r.S fr to_ tm dt cx) (fun _ _ => True) [10, 12, 13, 16] (apS w1.drew base g 4 v4 r.k r.S cx)) (by kernel_rfl) (by kernel_rfl) (by kernel_rfl) rfl (by kernel_rfl) hz (CJ.start (fun i => trivial) (Below.refl _ _)) ?_ ⟨?_, ?_, ?_, ?_, ?_, ?_, ?_, ?_, ?_, ?_, ?_, ?_, ?_, ?_, ?_, ?_, ?_, trivial⟩
  · intro d u W hd hJ
    have HS := Lib.hid (apS_fin (i := 4) HF0.out (by omega) (show apS w1.drew base g 4 v4 r.k r.S cx 4 _ W from hJ.fin 4 rfl (fun k hk => by simp at hk; rcases hk with rfl | rfl | rfl | rfl <;> exact hd _ (by decide)) apS_le))
    rw [hA]
    simp only [putAll, Act.put, List.setIfInBounds_toArray, List.set_cons_zero, List.set_cons_succ]
    clear hJ hd h0 h12 hz hA
    clear a0
    obtain ⟨u4, u5, u6, hR, hO⟩ := HS.out
    have hR' : RFAt W base g u4 u5 u6 { r with k := r.k ++ [(r.S, cx)] } := hR
    have HF3 := Lib.hid hR'
    have HO3 := Lib.hid ((Only.of_below HL1.out.drew).trans hO)
    have hnm : ∀ x, w.heap.size ≤ x → x ∉ rbl g v4 v5 v6 := fun x hx hm => by have := (HF.out.lt x hm).2; omega
    have HR3 := Lib.hid ((show Blk w1.drew w.heap.size _ _ from HR1.out).only hO (hnm _ (Nat.le_refl _)))
    have HP3 := Lib.hid ((show Blk w1.drew (w.heap.size + 1) _ _ from HP1.out).only hO (hnm _ (Nat.le_succ _)))
    have hlt : g < w.heap.size := HF.out.blk.lt
    clear hR hR' hO hnm HS HF0 HB0 HP0 HF2 HG HGd HP1 HR1 HL1
    generalize W = w3 at HF3 HO3 HR3 HP3 ⊢
    have HF4 := Lib.hid (HF3.out.setN 1 (.int .u64 (IntKind.u64.wrap (r.S + 1))) { r with k := r.k ++ [(r.S, cx)], S := IntKind.u64.wrap (r.S + 1) } rfl rfl rfl rfl)
    have HO4 := Lib.hid (HO3.out.set_ (g := g) (i := 1) (mem_rbl.2 (.inl rfl)) (.int .u64 (IntKind.u64.wrap (r.S + 1))))
    have HR4 := Lib.hid (HR3.out.other g 1 (.int .u64 (IntKind.u64.wrap (r.S + 1))) (by omega))
    have HP4 := Lib.hid (HP3.out.other g 1 (.int .u64 (IntKind.u64.wrap (r.S + 1))) (by omega))
    have c3 : w3.cell? ⟨g, 1, none⟩ = some (.int .u64 r.S) := HF3.out.blk.cell 1
    have f3 := HF3.out.blk.frozen 1
    go_upto_region 6 with fail
    generalize w3.setCell ⟨g, 1, none⟩ (.int .u64 (IntKind.u64.wrap (r.S + 1))) = w4 at HR4 HP4 HF4 HO4 ⊢
    have q0 : w4.cell? ⟨w.heap.size + 1, 0, none⟩ = some (.int .u64 r.S) := HP4.out.cell 0
    have q1 : w4.cell? ⟨w.heap.size + 1, 1, none⟩ = some (.int .u64 fr) := HP4.out.cell 1
    have q2 : w4.cell? ⟨w.heap.size + 1, 2, none⟩ = some (.int .u64 to_) := HP4.out.cell 2
    have q3 : w4.cell? ⟨w.heap.size + 1, 3, none⟩ = some (.string dt) := HP4.out.cell 3
    have q4 : w4.cell? ⟨w.heap.size + 1, 4, none⟩ = some (.int .u64 tm) := HP4.out.cell 4
    have HRow : Hid (w4.heap[w.heap.size]? = some (.cells #[.int .u64 0, .int .u64 0, .int .u64 0, .string ⟨#[]⟩, .int .u64 0] 24 (0, 0))) := Lib.hid HR4.out
    clear c3 f3
    go_wp2_with (refine wpList_store_row rfl 24 _ _ rfl w.heap.size #[.int .u64 r.S, .int .u64 fr, .int .u64 to_, .string dt, .int .u64 tm] rfl rfl _ _ HRow.out (by kernel_rfl) rfl (by simp [Value.oneCell']) ?_)
    have HB5 := Lib.hid (setRow_heap w4 w.heap.size _ #[.int .u64 r.S, .int .u64 fr, .int .u64 to_, .string dt, .int .u64 tm] 24 _ HRow.out)
    have HF5 := Lib.hid (HF4.out.only (S := [w.heap.size]) (Only.row w4 w.heap.size #[.int .u64 r.S, .int .u64 fr, .int .u64 to_, .string dt, .int .u64 tm]) (fun x hx hm => HF4.out.apart HR4.out (by decide) (by decide) (by rw [← show x = w.heap.size by simpa using hm]; exact hx)))
    have HO5 := Lib.hid (Only.below_row HO4.out #[.int .u64 r.S, .int .u64 fr, .int .u64 to_, .string dt, .int .u64 tm])
    refine bodyPost_ret (v := .tuple #[(Pk.mk r.S fr to_ dt tm).v, .int .i64 0]) ?_ rfl ⟨rfl, u4, u5, u6, HF5.out, _, HF.out.bs, HO5.out⟩
    have d0 := (show Blk (w4.setRow w.heap.size #[.int .u64 r.S, .int .u64 fr, .int .u64 to_, .string dt, .int .u64 tm]) w.heap.size 24 #[.int .u64 r.S, .int .u64 fr, .int .u64 to_, .string dt, .int .u64 tm] from HB5.out).cell 0
    have d1 := (show Blk (w4.setRow w.heap.size #[.int .u64 r.S, .int .u64 fr, .int .u64 to_, .string dt, .int .u64 tm]) w.heap.size 24 #[.int .u64 r.S, .int .u64 fr, .int .u64 to_, .string dt, .int .u64 tm] from HB5.out).cell 1
    have d2 := (show Blk (w4.setRow w.heap.size #[.int .u64 r.S, .int .u64 fr, .int .u64 to_, .string dt, .int .u64 tm]) w.heap.size 24 #[.int .u64 r.S, .int .u64 fr, .int .u64 to_, .string dt, .int .u64 tm] from HB5.out).cell 2
    have d3 := (show Blk (w4.setRow w.heap.size #[.int .u64 r.S, .int .u64 fr, .int .u64 to_, .string dt, .int .u64 tm]) w.heap.size 24 #[.int .u64 r.S, .int .u64 fr, .int .u64 to_, .string dt, .int .u64 tm] from HB5.out).cell 3
    have d4 := (show Blk (w4.setRow w.heap.size #[.int .u64 r.S, .int .u64 fr, .int .u64 to_, .string dt, .int .u64 tm]) w.heap.size 24 #[.int .u64 r.S, .int .u64 fr, .int .u64 to_, .string dt, .int .u64 tm] from HB5.out).cell 4
    simp at d0 d1 d2 d3 d4
    simp [results, Tryd.results38, go_sem, Pk.v, d0, d1, d2, d3, d4]
  · exact KStep.plain rfl fun ρ d u W he hc hdi hd hJ => swp_val (run_move (he.o h0 rfl)) (hJ.pure 0 rfl rfl)
  · exact KStep.plain rfl fun ρ d u W he hc hdi hd hJ => swp_val (run_move (he.o h0 rfl)) (hJ.pure 1 rfl rfl)
  · exact KStep.plain rfl fun ρ d u W he hc hdi hd hJ => swp_val (run_nilCheck (he.i hz (hJ.vals 1 (hd 1 (by kernel_rfl))) (j := 1) (d := 27) rfl (by decide))) (hJ.pure 2 rfl rfl)
  · exact KStep.plain rfl fun ρ d u W he hc hdi hd hJ => swp_val (run_fieldAddr (he.i hz (hJ.vals 2 (hd 2 (by kernel_rfl))) (j := 2) (d := 28) rfl (by decide)) (by go_simp)) (hJ.pure 3 rfl rfl)
  · exact KStep.plain rfl fun ρ d u W he hc hdi hd hJ => swp_val (run_load (he.i hz (hJ.vals 3 (hd 3 (by kernel_rfl))) (j := 3) (d := 29) rfl (by decide)) (ld_row ((hJ.olds2' 2 rfl (hc.notyet [4] (by kernel_rfl) rfl hdi) (apS_blk HB0.out)).cell 4) HF0.out.k.slc)) (hJ.pure 4 rfl rfl)
  · exact KStep.plain rfl fun ρ d u W he hc hdi hd hJ => swp_val (run_move (he.o h0 rfl)) (hJ.pure 5 rfl rfl)
  · exact KStep.plain rfl fun ρ d u W he hc hdi hd hJ => swp_val (run_nilCheck (he.i hz (hJ.vals 5 (hd 5 (by kernel_rfl))) (j := 5) (d := 31) rfl (by decide))) (hJ.pure 6 rfl rfl)
  · exact KStep.plain rfl fun ρ d u W he hc hdi hd hJ => swp_val (run_fieldAddr (he.i hz (hJ.vals 6 (hd 6 (by kernel_rfl))) (j := 6) (d := 32) rfl (by decide)) (by go_simp)) (hJ.pure 7 rfl rfl)
  · exact KStep.plain rfl fun ρ d u W he hc hdi hd hJ => swp_val (run_load (he.i hz (hJ.vals 7 (hd 7 (by kernel_rfl))) (j := 7) (d := 33) rfl (by decide)) (ld_u ((hJ.olds2' 1 rfl (hc.notyet [11, 8] (by kernel_rfl) rfl hdi) (fun n l W hn => apS_blk HB0.out n l W (by omega))).cell 1))) (hJ.pure 8 rfl rfl)
  · exact KStep.plain rfl fun ρ d u W he hc hdi hd hJ => swp_val (run_load (he.o h12 rfl) (ld_pk (hJ.olds2' 0 rfl (hc.notyet [9] (by kernel_rfl) rfl hdi) (fun n l W hn => apS_blk HP0.out n l W (by omega))))) (hJ.pure 9 rfl rfl)
  · refine KStep.plain rfl fun ρ d u W he hc hdi hd hJ => ?_
    have hS : Below w1.drew.heap.size w1.drew W := hJ.at_ 0 rfl hdi (fun j h => by omega)
    exact swp_call (run_call #[.agg #[.int .u64 r.S, .int .u64 fr, .int .u64 to_, .string dt, .int .u64 tm]] (he.func _) (by kernel_rfl) (map1 (he.i hz (hJ.vals 9 (hd 9 (by kernel_rfl))) (j := 9) (d := 35) rfl (by decide)))) (rcomm_is ⟨r.S, fr, to_, dt, tm⟩ W (HGd.out.below hS HGd.out.four) HPk.out) (fun e W' h => ⟨_, by rw [h.1, HCx.out], hJ.go 0 rfl hdi (by decide) (fun j h => by omega) rfl (bstep hS h.2)⟩)
  · exact KStep.plain rfl fun ρ d u W he hc hdi hd hJ => swp_val (run_build #[(0, .int .u64 r.S), (1, .string cx)] (pairs2 (he.i hz (hJ.vals 8 (hd 8 (by kernel_rfl))) (j := 8) (d := 34) rfl (by decide)) (he.i hz (hJ.vals 10 (hd 10 (by kernel_rfl))) (j := 10) (d := 36) rfl (by decide))) (bld_kept2 _ _ W)) (hJ.pure 11 rfl rfl)
  · refine KStep.plain rfl fun ρ d u W he hc hdi hd hJ => ?_
    have hS : Below w1.drew.heap.size w1.drew W := hJ.at_ 1 rfl hdi (fun j h => by cases h; exact ⟨10, rfl, hc.path 11 [10] (by kernel_rfl) (hd 11 (by kernel_rfl)) 10 rfl⟩)
    exact swp_val (run_bslice (v := .slice (some ⟨W.heap.size, 0, none⟩) 1 1) #[(0, .agg #[.int .u64 r.S, .string cx])] (pairs1 (he.i hz (hJ.vals 11 (hd 11 (by kernel_rfl))) (j := 11) (d := 37) rfl (by decide))) (bsl_kept r.S cx W)) (hJ.go 1 rfl hdi (by decide) (fun j h => by cases h; exact ⟨10, rfl, hc.path 11 [10] (by kernel_rfl) (hd 11 (by kernel_rfl)) 10 rfl⟩) trivial ⟨W, hS, rfl, rfl⟩)
  · refine KStep.plain rfl fun ρ d u W he hc hdi hd hJ => ?_
    obtain ⟨W1, hb1, hW, hu⟩ := hJ.at_ 2 rfl hdi (fun j h => by cases h; exact ⟨12, rfl, hd 12 (by kernel_rfl)⟩)
    subst hW
    have hu' : u 12 = .slice (some ⟨W1.heap.size, 0, none⟩) 1 1 := hu
    obtain ⟨v', w3, hr3, hp3⟩ := app_kept (HF0.out.below hb1).k HLe.out (Nat.le_trans HBase.out hb1.size) r.S cx
    exact swp_val (run_app (he.i hz (hJ.vals 4 (hd 4 (by kernel_rfl))) (j := 4) (d := 30) rfl (by decide)) (he.i hz hu' (j := 12) (d := 38) rfl (by decide)) hr3) (hJ.go 2 rfl hdi (by decide) (fun j h => by cases h; exact ⟨12, rfl, hd 12 (by kernel_rfl)⟩) trivial ⟨W1, hb1, hp3⟩)
  · exact KStep.plain rfl fun ρ d u W he hc hdi hd hJ => swp_val (run_nilCheck (he.i hz (hJ.vals 0 (hd 0 (by kernel_rfl))) (j := 0) (d := 26) rfl (by decide))) (hJ.pure 14 rfl rfl)
  · exact KStep.plain rfl fun ρ d u W he hc hdi hd hJ => swp_val (run_fieldAddr (he.i hz (hJ.vals 14 (hd 14 (by kernel_rfl))) (j := 14) (d := 40) rfl (by decide)) (by go_simp)) (hJ.pure 15 rfl rfl)
  · refine KStep.plain rfl fun ρ d u W he hc hdi hd hJ => ?_
    obtain ⟨W1, hb1, hp3⟩ := hJ.at_ 3 rfl hdi (fun j h => by cases h; exact ⟨13, rfl, hd 13 (by kernel_rfl)⟩)
    have hp : Pushed W1 W base (keptO r.S cx) v4 r.k r.S cx (u 13) := hp3
    have hB : Blk W g 106 (r.cs v4 v5 v6) := (HF0.out.below hb1).blk.only hp.only (fun hx => HF0.out.ne4 g (by simpa using hx) rfl)
    exact swp_skip (run_store (he.i hz (hJ.vals 15 (hd 15 (by kernel_rfl))) (j := 15) (d := 41) rfl (by decide)) (he.i hz (rfl : u 13 = u 13) (j := 13) (d := 39) rfl (by decide)) (st_row (hB.cell 4) (hB.frozen 4) HF0.out.k.slc hp.slc)) (hJ.go 3 rfl hdi (by decide) (fun j h => by cases h; exact ⟨13, rfl, hd 13 (by kernel_rfl)⟩) trivial ⟨W1, _, W, hb1, hp, rfl⟩)
end Go.Proofs.YtpekbnkmnellpaaDoor
namespace Go.Proofs.YtpekbnkmnellpaaDoor
open Go.RowKit
set_option linter.unusedVariables false

theorem KRow.caple {w : World} {base g n cap : Nat} {l : KL} (h : KRow w base (.slice (some ⟨g, 0, none⟩) n cap) l) : n ≤ cap := by
  rcases h.2 with ⟨hn, _⟩ | ⟨g', cap', cur, hv, _, _, h1, _⟩
  · cases hn
  · cases hv
    exact h1
theorem kC_take : ∀ (l : KL) (i : Nat), kC (l.take i) = (kC l).take (i * 2)
  | [], i => by simp [kC]
  | x :: l, 0 => by simp [kC]
  | x :: l, i + 1 => by
    have ih := kC_take l i
    unfold kC at ih ⊢
    rw [List.take_succ_cons, List.flatMap_cons, ih, List.flatMap_cons, show (i + 1) * 2 = i * 2 + 1 + 1 by omega]
    rfl
theorem kC_drop : ∀ (l : KL) (i : Nat), kC (l.drop i) = (kC l).drop (i * 2)
  | [], i => by simp [kC]
  | x :: l, 0 => by simp [kC]
  | x :: l, i + 1 => by
    have ih := kC_drop l i
    unfold kC at ih ⊢
    rw [List.drop_succ_cons, ih, List.flatMap_cons, show (i + 1) * 2 = i * 2 + 1 + 1 by omega]
    rfl
theorem kC_len (l : KL) : (kC l).length = l.length * 2 := flat_len _ 2 (fun _ => rfl) l
theorem kC_one (l : KL) : ∀ u ∈ kC l, u.oneCell' = true := by
  intro u hu
  unfold kC at hu
  obtain ⟨x, _, hx⟩ := List.mem_flatMap.1 hu
  simp at hx
  rcases hx with rfl | rfl <;> rfl
theorem addr_add (g o j : Nat) : (⟨g, o, none⟩ : Addr).add j = ⟨g, o + j, none⟩ := by unfold Addr.add; split <;> simp_all
theorem KRow.cells {w : World} {base g n cap : Nat} {l : KL} (h : KRow w base (.slice (some ⟨g, 0, none⟩) n cap) l) (j : Nat) (u : Value) (hu : (kC l)[j]? = some u) : w.cell? ⟨g, j, none⟩ = some u := by
  have := World.ownsRow.cells h (g := g) rfl j u hu
  rwa [addr_add, Nat.zero_add] at this
theorem own_n {w : World} {base : Nat} {e : TypeId} {size : Nat} {v : Value} {n m : Nat} {xs : List Value} (h : w.ownsRow base e size v n xs) (hn : n = m) : w.ownsRow base e size v m xs := hn ▸ h
theorem eraseIdx_tk (l : KL) (i : Nat) : l.eraseIdx i = l.take i ++ l.drop (i + 1) := List.eraseIdx_eq_take_drop_succ l i
/-- behind the second append -/
theorem drop_end {w w1 w2 : World} {base g gk cap i : Nat} {v1 v2 v5 v6 : Value} {r : RF} (F : RFAt w base g (.slice (some ⟨gk, 0, none⟩) r.k.length cap) v5 v6 r) (hi : i < r.k.length) (HK1 : KRow w1 base v1 (r.k.take i)) (HO1 : Only [] w w1)
    (HA1 : ∀ x, v1.ownBlock = some x → x = w.heap.size) (HNe : ∀ x, v1.ownBlock = some x → x ≠ g ∧ v5.ownBlock ≠ some x ∧ v6.ownBlock ≠ some x)
    (hown : w2.ownsRow base 108 2 v2 ((r.k.take i).length + (r.k.drop (i + 1)).length) (kC (r.k.take i) ++ kC (r.k.drop (i + 1)))) (hgrow : w1.grownBy w2 v1.ownBlock) (hat : v2.ownBlock = v1.ownBlock ∨ v2.ownBlock = some w1.heap.size) :
    Blk w2 g 106 (r.cs (.slice (some ⟨gk, 0, none⟩) r.k.length cap) v5 v6) ∧ RFAt (w2.setCell ⟨g, 4, none⟩ v2) base g v2 v5 v6 { r with k := r.k.eraseIdx i } ∧ Only (rbl g (.slice (some ⟨gk, 0, none⟩) r.k.length cap) v5 v6) w (w2.setCell ⟨g, 4, none⟩ v2) := by
  have ho2 : Only v1.ownBlock.toList w1 w2 := Only.of_grown hgrow
  have F1 := F.only HO1 (by simp)
  have hm : ∀ y, y ∈ v1.ownBlock.toList → v1.ownBlock = some y := fun y hy => by simpa using hy
  have hb : Blk w2 g 106 (r.cs (.slice (some ⟨gk, 0, none⟩) r.k.length cap) v5 v6) := F1.blk.only ho2 fun hy => (HNe g (hm g hy)).1 rfl
  have h5 : KRow w2 base v5 r.t := F1.t.only ho2 fun y hy hy' => (HNe y (hm y hy')).2.1 hy
  have h6 : KRow w2 base v6 r.s := F1.s.only ho2 fun y hy hy' => (HNe y (hm y hy')).2.2 hy
  have h4 : KRow w2 base v2 (r.k.eraseIdx i) := by
    unfold KRow
    rw [eraseIdx_tk, List.length_append, show kC (r.k.take i ++ r.k.drop (i + 1)) = kC (r.k.take i) ++ kC (r.k.drop (i + 1)) from List.flatMap_append]
    exact hown
  have nv : ∀ y, v2.ownBlock = some y → y ≠ g := own_apart h4 hb (by decide)
  have hset : Only [g] w2 (w2.setCell ⟨g, 4, none⟩ v2) := (Only.refl [g] w2).set_ (by simp) _
  have fresh : ∀ y, v2.ownBlock = some y → v5.ownBlock ≠ some y ∧ v6.ownBlock ≠ some y := fun y hy => by
    rcases hat with e | e
    · exact (HNe y (e ▸ hy)).2
    · rw [e] at hy
      cases hy
      refine ⟨fun h => ?_, fun h => ?_⟩
      · have := (World.ownsRow.lt F1.t _ h).2; omega
      · have := (World.ownsRow.lt F1.s _ h).2; omega
  refine ⟨hb, ⟨hb.set_ 4 v2, h4.only hset fun y hy hy' => nv y hy (by simpa using hy'), h5.only hset fun y hy hy' => F.ne5 y hy (by simpa using hy'), h6.only hset fun y hy hy' => F.ne6 y hy (by simpa using hy'), fun y h1 h2 => (fresh y h1).1 h2, fun y h1 h2 => (fresh y h1).2 h2, F.ap56, F.ge⟩, ?_⟩
  have hw2 : Only [] w w2 := ⟨ho2.os.trans HO1.os, ho2.tape.trans HO1.tape, ho2.output.trans HO1.output, Nat.le_trans HO1.size ho2.size, fun k hk _ => by
    refine (ho2.block k (Nat.lt_of_lt_of_le hk HO1.size) fun hy => ?_).trans (HO1.block k hk (by simp))
    have := HA1 k (hm k hy)
    omega⟩
  exact (hw2.mono (by simp)).trans (hset.mono fun y hy => mem_rbl.2 (.inl (by simpa using hy)))
set_option maxHeartbeats 1000000 in
theorem rdrop_is (w : World) (base g : Nat) (v4 v5 v6 : Value) (r : RF) (F : RFAt w base g v4 v5 v6 r) (i : Nat) (hi : i < r.k.length) (hl : r.k.length ≤ 1000) :
    Calls Tryd.prog 78 #[.pointer (some ⟨g, 0, none⟩), .int .i64 (i : Int)] w fun e w' => e = .returned (.tuple #[]) ∧ (∃ u4, RFAt w' base g u4 v5 v6 { r with k := r.k.eraseIdx i }) ∧ Only (rbl g v4 v5 v6) w w' := by
  obtain ⟨ao, cap, rfl, hc⟩ := F.k.form
  obtain ⟨gk, rfl, c8, c9⟩ := hc i hi
  clear c8 c9 hc
  have c4 : w.cell? ⟨g, 4, none⟩ = some (.slice (some ⟨gk, 0, none⟩) r.k.length cap) := F.blk.cell 4
  have hcap : r.k.length ≤ cap := F.k.caple
  have hbase : base ≤ w.heap.size := Nat.le_trans F.ge (Nat.le_of_lt F.blk.lt)
  have HF := Lib.hid F
  obtain ⟨i0, hi0, hz0, hz1, hz2⟩ := info_parts info_kept
  have HI := Lib.hid (And.intro hi0 (And.intro hz0 (And.intro hz1 hz2)))
  clear F hi0 hz0 hz1 hz2
  go_enter Tryd.func78, Tryd.ntmps78
  go_wp2_with (at_builtin; refine wpList_append_own_at _ rfl _ _ 104 rfl base 108 i0 (.agg #[.int .u64 0, .string ⟨#[]⟩]) 2 24 Tryd.underlying104 HI.out.1 HI.out.2.1 HI.out.2.2.1 HI.out.2.2.2 rfl (by decide) (.slice none 0 0) 0 [] rfl (World.ownsRow_nil _ _ _ _) ⟨gk, 0, none⟩ i cap (kC (r.k.take i)) rfl ?c0 ?c1 (kC_one _) ?c3 ?c4 hbase ?_)
  case c0 => rw [kC_len, List.length_take]; omega
  case c1 =>
    intro j u hu
    rw [addr_add, Nat.zero_add]
    rw [kC_take] at hu
    exact HF.out.k.cells j u (by rw [List.getElem?_take] at hu; split at hu; exact hu; cases hu)
  case c3 => unfold maxLen; omega
  case c4 => omega
  intro v1 w1 hown1 hgrow1 _ hat1
  have HO1 : Hid (Only [] w w1) := Lib.hid (Only.of_grown hgrow1)
  have HK1 : Hid (KRow w1 base v1 (r.k.take i)) := Lib.hid (by
    unfold KRow
    rw [List.length_take, Nat.min_eq_left (by omega)]
    simpa using hown1)
  have HA1 : Hid (∀ x, v1.ownBlock = some x → x = w.heap.size) := Lib.hid (fun x hx => by
    rcases hat1 with e | e
    · rw [e] at hx; cases hx
    · rw [e] at hx; cases hx; rfl)
  have c4' : w1.cell? ⟨g, 4, none⟩ = some (.slice (some ⟨gk, 0, none⟩) r.k.length cap) := (HF.out.blk.only HO1.out (by simp)).cell 4
  clear hown1 hgrow1 hat1 c4
  have hbase1 : base ≤ w1.heap.size := Nat.le_trans hbase HO1.out.size
  have hne1 : ∀ x, v1.ownBlock = some x → x ≠ g ∧ v5.ownBlock ≠ some x ∧ v6.ownBlock ≠ some x := fun x hx => by
    have e := HA1.out x hx
    have l1 := HF.out.blk.lt
    refine ⟨by omega, fun h => ?_, fun h => ?_⟩
    · have := (World.ownsRow.lt HF.out.t x h).2; omega
    · have := (World.ownsRow.lt HF.out.s x h).2; omega
  have HNe := Lib.hid hne1
  clear hne1
  have hii : ((i : Int) + 1).toNat = i + 1 := by omega
  by_cases hc : cap = i + 1
  · have hll : r.k.length = i + 1 := by omega
    go_wp2_with (at_builtin; refine wpList_append_own_at _ rfl _ _ 104 rfl base 108 i0 (.agg #[.int .u64 0, .string ⟨#[]⟩]) 2 24 Tryd.underlying104 HI.out.1 HI.out.2.1 HI.out.2.2.1 HI.out.2.2.2 rfl (by decide) v1 (r.k.take i).length (kC (r.k.take i)) rfl HK1.out ⟨gk, 0, none⟩ 0 0 (kC (r.k.drop (i + 1))) ?cx ?c0 ?c1 (kC_one _) ?c3 ?c4 hbase1 ?_)
    case cx => rfl
    case c0 => rw [kC_len, List.length_drop]; omega
    case c1 =>
      intro j u hu
      have : (kC (r.k.drop (i + 1))) = [] := List.eq_nil_of_length_eq_zero (by rw [kC_len, List.length_drop]; omega)
      rw [this] at hu
      cases hu
    case c3 => rw [List.length_take]; unfold maxLen; omega
    case c4 => rw [List.length_take]; omega
    intro v2 w2 hown2 hgrow2 _ hat2
    have HR := Lib.hid (drop_end HF.out hi HK1.out HO1.out HA1.out HNe.out (own_n hown2 (by simp <;> omega)) hgrow2 hat2)
    have f4 : w2.frozen? ⟨g, 4, none⟩ = false := HR.out.1.frozen 4
    have d4 : w2.cell? ⟨g, 4, none⟩ = some (.slice (some ⟨gk, 0, none⟩) r.k.length cap) := HR.out.1.cell 4
    obtain ⟨ao2, cap2, rfl, _⟩ := own_form hown2
    clear hown2 hgrow2 hat2 c4'
    go_wp2_with fail
    go_end0
    exact ⟨rfl, ⟨_, HR.out.2.1⟩, HR.out.2.2⟩
  · go_wp2_with (at_builtin; refine wpList_append_own_at _ rfl _ _ 104 rfl base 108 i0 (.agg #[.int .u64 0, .string ⟨#[]⟩]) 2 24 Tryd.underlying104 HI.out.1 HI.out.2.1 HI.out.2.2.1 HI.out.2.2.2 rfl (by decide) v1 (r.k.take i).length (kC (r.k.take i)) rfl HK1.out ⟨gk, (i + 1) * 2, none⟩ (r.k.length - (i + 1)) (cap - (i + 1)) (kC (r.k.drop (i + 1))) ?cx ?c0 ?c1 (kC_one _) ?c3 ?c4 hbase1 ?_)
    case cx => rfl
    case c0 => rw [kC_len, List.length_drop]
    case c1 =>
      intro j u hu
      rw [addr_add]
      rw [kC_drop, List.getElem?_drop] at hu
      have := (HF.out.k.only HO1.out (by simp)).cells _ u hu
      exact this
    case c3 => rw [List.length_take]; unfold maxLen; omega
    case c4 => rw [List.length_take]; omega
    intro v2 w2 hown2 hgrow2 _ hat2
    have HR := Lib.hid (drop_end HF.out hi HK1.out HO1.out HA1.out HNe.out (own_n hown2 (by simp <;> omega)) hgrow2 hat2)
    have f4 : w2.frozen? ⟨g, 4, none⟩ = false := HR.out.1.frozen 4
    have d4 : w2.cell? ⟨g, 4, none⟩ = some (.slice (some ⟨gk, 0, none⟩) r.k.length cap) := HR.out.1.cell 4
    obtain ⟨ao2, cap2, rfl, _⟩ := own_form hown2
    clear hown2 hgrow2 hat2 c4'
    go_wp2_with fail
    go_end0
    exact ⟨rfl, ⟨_, HR.out.2.1⟩, HR.out.2.2⟩
end Go.Proofs.YtpekbnkmnellpaaDoor
namespace Go.Proofs.YtpekbnkmnellpaaDoor
open Go.RowKit
set_option linter.unusedVariables false

/-- a region that writes nothing of what was there -/
def bwS (W0 : World) (n : Nat) (vs : List Value) (W : World) : Prop := n ≤ 1 ∧ Below W0.heap.size W0 W
theorem bwS_inv {V O : Nat → Value → Prop} {ks : List Nat} {W0 : World} {d : Nat → Bool} {u : Nat → Value} {W : World} (h : CJ V O ks (bwS W0) d u W) : Below W0.heap.size W0 W := h.inv (fun n l W h => h.2)
theorem ld_s {g i : Nat} {W : World} {x : ByteArray} (h : W.cell? ⟨g, i, none⟩ = some (.string x)) : (Instr.loadAt 9 (.pointer (some ⟨g, i, none⟩))).run Tryd.prog W = .ok (.string x) W := by go_simp
theorem ix_kept {gk n cap i : Nat} {W : World} (hi : i < n) : (Instr.indexAt 104 (.slice (some ⟨gk, 0, none⟩) n cap) (.int .i64 (i : Int))).run Tryd.prog W = .ok (.pointer (some ⟨gk, i * 2, none⟩)) W := by go_simp
theorem fld_kept {gk o : Nat} {W : World} : (Instr.fieldAt 108 (.pointer (some ⟨gk, o, none⟩)) 1).run Tryd.prog W = .ok (.pointer (some ⟨gk, o + 1, none⟩)) W := by go_simp
theorem ld_slk {g i : Nat} {W : World} {a : Option Addr} {n cap : Nat} (h : W.cell? ⟨g, i, none⟩ = some (.slice a n cap)) : (Instr.loadAt 104 (.pointer (some ⟨g, i, none⟩))).run Tryd.prog W = .ok (.slice a n cap) W := by go_simp
def tmV (g gk n cap ix : Nat) (sq fr to_ tm : Int) (dt tx cx : ByteArray) (B : Nat) (i : Nat) (v : Value) : Prop := match i with
  | 0 => v = .int .i64 (ix : Int)
  | 1 => v = .bool false
  | 2 => v = .bool false
  | 3 => v = .pointer (some ⟨g, 0, none⟩)
  | 4 => v = .pointer (some ⟨g, 0, none⟩)
  | 5 => v = .pointer (some ⟨g, 4, none⟩)
  | 6 => v = .slice (some ⟨gk, 0, none⟩) n cap
  | 7 => v = .int .i64 (ix : Int)
  | 8 => v = .pointer (some ⟨gk, ix * 2, none⟩)
  | 9 => v = .pointer (some ⟨gk, ix * 2 + 1, none⟩)
  | 10 => v = .string tx
  | 11 => v = .agg #[.int .u64 sq, .int .u64 fr, .int .u64 to_, .string dt, .int .u64 tm]
  | 12 => v = .string cx
  | 13 => v = .bool !(tx.toList == cx.toList)
  | 14 => v = .bool !(tx.toList == cx.toList)
  | _ => True
set_option maxRecDepth 100000 in
set_option maxHeartbeats 2000000 in
theorem rtout_none (w : World) (G : GlobR w) (base g : Nat) (v4 v5 v6 : Value) (r : RF) (p : Pk) (F : RFAt w base g v4 v5 v6 r) (hle : r.k.length ≤ 1000) (hp : p.ok) (hk : ¬ fidx r.k p.seq < r.k.length) :
    Calls Tryd.prog 42 #[.pointer (some ⟨g, 0, none⟩), p.v] w fun e w' => e = .returned (.int .i64 185) ∧ Below w.heap.size w w' := by
  obtain ⟨sq, fr, to_, dt, tm⟩ := p
  have HF := Lib.hid F
  have HPk := Lib.hid hp
  have HG := Lib.hid G
  clear F hp G
  have HFI : Hid (findI r.k sq = -1) := Lib.hid (by unfold findI; rw [if_neg hk])
  clear hk
  show Calls Tryd.prog 42 #[.pointer (some ⟨g, 0, none⟩), .agg #[.int .u64 sq, .int .u64 fr, .int .u64 to_, .string dt, .int .u64 tm]] w _
  go_enter Tryd.func42, Tryd.ntmps42
  go_upto_region 1 with fail
  have hP := Blk.new w 24 #[.int .u64 sq, .int .u64 fr, .int .u64 to_, .string dt, .int .u64 tm]
  have HL1 := Lib.hid (balloc (Below.refl _ w) (.cells #[.int .u64 sq, .int .u64 fr, .int .u64 to_, .string dt, .int .u64 tm] 24))
  generalize w.alloc (.cells #[.int .u64 sq, .int .u64 fr, .int .u64 to_, .string dt, .int .u64 tm] 24) = w1 at hP HL1 ⊢
  have HF1 := Lib.hid (HF.out.below HL1.out)
  have HP1 := Lib.hid hP
  have p0 : w1.cell? ⟨w.heap.size, 0, none⟩ = some (.int .u64 sq) := hP.cell 0
  have c4 : w1.cell? ⟨g, 4, none⟩ = some v4 := HF1.out.blk.cell 4
  have HFind : Hid (∀ m, Calls Tryd.prog 77 #[v4, .int .u64 sq] (w1.drewN m) fun e w' => e = .returned (.int .i64 (-1)) ∧ w' = w1.drewN m) := Lib.hid (fun m => (find_is (w1.drewN m) base v4 r.k sq (HF1.out.below (below_drewN' (Below.refl _ w1) m)).k hle).mono fun e w' ⟨h1, h2⟩ => ⟨by rw [h1, HFI.out], h2.symm⟩)
  clear hP
  obtain ⟨ao, cap, hv4, hc4⟩ := HF1.out.k.form
  rw [hv4] at c4 HFind
  clear hc4
  go_quiet ((go_at_call 77; exact Calls.quiet_of_same (HFind.out _)))
  go_wp2_with fail
  go_quiet (fail)
  go_wp2_with fail
  go_ret
  exact ⟨rfl, below_drewN' (below_drewN' HL1.out _) _⟩
set_option maxRecDepth 100000 in
set_option maxHeartbeats 2000000 in
theorem rtout_ne (w : World) (G : GlobR w) (base g : Nat) (v4 v5 v6 : Value) (r : RF) (p : Pk) (F : RFAt w base g v4 v5 v6 r) (hle : r.k.length ≤ 1000) (hp : p.ok) (ix : Nat) (hlt : ix < r.k.length) (hix : findI r.k p.seq = (ix : Int)) (tx cx : ByteArray) (htx : (r.k[ix]'hlt).2 = tx) (hcx : p.comm = cx) (hq : (tx.toList == cx.toList) = false) :
    Calls Tryd.prog 42 #[.pointer (some ⟨g, 0, none⟩), p.v] w fun e w' => e = .returned (.int .i64 185) ∧ Below w.heap.size w w' := by
  obtain ⟨sq, fr, to_, dt, tm⟩ := p
  have HF := Lib.hid F
  have HPk := Lib.hid hp
  have HG := Lib.hid G
  clear F hp G
  have hcx' : Pk.comm ⟨sq, fr, to_, dt, tm⟩ = cx := hcx
  have HFI : Hid (findI r.k sq = (ix : Int)) := Lib.hid hix
  have HTx : Hid ((r.k[ix]'hlt).2 = tx) := Lib.hid htx
  have HCx := Lib.hid hcx'
  have HQ : Hid ((tx.toList == cx.toList) = false) := Lib.hid hq
  clear htx hcx hcx' hq hix
  show Calls Tryd.prog 42 #[.pointer (some ⟨g, 0, none⟩), .agg #[.int .u64 sq, .int .u64 fr, .int .u64 to_, .string dt, .int .u64 tm]] w _
  go_enter Tryd.func42, Tryd.ntmps42
  go_upto_region 1 with fail
  have hP := Blk.new w 24 #[.int .u64 sq, .int .u64 fr, .int .u64 to_, .string dt, .int .u64 tm]
  have HL1 := Lib.hid (balloc (Below.refl _ w) (.cells #[.int .u64 sq, .int .u64 fr, .int .u64 to_, .string dt, .int .u64 tm] 24))
  generalize w.alloc (.cells #[.int .u64 sq, .int .u64 fr, .int .u64 to_, .string dt, .int .u64 tm] 24) = w1 at hP HL1 ⊢
  have HF1 := Lib.hid (HF.out.below HL1.out)
  have HP1 := Lib.hid hP
  have p0 : w1.cell? ⟨w.heap.size, 0, none⟩ = some (.int .u64 sq) := hP.cell 0
  have c4 : w1.cell? ⟨g, 4, none⟩ = some v4 := HF1.out.blk.cell 4
  have HFind : Hid (∀ m, Calls Tryd.prog 77 #[v4, .int .u64 sq] (w1.drewN m) fun e w' => e = .returned (.int .i64 (ix : Int)) ∧ w' = w1.drewN m) := Lib.hid (fun m => (find_is (w1.drewN m) base v4 r.k sq (HF1.out.below (below_drewN' (Below.refl _ w1) m)).k hle).mono fun e w' ⟨h1, h2⟩ => ⟨by rw [h1, HFI.out], h2.symm⟩)
  clear hP
  obtain ⟨ao, cap, hv4, hc4⟩ := HF1.out.k.form
  rw [hv4] at c4 HFind
  obtain ⟨gk, hao, c8, c9⟩ := hc4 _ hlt
  subst hao
  rw [HTx.out] at c9
  go_quiet ((go_at_call 77; exact Calls.quiet_of_same (HFind.out _)))
  have HL2 : Hid (Below w.heap.size w (w1.drewN nq).drew) := Lib.hid (below_drewN' HL1.out nq).drew
  have HF2 : Hid (RFAt (w1.drewN nq).drew base g v4 v5 v6 r) := Lib.hid (HF1.out.below (below_drewN' (Below.refl _ w1) nq).drew)
  have HP2 : Hid (Blk (w1.drewN nq).drew w.heap.size 24 #[.int .u64 sq, .int .u64 fr, .int .u64 to_, .string dt, .int .u64 tm]) := Lib.hid HP1.out
  have c9' : (w1.drewN nq).drew.cell? ⟨gk, ix * 2 + 1, none⟩ = some (.string tx) := c9
  clear p0 c4 c8 c9 HF1 HP1 HFind HL1 hc4
  generalize w1.drewN nq = w2 at HF2 HP2 HL2 c9' ⊢
  have v4c : Hid (∀ W, Below w2.drew.heap.size w2.drew W → W.cell? ⟨g, 4, none⟩ = some (.slice (some ⟨gk, 0, none⟩) r.k.length cap)) := Lib.hid (fun W hb => ((HF2.out.blk.below hb).cell 4).trans (by rw [← hv4]; rfl))
  have txc : Hid (∀ W, Below w2.drew.heap.size w2.drew W → W.cell? ⟨gk, ix * 2 + 1, none⟩ = some (.string tx)) := Lib.hid (fun W hb => (hb.cell (p := ⟨gk, ix * 2 + 1, none⟩) (World.ownsRow.lt HF2.out.k gk (by rw [hv4]; rfl)).2).trans c9')
  have pkc : Hid (∀ W, Below w2.drew.heap.size w2.drew W → Blk W w.heap.size 24 #[.int .u64 sq, .int .u64 fr, .int .u64 to_, .string dt, .int .u64 tm]) := Lib.hid (fun W hb => HP2.out.below hb)
  have HGd := Lib.hid (HG.out.below HL2.out HG.out.four)
  have HV4 := Lib.hid hv4
  clear c9' hv4
  go_upto_region 2 with fail
  refine wp_abs fun a0 hA => ?_
  have h0 : a0.eval (.tmp 0) = .pointer (some ⟨g, 0, none⟩) := by rw [hA]; rfl
  have h3 : a0.eval (.tmp 3) = .pointer (some ⟨w.heap.size, 0, none⟩) := by rw [hA]; rfl
  have h5 : a0.eval (.tmp 5) = .int .i64 (ix : Int) := by rw [hA]; rfl
  have hz : a0.tmps.size = 31 := by rw [hA]; rfl
  refine wp_region_K [some 13, some 14, some 15, some 16, some 17, some 18, some 19, some 20, some 21, some 22, some 23, some 24, some 25, some 26, some 27] 31 (CJ (tmV g gk r.k.length cap ix sq fr to_ tm dt tx cx w.heap.size) (fun _ _ => True) [12] (bwS w2.drew)) (by kernel_rfl) (by kernel_rfl) (by kernel_rfl) rfl (by kernel_rfl) hz (CJ.start (fun i => trivial) ⟨Nat.zero_le 1, Below.refl _ _⟩) ?_ ⟨?_, ?_, ?_, ?_, ?_, ?_, ?_, ?_, ?_, ?_, ?_, ?_, ?_, ?_, ?_, trivial⟩
  · intro d u W hd hJ
    have HW := Lib.hid (bwS_inv hJ)
    have e14 : u 14 = .bool true := (hJ.vals 14 (hd 14 (by decide))).trans (by rw [HQ.out]; rfl)
    rw [hA]
    simp only [putAll, Act.put, List.setIfInBounds_toArray, List.set_cons_zero, List.set_cons_succ]
    clear hJ hd h0 h3 h5 hz hA
    clear a0
    rw [e14]
    have HL3 := Lib.hid (bstep HL2.out HW.out)
    have HF3 := Lib.hid (HF2.out.below HW.out)
    clear e14 HW
    go_wp2_with fail
    go_ret
    exact ⟨rfl, HL3.out⟩
  · exact KStep.plain rfl fun ρ d u W he hc hdi hd hJ => swp_val (run_move (he.o h5 rfl)) (hJ.pure 0 rfl rfl)
  · exact KStep.plain rfl fun ρ d u W he hc hdi hd hJ => swp_val (run_bin (he.i hz (hJ.vals 0 (hd 0 (by kernel_rfl))) (j := 0) (d := 13) rfl (by decide)) (he.const _) rfl (by go_simp)) (hJ.pure 1 rfl rfl)
  · exact KStep.plain rfl fun ρ d u W he hc hdi hd hJ => swp_val (run_move (he.i hz (hJ.vals 1 (hd 1 (by kernel_rfl))) (j := 1) (d := 14) rfl (by decide))) (hJ.pure 2 rfl rfl)
  · exact KStep.gd 2 false rfl (by kernel_rfl) (fun d u W hJ hd => hJ.vals 2 hd) fun ρ d u W he hc hdi hd hJ => swp_val (run_move (he.o h0 rfl)) (hJ.pure 3 rfl rfl)
  · exact KStep.gd 2 false rfl (by kernel_rfl) (fun d u W hJ hd => hJ.vals 2 hd) fun ρ d u W he hc hdi hd hJ => swp_val (run_nilCheck (he.i hz (hJ.vals 3 (hd 3 (by kernel_rfl))) (j := 3) (d := 16) rfl (by decide))) (hJ.pure 4 rfl rfl)
  · exact KStep.gd 2 false rfl (by kernel_rfl) (fun d u W hJ hd => hJ.vals 2 hd) fun ρ d u W he hc hdi hd hJ => swp_val (run_fieldAddr (he.i hz (hJ.vals 4 (hd 4 (by kernel_rfl))) (j := 4) (d := 17) rfl (by decide)) (by go_simp)) (hJ.pure 5 rfl rfl)
  · exact KStep.gd 2 false rfl (by kernel_rfl) (fun d u W hJ hd => hJ.vals 2 hd) fun ρ d u W he hc hdi hd hJ => swp_val (run_load (he.i hz (hJ.vals 5 (hd 5 (by kernel_rfl))) (j := 5) (d := 18) rfl (by decide)) (ld_slk (v4c.out W (bwS_inv hJ)))) (hJ.pure 6 rfl rfl)
  · exact KStep.gd 2 false rfl (by kernel_rfl) (fun d u W hJ hd => hJ.vals 2 hd) fun ρ d u W he hc hdi hd hJ => swp_val (run_move (he.o h5 rfl)) (hJ.pure 7 rfl rfl)
  · exact KStep.gd 2 false rfl (by kernel_rfl) (fun d u W hJ hd => hJ.vals 2 hd) fun ρ d u W he hc hdi hd hJ => swp_val (run_indexAddr (he.i hz (hJ.vals 6 (hd 6 (by kernel_rfl))) (j := 6) (d := 19) rfl (by decide)) (he.i hz (hJ.vals 7 (hd 7 (by kernel_rfl))) (j := 7) (d := 20) rfl (by decide)) (ix_kept hlt)) (hJ.pure 8 rfl rfl)
  · exact KStep.gd 2 false rfl (by kernel_rfl) (fun d u W hJ hd => hJ.vals 2 hd) fun ρ d u W he hc hdi hd hJ => swp_val (run_fieldAddr (he.i hz (hJ.vals 8 (hd 8 (by kernel_rfl))) (j := 8) (d := 21) rfl (by decide)) fld_kept) (hJ.pure 9 rfl rfl)
  · exact KStep.gd 2 false rfl (by kernel_rfl) (fun d u W hJ hd => hJ.vals 2 hd) fun ρ d u W he hc hdi hd hJ => swp_val (run_load (he.i hz (hJ.vals 9 (hd 9 (by kernel_rfl))) (j := 9) (d := 22) rfl (by decide)) (ld_s (txc.out W (bwS_inv hJ)))) (hJ.pure 10 rfl rfl)
  · exact KStep.gd 2 false rfl (by kernel_rfl) (fun d u W hJ hd => hJ.vals 2 hd) fun ρ d u W he hc hdi hd hJ => swp_val (run_load (he.o h3 rfl) (ld_pk (pkc.out W (bwS_inv hJ)))) (hJ.pure 11 rfl rfl)
  · exact KStep.gd 2 false rfl (by kernel_rfl) (fun d u W hJ hd => hJ.vals 2 hd) fun ρ d u W he hc hdi hd hJ => swp_call (run_call #[.agg #[.int .u64 sq, .int .u64 fr, .int .u64 to_, .string dt, .int .u64 tm]] (he.func _) (by kernel_rfl) (map1 (he.i hz (hJ.vals 11 (hd 11 (by kernel_rfl))) (j := 11) (d := 24) rfl (by decide)))) (rcomm_is ⟨sq, fr, to_, dt, tm⟩ W (HGd.out.below (bwS_inv hJ) HGd.out.four) HPk.out) (fun e W' h => ⟨_, by rw [h.1, HCx.out], hJ.go 0 rfl hdi (by decide) (fun j h => by omega) rfl ⟨Nat.le_refl 1, bstep (bwS_inv hJ) h.2⟩⟩)
  · exact KStep.gd 2 false rfl (by kernel_rfl) (fun d u W hJ hd => hJ.vals 2 hd) fun ρ d u W he hc hdi hd hJ => swp_val (run_bin (he.i hz (hJ.vals 10 (hd 10 (by kernel_rfl))) (j := 10) (d := 23) rfl (by decide)) (he.i hz (hJ.vals 12 (hd 12 (by kernel_rfl))) (j := 12) (d := 25) rfl (by decide)) rfl (by go_simp)) (hJ.pure 13 rfl rfl)
  · exact KStep.plain rfl fun ρ d u W he hc hdi hd hJ => swp_val (run_pick_f (he.i hz (hJ.vals 2 (hd 2 (by kernel_rfl))) (j := 2) (d := 15) rfl (by decide)) (he.i hz (hJ.vals 13 (hd 13 (by kernel_rfl))) (j := 13) (d := 26) rfl (by decide))) (hJ.pure 14 rfl rfl)
set_option maxRecDepth 100000 in
set_option maxHeartbeats 2000000 in
theorem rack_none (w : World) (G : GlobR w) (base g : Nat) (v4 v5 v6 : Value) (r : RF) (p : Pk) (F : RFAt w base g v4 v5 v6 r) (hle : r.k.length ≤ 1000) (hp : p.ok) (hk : ¬ fidx r.k p.seq < r.k.length) :
    Calls Tryd.prog 41 #[.pointer (some ⟨g, 0, none⟩), p.v] w fun e w' => e = .returned (.int .i64 185) ∧ Below w.heap.size w w' := by
  obtain ⟨sq, fr, to_, dt, tm⟩ := p
  have HF := Lib.hid F
  have HPk := Lib.hid hp
  have HG := Lib.hid G
  clear F hp G
  have HFI : Hid (findI r.k sq = -1) := Lib.hid (by unfold findI; rw [if_neg hk])
  clear hk
  show Calls Tryd.prog 41 #[.pointer (some ⟨g, 0, none⟩), .agg #[.int .u64 sq, .int .u64 fr, .int .u64 to_, .string dt, .int .u64 tm]] w _
  go_enter Tryd.func41, Tryd.ntmps41
  go_upto_region 1 with fail
  have hP := Blk.new w 24 #[.int .u64 sq, .int .u64 fr, .int .u64 to_, .string dt, .int .u64 tm]
  have HL1 := Lib.hid (balloc (Below.refl _ w) (.cells #[.int .u64 sq, .int .u64 fr, .int .u64 to_, .string dt, .int .u64 tm] 24))
  generalize w.alloc (.cells #[.int .u64 sq, .int .u64 fr, .int .u64 to_, .string dt, .int .u64 tm] 24) = w1 at hP HL1 ⊢
  have HF1 := Lib.hid (HF.out.below HL1.out)
  have HP1 := Lib.hid hP
  have p0 : w1.cell? ⟨w.heap.size, 0, none⟩ = some (.int .u64 sq) := hP.cell 0
  have c4 : w1.cell? ⟨g, 4, none⟩ = some v4 := HF1.out.blk.cell 4
  have HFind : Hid (∀ m, Calls Tryd.prog 77 #[v4, .int .u64 sq] (w1.drewN m) fun e w' => e = .returned (.int .i64 (-1)) ∧ w' = w1.drewN m) := Lib.hid (fun m => (find_is (w1.drewN m) base v4 r.k sq (HF1.out.below (below_drewN' (Below.refl _ w1) m)).k hle).mono fun e w' ⟨h1, h2⟩ => ⟨by rw [h1, HFI.out], h2.symm⟩)
  clear hP
  obtain ⟨ao, cap, hv4, hc4⟩ := HF1.out.k.form
  rw [hv4] at c4 HFind
  clear hc4
  go_quiet ((go_at_call 77; exact Calls.quiet_of_same (HFind.out _)))
  go_wp2_with fail
  go_quiet (fail)
  go_wp2_with fail
  go_ret
  exact ⟨rfl, below_drewN' (below_drewN' HL1.out _) _⟩
set_option maxRecDepth 100000 in
set_option maxHeartbeats 2000000 in
theorem rack_ne (w : World) (G : GlobR w) (base g : Nat) (v4 v5 v6 : Value) (r : RF) (p : Pk) (F : RFAt w base g v4 v5 v6 r) (hle : r.k.length ≤ 1000) (hp : p.ok) (ix : Nat) (hlt : ix < r.k.length) (hix : findI r.k p.seq = (ix : Int)) (tx cx : ByteArray) (htx : (r.k[ix]'hlt).2 = tx) (hcx : p.comm = cx) (hq : (tx.toList == cx.toList) = false) :
    Calls Tryd.prog 41 #[.pointer (some ⟨g, 0, none⟩), p.v] w fun e w' => e = .returned (.int .i64 185) ∧ Below w.heap.size w w' := by
  obtain ⟨sq, fr, to_, dt, tm⟩ := p
  have HF := Lib.hid F
  have HPk := Lib.hid hp
  have HG := Lib.hid G
  clear F hp G
  have hcx' : Pk.comm ⟨sq, fr, to_, dt, tm⟩ = cx := hcx
  have HFI : Hid (findI r.k sq = (ix : Int)) := Lib.hid hix
  have HTx : Hid ((r.k[ix]'hlt).2 = tx) := Lib.hid htx
  have HCx := Lib.hid hcx'
  have HQ : Hid ((tx.toList == cx.toList) = false) := Lib.hid hq
  clear htx hcx hcx' hq hix
  show Calls Tryd.prog 41 #[.pointer (some ⟨g, 0, none⟩), .agg #[.int .u64 sq, .int .u64 fr, .int .u64 to_, .string dt, .int .u64 tm]] w _
  go_enter Tryd.func41, Tryd.ntmps41
  go_upto_region 1 with fail
  have hP := Blk.new w 24 #[.int .u64 sq, .int .u64 fr, .int .u64 to_, .string dt, .int .u64 tm]
  have HL1 := Lib.hid (balloc (Below.refl _ w) (.cells #[.int .u64 sq, .int .u64 fr, .int .u64 to_, .string dt, .int .u64 tm] 24))
  generalize w.alloc (.cells #[.int .u64 sq, .int .u64 fr, .int .u64 to_, .string dt, .int .u64 tm] 24) = w1 at hP HL1 ⊢
  have HF1 := Lib.hid (HF.out.below HL1.out)
  have HP1 := Lib.hid hP
  have p0 : w1.cell? ⟨w.heap.size, 0, none⟩ = some (.int .u64 sq) := hP.cell 0
  have c4 : w1.cell? ⟨g, 4, none⟩ = some v4 := HF1.out.blk.cell 4
  have HFind : Hid (∀ m, Calls Tryd.prog 77 #[v4, .int .u64 sq] (w1.drewN m) fun e w' => e = .returned (.int .i64 (ix : Int)) ∧ w' = w1.drewN m) := Lib.hid (fun m => (find_is (w1.drewN m) base v4 r.k sq (HF1.out.below (below_drewN' (Below.refl _ w1) m)).k hle).mono fun e w' ⟨h1, h2⟩ => ⟨by rw [h1, HFI.out], h2.symm⟩)
  clear hP
  obtain ⟨ao, cap, hv4, hc4⟩ := HF1.out.k.form
  rw [hv4] at c4 HFind
  obtain ⟨gk, hao, c8, c9⟩ := hc4 _ hlt
  subst hao
  rw [HTx.out] at c9
  go_quiet ((go_at_call 77; exact Calls.quiet_of_same (HFind.out _)))
  have HL2 : Hid (Below w.heap.size w (w1.drewN nq).drew) := Lib.hid (below_drewN' HL1.out nq).drew
  have HF2 : Hid (RFAt (w1.drewN nq).drew base g v4 v5 v6 r) := Lib.hid (HF1.out.below (below_drewN' (Below.refl _ w1) nq).drew)
  have HP2 : Hid (Blk (w1.drewN nq).drew w.heap.size 24 #[.int .u64 sq, .int .u64 fr, .int .u64 to_, .string dt, .int .u64 tm]) := Lib.hid HP1.out
  have c9' : (w1.drewN nq).drew.cell? ⟨gk, ix * 2 + 1, none⟩ = some (.string tx) := c9
  clear p0 c4 c8 c9 HF1 HP1 HFind HL1 hc4
  generalize w1.drewN nq = w2 at HF2 HP2 HL2 c9' ⊢
  have v4c : Hid (∀ W, Below w2.drew.heap.size w2.drew W → W.cell? ⟨g, 4, none⟩ = some (.slice (some ⟨gk, 0, none⟩) r.k.length cap)) := Lib.hid (fun W hb => ((HF2.out.blk.below hb).cell 4).trans (by rw [← hv4]; rfl))
  have txc : Hid (∀ W, Below w2.drew.heap.size w2.drew W → W.cell? ⟨gk, ix * 2 + 1, none⟩ = some (.string tx)) := Lib.hid (fun W hb => (hb.cell (p := ⟨gk, ix * 2 + 1, none⟩) (World.ownsRow.lt HF2.out.k gk (by rw [hv4]; rfl)).2).trans c9')
  have pkc : Hid (∀ W, Below w2.drew.heap.size w2.drew W → Blk W w.heap.size 24 #[.int .u64 sq, .int .u64 fr, .int .u64 to_, .string dt, .int .u64 tm]) := Lib.hid (fun W hb => HP2.out.below hb)
  have HGd := Lib.hid (HG.out.below HL2.out HG.out.four)
  have HV4 := Lib.hid hv4
  clear c9' hv4
  go_upto_region 2 with fail
  refine wp_abs fun a0 hA => ?_
  have h0 : a0.eval (.tmp 0) = .pointer (some ⟨g, 0, none⟩) := by rw [hA]; rfl
  have h3 : a0.eval (.tmp 3) = .pointer (some ⟨w.heap.size, 0, none⟩) := by rw [hA]; rfl
  have h5 : a0.eval (.tmp 5) = .int .i64 (ix : Int) := by rw [hA]; rfl
  have hz : a0.tmps.size = 49 := by rw [hA]; rfl
  refine wp_region_K [some 13, some 14, some 15, some 16, some 17, some 18, some 19, some 20, some 21, some 22, some 23, some 24, some 25, some 26, some 27] 49 (CJ (tmV g gk r.k.length cap ix sq fr to_ tm dt tx cx w.heap.size) (fun _ _ => True) [12] (bwS w2.drew)) (by kernel_rfl) (by kernel_rfl) (by kernel_rfl) rfl (by kernel_rfl) hz (CJ.start (fun i => trivial) ⟨Nat.zero_le 1, Below.refl _ _⟩) ?_ ⟨?_, ?_, ?_, ?_, ?_, ?_, ?_, ?_, ?_, ?_, ?_, ?_, ?_, ?_, ?_, trivial⟩
  · intro d u W hd hJ
    have HW := Lib.hid (bwS_inv hJ)
    have e14 : u 14 = .bool true := (hJ.vals 14 (hd 14 (by decide))).trans (by rw [HQ.out]; rfl)
    rw [hA]
    simp only [putAll, Act.put, List.setIfInBounds_toArray, List.set_cons_zero, List.set_cons_succ]
    clear hJ hd h0 h3 h5 hz hA
    clear a0
    rw [e14]
    have HL3 := Lib.hid (bstep HL2.out HW.out)
    have HF3 := Lib.hid (HF2.out.below HW.out)
    clear e14 HW
    go_wp2_with fail
    go_ret
    exact ⟨rfl, HL3.out⟩
  · exact KStep.plain rfl fun ρ d u W he hc hdi hd hJ => swp_val (run_move (he.o h5 rfl)) (hJ.pure 0 rfl rfl)
  · exact KStep.plain rfl fun ρ d u W he hc hdi hd hJ => swp_val (run_bin (he.i hz (hJ.vals 0 (hd 0 (by kernel_rfl))) (j := 0) (d := 13) rfl (by decide)) (he.const _) rfl (by go_simp)) (hJ.pure 1 rfl rfl)
  · exact KStep.plain rfl fun ρ d u W he hc hdi hd hJ => swp_val (run_move (he.i hz (hJ.vals 1 (hd 1 (by kernel_rfl))) (j := 1) (d := 14) rfl (by decide))) (hJ.pure 2 rfl rfl)
  · exact KStep.gd 2 false rfl (by kernel_rfl) (fun d u W hJ hd => hJ.vals 2 hd) fun ρ d u W he hc hdi hd hJ => swp_val (run_move (he.o h0 rfl)) (hJ.pure 3 rfl rfl)
  · exact KStep.gd 2 false rfl (by kernel_rfl) (fun d u W hJ hd => hJ.vals 2 hd) fun ρ d u W he hc hdi hd hJ => swp_val (run_nilCheck (he.i hz (hJ.vals 3 (hd 3 (by kernel_rfl))) (j := 3) (d := 16) rfl (by decide))) (hJ.pure 4 rfl rfl)
  · exact KStep.gd 2 false rfl (by kernel_rfl) (fun d u W hJ hd => hJ.vals 2 hd) fun ρ d u W he hc hdi hd hJ => swp_val (run_fieldAddr (he.i hz (hJ.vals 4 (hd 4 (by kernel_rfl))) (j := 4) (d := 17) rfl (by decide)) (by go_simp)) (hJ.pure 5 rfl rfl)
  · exact KStep.gd 2 false rfl (by kernel_rfl) (fun d u W hJ hd => hJ.vals 2 hd) fun ρ d u W he hc hdi hd hJ => swp_val (run_load (he.i hz (hJ.vals 5 (hd 5 (by kernel_rfl))) (j := 5) (d := 18) rfl (by decide)) (ld_slk (v4c.out W (bwS_inv hJ)))) (hJ.pure 6 rfl rfl)
  · exact KStep.gd 2 false rfl (by kernel_rfl) (fun d u W hJ hd => hJ.vals 2 hd) fun ρ d u W he hc hdi hd hJ => swp_val (run_move (he.o h5 rfl)) (hJ.pure 7 rfl rfl)
  · exact KStep.gd 2 false rfl (by kernel_rfl) (fun d u W hJ hd => hJ.vals 2 hd) fun ρ d u W he hc hdi hd hJ => swp_val (run_indexAddr (he.i hz (hJ.vals 6 (hd 6 (by kernel_rfl))) (j := 6) (d := 19) rfl (by decide)) (he.i hz (hJ.vals 7 (hd 7 (by kernel_rfl))) (j := 7) (d := 20) rfl (by decide)) (ix_kept hlt)) (hJ.pure 8 rfl rfl)
  · exact KStep.gd 2 false rfl (by kernel_rfl) (fun d u W hJ hd => hJ.vals 2 hd) fun ρ d u W he hc hdi hd hJ => swp_val (run_fieldAddr (he.i hz (hJ.vals 8 (hd 8 (by kernel_rfl))) (j := 8) (d := 21) rfl (by decide)) fld_kept) (hJ.pure 9 rfl rfl)
  · exact KStep.gd 2 false rfl (by kernel_rfl) (fun d u W hJ hd => hJ.vals 2 hd) fun ρ d u W he hc hdi hd hJ => swp_val (run_load (he.i hz (hJ.vals 9 (hd 9 (by kernel_rfl))) (j := 9) (d := 22) rfl (by decide)) (ld_s (txc.out W (bwS_inv hJ)))) (hJ.pure 10 rfl rfl)
  · exact KStep.gd 2 false rfl (by kernel_rfl) (fun d u W hJ hd => hJ.vals 2 hd) fun ρ d u W he hc hdi hd hJ => swp_val (run_load (he.o h3 rfl) (ld_pk (pkc.out W (bwS_inv hJ)))) (hJ.pure 11 rfl rfl)
  · exact KStep.gd 2 false rfl (by kernel_rfl) (fun d u W hJ hd => hJ.vals 2 hd) fun ρ d u W he hc hdi hd hJ => swp_call (run_call #[.agg #[.int .u64 sq, .int .u64 fr, .int .u64 to_, .string dt, .int .u64 tm]] (he.func _) (by kernel_rfl) (map1 (he.i hz (hJ.vals 11 (hd 11 (by kernel_rfl))) (j := 11) (d := 24) rfl (by decide)))) (rcomm_is ⟨sq, fr, to_, dt, tm⟩ W (HGd.out.below (bwS_inv hJ) HGd.out.four) HPk.out) (fun e W' h => ⟨_, by rw [h.1, HCx.out], hJ.go 0 rfl hdi (by decide) (fun j h => by omega) rfl ⟨Nat.le_refl 1, bstep (bwS_inv hJ) h.2⟩⟩)
  · exact KStep.gd 2 false rfl (by kernel_rfl) (fun d u W hJ hd => hJ.vals 2 hd) fun ρ d u W he hc hdi hd hJ => swp_val (run_bin (he.i hz (hJ.vals 10 (hd 10 (by kernel_rfl))) (j := 10) (d := 23) rfl (by decide)) (he.i hz (hJ.vals 12 (hd 12 (by kernel_rfl))) (j := 12) (d := 25) rfl (by decide)) rfl (by go_simp)) (hJ.pure 13 rfl rfl)
  · exact KStep.plain rfl fun ρ d u W he hc hdi hd hJ => swp_val (run_pick_f (he.i hz (hJ.vals 2 (hd 2 (by kernel_rfl))) (j := 2) (d := 15) rfl (by decide)) (he.i hz (hJ.vals 13 (hd 13 (by kernel_rfl))) (j := 13) (d := 26) rfl (by decide))) (hJ.pure 14 rfl rfl)
set_option maxRecDepth 100000 in
set_option maxHeartbeats 2000000 in
theorem rtout_yes (w : World) (G : GlobR w) (base g : Nat) (v4 v5 v6 : Value) (r : RF) (p : Pk) (F : RFAt w base g v4 v5 v6 r) (hle : r.k.length ≤ 1000) (hp : p.ok) (ix : Nat) (hlt : ix < r.k.length) (hix : findI r.k p.seq = (ix : Int)) (tx cx : ByteArray) (htx : (r.k[ix]'hlt).2 = tx) (hcx : p.comm = cx) (hq : (tx.toList == cx.toList) = true) :
    Calls Tryd.prog 42 #[.pointer (some ⟨g, 0, none⟩), p.v] w fun e w' => e = .returned (.int .i64 0) ∧ (∃ u4, RFAt w' base g u4 v5 v6 { r with k := r.k.eraseIdx ix }) ∧ Only (rbl g v4 v5 v6) w w' := by
  obtain ⟨sq, fr, to_, dt, tm⟩ := p
  have HF := Lib.hid F
  have HPk := Lib.hid hp
  have HG := Lib.hid G
  clear F hp G
  have hcx' : Pk.comm ⟨sq, fr, to_, dt, tm⟩ = cx := hcx
  have HFI : Hid (findI r.k sq = (ix : Int)) := Lib.hid hix
  have HTx : Hid ((r.k[ix]'hlt).2 = tx) := Lib.hid htx
  have HCx := Lib.hid hcx'
  have HQ : Hid ((tx.toList == cx.toList) = true) := Lib.hid hq
  clear htx hcx hcx' hq hix
  show Calls Tryd.prog 42 #[.pointer (some ⟨g, 0, none⟩), .agg #[.int .u64 sq, .int .u64 fr, .int .u64 to_, .string dt, .int .u64 tm]] w _
  go_enter Tryd.func42, Tryd.ntmps42
  go_upto_region 1 with fail
  have hP := Blk.new w 24 #[.int .u64 sq, .int .u64 fr, .int .u64 to_, .string dt, .int .u64 tm]
  have HL1 := Lib.hid (balloc (Below.refl _ w) (.cells #[.int .u64 sq, .int .u64 fr, .int .u64 to_, .string dt, .int .u64 tm] 24))
  generalize w.alloc (.cells #[.int .u64 sq, .int .u64 fr, .int .u64 to_, .string dt, .int .u64 tm] 24) = w1 at hP HL1 ⊢
  have HF1 := Lib.hid (HF.out.below HL1.out)
  have HP1 := Lib.hid hP
  have p0 : w1.cell? ⟨w.heap.size, 0, none⟩ = some (.int .u64 sq) := hP.cell 0
  have c4 : w1.cell? ⟨g, 4, none⟩ = some v4 := HF1.out.blk.cell 4
  have HFind : Hid (∀ m, Calls Tryd.prog 77 #[v4, .int .u64 sq] (w1.drewN m) fun e w' => e = .returned (.int .i64 (ix : Int)) ∧ w' = w1.drewN m) := Lib.hid (fun m => (find_is (w1.drewN m) base v4 r.k sq (HF1.out.below (below_drewN' (Below.refl _ w1) m)).k hle).mono fun e w' ⟨h1, h2⟩ => ⟨by rw [h1, HFI.out], h2.symm⟩)
  clear hP
  obtain ⟨ao, cap, hv4, hc4⟩ := HF1.out.k.form
  rw [hv4] at c4 HFind
  obtain ⟨gk, hao, c8, c9⟩ := hc4 _ hlt
  subst hao
  rw [HTx.out] at c9
  go_quiet ((go_at_call 77; exact Calls.quiet_of_same (HFind.out _)))
  have HL2 : Hid (Below w.heap.size w (w1.drewN nq).drew) := Lib.hid (below_drewN' HL1.out nq).drew
  have HF2 : Hid (RFAt (w1.drewN nq).drew base g v4 v5 v6 r) := Lib.hid (HF1.out.below (below_drewN' (Below.refl _ w1) nq).drew)
  have HP2 : Hid (Blk (w1.drewN nq).drew w.heap.size 24 #[.int .u64 sq, .int .u64 fr, .int .u64 to_, .string dt, .int .u64 tm]) := Lib.hid HP1.out
  have c9' : (w1.drewN nq).drew.cell? ⟨gk, ix * 2 + 1, none⟩ = some (.string tx) := c9
  clear p0 c4 c8 c9 HF1 HP1 HFind HL1 hc4
  generalize w1.drewN nq = w2 at HF2 HP2 HL2 c9' ⊢
  have v4c : Hid (∀ W, Below w2.drew.heap.size w2.drew W → W.cell? ⟨g, 4, none⟩ = some (.slice (some ⟨gk, 0, none⟩) r.k.length cap)) := Lib.hid (fun W hb => ((HF2.out.blk.below hb).cell 4).trans (by rw [← hv4]; rfl))
  have txc : Hid (∀ W, Below w2.drew.heap.size w2.drew W → W.cell? ⟨gk, ix * 2 + 1, none⟩ = some (.string tx)) := Lib.hid (fun W hb => (hb.cell (p := ⟨gk, ix * 2 + 1, none⟩) (World.ownsRow.lt HF2.out.k gk (by rw [hv4]; rfl)).2).trans c9')
  have pkc : Hid (∀ W, Below w2.drew.heap.size w2.drew W → Blk W w.heap.size 24 #[.int .u64 sq, .int .u64 fr, .int .u64 to_, .string dt, .int .u64 tm]) := Lib.hid (fun W hb => HP2.out.below hb)
  have HGd := Lib.hid (HG.out.below HL2.out HG.out.four)
  have HV4 := Lib.hid hv4
  clear c9' hv4
  go_upto_region 2 with fail
  refine wp_abs fun a0 hA => ?_
  have h0 : a0.eval (.tmp 0) = .pointer (some ⟨g, 0, none⟩) := by rw [hA]; rfl
  have h3 : a0.eval (.tmp 3) = .pointer (some ⟨w.heap.size, 0, none⟩) := by rw [hA]; rfl
  have h5 : a0.eval (.tmp 5) = .int .i64 (ix : Int) := by rw [hA]; rfl
  have hz : a0.tmps.size = 31 := by rw [hA]; rfl
  refine wp_region_K [some 13, some 14, some 15, some 16, some 17, some 18, some 19, some 20, some 21, some 22, some 23, some 24, some 25, some 26, some 27] 31 (CJ (tmV g gk r.k.length cap ix sq fr to_ tm dt tx cx w.heap.size) (fun _ _ => True) [12] (bwS w2.drew)) (by kernel_rfl) (by kernel_rfl) (by kernel_rfl) rfl (by kernel_rfl) hz (CJ.start (fun i => trivial) ⟨Nat.zero_le 1, Below.refl _ _⟩) ?_ ⟨?_, ?_, ?_, ?_, ?_, ?_, ?_, ?_, ?_, ?_, ?_, ?_, ?_, ?_, ?_, trivial⟩
  · intro d u W hd hJ
    have HW := Lib.hid (bwS_inv hJ)
    have e14 : u 14 = .bool false := (hJ.vals 14 (hd 14 (by decide))).trans (by rw [HQ.out]; rfl)
    rw [hA]
    simp only [putAll, Act.put, List.setIfInBounds_toArray, List.set_cons_zero, List.set_cons_succ]
    clear hJ hd h0 h3 h5 hz hA
    clear a0
    rw [e14]
    have HL3 := Lib.hid (bstep HL2.out HW.out)
    have HF3 := Lib.hid (HF2.out.below HW.out)
    clear e14 HW
    go_wp2_with fail
    refine (rdrop_is W base g v4 v5 v6 r HF3.out ix hlt hle).mono ?_
    rintro e w5 ⟨rfl, ⟨u4, hR⟩, hO⟩
    have HR := Lib.hid hR
    have HO := Lib.hid hO
    clear hR hO
    go_wp2_with fail
    go_ret
    exact ⟨rfl, ⟨u4, HR.out⟩, (Only.of_below HL3.out).trans HO.out⟩
  · exact KStep.plain rfl fun ρ d u W he hc hdi hd hJ => swp_val (run_move (he.o h5 rfl)) (hJ.pure 0 rfl rfl)
  · exact KStep.plain rfl fun ρ d u W he hc hdi hd hJ => swp_val (run_bin (he.i hz (hJ.vals 0 (hd 0 (by kernel_rfl))) (j := 0) (d := 13) rfl (by decide)) (he.const _) rfl (by go_simp)) (hJ.pure 1 rfl rfl)
  · exact KStep.plain rfl fun ρ d u W he hc hdi hd hJ => swp_val (run_move (he.i hz (hJ.vals 1 (hd 1 (by kernel_rfl))) (j := 1) (d := 14) rfl (by decide))) (hJ.pure 2 rfl rfl)
  · exact KStep.gd 2 false rfl (by kernel_rfl) (fun d u W hJ hd => hJ.vals 2 hd) fun ρ d u W he hc hdi hd hJ => swp_val (run_move (he.o h0 rfl)) (hJ.pure 3 rfl rfl)
  · exact KStep.gd 2 false rfl (by kernel_rfl) (fun d u W hJ hd => hJ.vals 2 hd) fun ρ d u W he hc hdi hd hJ => swp_val (run_nilCheck (he.i hz (hJ.vals 3 (hd 3 (by kernel_rfl))) (j := 3) (d := 16) rfl (by decide))) (hJ.pure 4 rfl rfl)
  · exact KStep.gd 2 false rfl (by kernel_rfl) (fun d u W hJ hd => hJ.vals 2 hd) fun ρ d u W he hc hdi hd hJ => swp_val (run_fieldAddr (he.i hz (hJ.vals 4 (hd 4 (by kernel_rfl))) (j := 4) (d := 17) rfl (by decide)) (by go_simp)) (hJ.pure 5 rfl rfl)
  · exact KStep.gd 2 false rfl (by kernel_rfl) (fun d u W hJ hd => hJ.vals 2 hd) fun ρ d u W he hc hdi hd hJ => swp_val (run_load (he.i hz (hJ.vals 5 (hd 5 (by kernel_rfl))) (j := 5) (d := 18) rfl (by decide)) (ld_slk (v4c.out W (bwS_inv hJ)))) (hJ.pure 6 rfl rfl)
  · exact KStep.gd 2 false rfl (by kernel_rfl) (fun d u W hJ hd => hJ.vals 2 hd) fun ρ d u W he hc hdi hd hJ => swp_val (run_move (he.o h5 rfl)) (hJ.pure 7 rfl rfl)
  · exact KStep.gd 2 false rfl (by kernel_rfl) (fun d u W hJ hd => hJ.vals 2 hd) fun ρ d u W he hc hdi hd hJ => swp_val (run_indexAddr (he.i hz (hJ.vals 6 (hd 6 (by kernel_rfl))) (j := 6) (d := 19) rfl (by decide)) (he.i hz (hJ.vals 7 (hd 7 (by kernel_rfl))) (j := 7) (d := 20) rfl (by decide)) (ix_kept hlt)) (hJ.pure 8 rfl rfl)
  · exact KStep.gd 2 false rfl (by kernel_rfl) (fun d u W hJ hd => hJ.vals 2 hd) fun ρ d u W he hc hdi hd hJ => swp_val (run_fieldAddr (he.i hz (hJ.vals 8 (hd 8 (by kernel_rfl))) (j := 8) (d := 21) rfl (by decide)) fld_kept) (hJ.pure 9 rfl rfl)
  · exact KStep.gd 2 false rfl (by kernel_rfl) (fun d u W hJ hd => hJ.vals 2 hd) fun ρ d u W he hc hdi hd hJ => swp_val (run_load (he.i hz (hJ.vals 9 (hd 9 (by kernel_rfl))) (j := 9) (d := 22) rfl (by decide)) (ld_s (txc.out W (bwS_inv hJ)))) (hJ.pure 10 rfl rfl)
  · exact KStep.gd 2 false rfl (by kernel_rfl) (fun d u W hJ hd => hJ.vals 2 hd) fun ρ d u W he hc hdi hd hJ => swp_val (run_load (he.o h3 rfl) (ld_pk (pkc.out W (bwS_inv hJ)))) (hJ.pure 11 rfl rfl)
  · exact KStep.gd 2 false rfl (by kernel_rfl) (fun d u W hJ hd => hJ.vals 2 hd) fun ρ d u W he hc hdi hd hJ => swp_call (run_call #[.agg #[.int .u64 sq, .int .u64 fr, .int .u64 to_, .string dt, .int .u64 tm]] (he.func _) (by kernel_rfl) (map1 (he.i hz (hJ.vals 11 (hd 11 (by kernel_rfl))) (j := 11) (d := 24) rfl (by decide)))) (rcomm_is ⟨sq, fr, to_, dt, tm⟩ W (HGd.out.below (bwS_inv hJ) HGd.out.four) HPk.out) (fun e W' h => ⟨_, by rw [h.1, HCx.out], hJ.go 0 rfl hdi (by decide) (fun j h => by omega) rfl ⟨Nat.le_refl 1, bstep (bwS_inv hJ) h.2⟩⟩)
  · exact KStep.gd 2 false rfl (by kernel_rfl) (fun d u W hJ hd => hJ.vals 2 hd) fun ρ d u W he hc hdi hd hJ => swp_val (run_bin (he.i hz (hJ.vals 10 (hd 10 (by kernel_rfl))) (j := 10) (d := 23) rfl (by decide)) (he.i hz (hJ.vals 12 (hd 12 (by kernel_rfl))) (j := 12) (d := 25) rfl (by decide)) rfl (by go_simp)) (hJ.pure 13 rfl rfl)
  · exact KStep.plain rfl fun ρ d u W he hc hdi hd hJ => swp_val (run_pick_f (he.i hz (hJ.vals 2 (hd 2 (by kernel_rfl))) (j := 2) (d := 15) rfl (by decide)) (he.i hz (hJ.vals 13 (hd 13 (by kernel_rfl))) (j := 13) (d := 26) rfl (by decide))) (hJ.pure 14 rfl rfl)
set_option maxRecDepth 100000 in
set_option maxHeartbeats 2000000 in
theorem rack_un (w : World) (G : GlobR w) (base g : Nat) (v4 v5 v6 : Value) (r : RF) (p : Pk) (F : RFAt w base g v4 v5 v6 r) (hle : r.k.length ≤ 1000) (hp : p.ok) (ix : Nat) (hlt : ix < r.k.length) (hix : findI r.k p.seq = (ix : Int)) (tx cx : ByteArray) (htx : (r.k[ix]'hlt).2 = tx) (hcx : p.comm = cx) (hq : (tx.toList == cx.toList) = true) (ho : r.o = false) :
    Calls Tryd.prog 41 #[.pointer (some ⟨g, 0, none⟩), p.v] w fun e w' => e = .returned (.int .i64 0) ∧ (∃ u4, RFAt w' base g u4 v5 v6 { r with k := r.k.eraseIdx ix }) ∧ Only (rbl g v4 v5 v6) w w' := by
  obtain ⟨sq, fr, to_, dt, tm⟩ := p
  have HF := Lib.hid F
  have HPk := Lib.hid hp
  have HG := Lib.hid G
  clear F hp G
  have hcx' : Pk.comm ⟨sq, fr, to_, dt, tm⟩ = cx := hcx
  have HFI : Hid (findI r.k sq = (ix : Int)) := Lib.hid hix
  have HTx : Hid ((r.k[ix]'hlt).2 = tx) := Lib.hid htx
  have HCx := Lib.hid hcx'
  have HQ : Hid ((tx.toList == cx.toList) = true) := Lib.hid hq
  clear htx hcx hcx' hq hix
  show Calls Tryd.prog 41 #[.pointer (some ⟨g, 0, none⟩), .agg #[.int .u64 sq, .int .u64 fr, .int .u64 to_, .string dt, .int .u64 tm]] w _
  go_enter Tryd.func41, Tryd.ntmps41
  go_upto_region 1 with fail
  have hP := Blk.new w 24 #[.int .u64 sq, .int .u64 fr, .int .u64 to_, .string dt, .int .u64 tm]
  have HL1 := Lib.hid (balloc (Below.refl _ w) (.cells #[.int .u64 sq, .int .u64 fr, .int .u64 to_, .string dt, .int .u64 tm] 24))
  generalize w.alloc (.cells #[.int .u64 sq, .int .u64 fr, .int .u64 to_, .string dt, .int .u64 tm] 24) = w1 at hP HL1 ⊢
  have HF1 := Lib.hid (HF.out.below HL1.out)
  have HP1 := Lib.hid hP
  have p0 : w1.cell? ⟨w.heap.size, 0, none⟩ = some (.int .u64 sq) := hP.cell 0
  have c4 : w1.cell? ⟨g, 4, none⟩ = some v4 := HF1.out.blk.cell 4
  have HFind : Hid (∀ m, Calls Tryd.prog 77 #[v4, .int .u64 sq] (w1.drewN m) fun e w' => e = .returned (.int .i64 (ix : Int)) ∧ w' = w1.drewN m) := Lib.hid (fun m => (find_is (w1.drewN m) base v4 r.k sq (HF1.out.below (below_drewN' (Below.refl _ w1) m)).k hle).mono fun e w' ⟨h1, h2⟩ => ⟨by rw [h1, HFI.out], h2.symm⟩)
  clear hP
  obtain ⟨ao, cap, hv4, hc4⟩ := HF1.out.k.form
  rw [hv4] at c4 HFind
  obtain ⟨gk, hao, c8, c9⟩ := hc4 _ hlt
  subst hao
  rw [HTx.out] at c9
  go_quiet ((go_at_call 77; exact Calls.quiet_of_same (HFind.out _)))
  have HL2 : Hid (Below w.heap.size w (w1.drewN nq).drew) := Lib.hid (below_drewN' HL1.out nq).drew
  have HF2 : Hid (RFAt (w1.drewN nq).drew base g v4 v5 v6 r) := Lib.hid (HF1.out.below (below_drewN' (Below.refl _ w1) nq).drew)
  have HP2 : Hid (Blk (w1.drewN nq).drew w.heap.size 24 #[.int .u64 sq, .int .u64 fr, .int .u64 to_, .string dt, .int .u64 tm]) := Lib.hid HP1.out
  have c9' : (w1.drewN nq).drew.cell? ⟨gk, ix * 2 + 1, none⟩ = some (.string tx) := c9
  clear p0 c4 c8 c9 HF1 HP1 HFind HL1 hc4
  generalize w1.drewN nq = w2 at HF2 HP2 HL2 c9' ⊢
  have v4c : Hid (∀ W, Below w2.drew.heap.size w2.drew W → W.cell? ⟨g, 4, none⟩ = some (.slice (some ⟨gk, 0, none⟩) r.k.length cap)) := Lib.hid (fun W hb => ((HF2.out.blk.below hb).cell 4).trans (by rw [← hv4]; rfl))
  have txc : Hid (∀ W, Below w2.drew.heap.size w2.drew W → W.cell? ⟨gk, ix * 2 + 1, none⟩ = some (.string tx)) := Lib.hid (fun W hb => (hb.cell (p := ⟨gk, ix * 2 + 1, none⟩) (World.ownsRow.lt HF2.out.k gk (by rw [hv4]; rfl)).2).trans c9')
  have pkc : Hid (∀ W, Below w2.drew.heap.size w2.drew W → Blk W w.heap.size 24 #[.int .u64 sq, .int .u64 fr, .int .u64 to_, .string dt, .int .u64 tm]) := Lib.hid (fun W hb => HP2.out.below hb)
  have HGd := Lib.hid (HG.out.below HL2.out HG.out.four)
  have HV4 := Lib.hid hv4
  clear c9' hv4
  go_upto_region 2 with fail
  refine wp_abs fun a0 hA => ?_
  have h0 : a0.eval (.tmp 0) = .pointer (some ⟨g, 0, none⟩) := by rw [hA]; rfl
  have h3 : a0.eval (.tmp 3) = .pointer (some ⟨w.heap.size, 0, none⟩) := by rw [hA]; rfl
  have h5 : a0.eval (.tmp 5) = .int .i64 (ix : Int) := by rw [hA]; rfl
  have hz : a0.tmps.size = 49 := by rw [hA]; rfl
  refine wp_region_K [some 13, some 14, some 15, some 16, some 17, some 18, some 19, some 20, some 21, some 22, some 23, some 24, some 25, some 26, some 27] 49 (CJ (tmV g gk r.k.length cap ix sq fr to_ tm dt tx cx w.heap.size) (fun _ _ => True) [12] (bwS w2.drew)) (by kernel_rfl) (by kernel_rfl) (by kernel_rfl) rfl (by kernel_rfl) hz (CJ.start (fun i => trivial) ⟨Nat.zero_le 1, Below.refl _ _⟩) ?_ ⟨?_, ?_, ?_, ?_, ?_, ?_, ?_, ?_, ?_, ?_, ?_, ?_, ?_, ?_, ?_, trivial⟩
  · intro d u W hd hJ
    have HW := Lib.hid (bwS_inv hJ)
    have e14 : u 14 = .bool false := (hJ.vals 14 (hd 14 (by decide))).trans (by rw [HQ.out]; rfl)
    rw [hA]
    simp only [putAll, Act.put, List.setIfInBounds_toArray, List.set_cons_zero, List.set_cons_succ]
    clear hJ hd h0 h3 h5 hz hA
    clear a0
    rw [e14]
    have HL3 := Lib.hid (bstep HL2.out HW.out)
    have HF3 := Lib.hid (HF2.out.below HW.out)
    have HP3 : Hid (Blk W w.heap.size 24 #[.int .u64 sq, .int .u64 fr, .int .u64 to_, .string dt, .int .u64 tm]) := Lib.hid (pkc.out W HW.out)
    clear e14 HW v4c txc pkc HP2 HGd
    have hlw : w.heap.size < W.heap.size := HP3.out.lt
    have q0 : W.cell? ⟨w.heap.size, 0, none⟩ = some (.int .u64 sq) := HP3.out.cell 0
    have c0 : W.cell? ⟨g, 0, none⟩ = some (.bool r.o) := HF3.out.blk.cell 0
    have c3 : W.cell? ⟨g, 3, none⟩ = some (.int .u64 r.A) := HF3.out.blk.cell 3
    have f3 := HF3.out.blk.frozen 3
    rw [ho] at c0
    clear ho hlw
    go_wp2_with fail
    refine (rdrop_is W base g v4 v5 v6 r HF3.out ix hlt hle).mono ?_
    rintro e w5 ⟨rfl, ⟨u4, hR⟩, hO⟩
    have HR := Lib.hid hR
    have HO := Lib.hid hO
    clear hR hO
    go_wp2_with fail
    go_ret
    exact ⟨rfl, ⟨u4, HR.out⟩, (Only.of_below HL3.out).trans HO.out⟩
  · exact KStep.plain rfl fun ρ d u W he hc hdi hd hJ => swp_val (run_move (he.o h5 rfl)) (hJ.pure 0 rfl rfl)
  · exact KStep.plain rfl fun ρ d u W he hc hdi hd hJ => swp_val (run_bin (he.i hz (hJ.vals 0 (hd 0 (by kernel_rfl))) (j := 0) (d := 13) rfl (by decide)) (he.const _) rfl (by go_simp)) (hJ.pure 1 rfl rfl)
  · exact KStep.plain rfl fun ρ d u W he hc hdi hd hJ => swp_val (run_move (he.i hz (hJ.vals 1 (hd 1 (by kernel_rfl))) (j := 1) (d := 14) rfl (by decide))) (hJ.pure 2 rfl rfl)
  · exact KStep.gd 2 false rfl (by kernel_rfl) (fun d u W hJ hd => hJ.vals 2 hd) fun ρ d u W he hc hdi hd hJ => swp_val (run_move (he.o h0 rfl)) (hJ.pure 3 rfl rfl)
  · exact KStep.gd 2 false rfl (by kernel_rfl) (fun d u W hJ hd => hJ.vals 2 hd) fun ρ d u W he hc hdi hd hJ => swp_val (run_nilCheck (he.i hz (hJ.vals 3 (hd 3 (by kernel_rfl))) (j := 3) (d := 16) rfl (by decide))) (hJ.pure 4 rfl rfl)
  · exact KStep.gd 2 false rfl (by kernel_rfl) (fun d u W hJ hd => hJ.vals 2 hd) fun ρ d u W he hc hdi hd hJ => swp_val (run_fieldAddr (he.i hz (hJ.vals 4 (hd 4 (by kernel_rfl))) (j := 4) (d := 17) rfl (by decide)) (by go_simp)) (hJ.pure 5 rfl rfl)
  · exact KStep.gd 2 false rfl (by kernel_rfl) (fun d u W hJ hd => hJ.vals 2 hd) fun ρ d u W he hc hdi hd hJ => swp_val (run_load (he.i hz (hJ.vals 5 (hd 5 (by kernel_rfl))) (j := 5) (d := 18) rfl (by decide)) (ld_slk (v4c.out W (bwS_inv hJ)))) (hJ.pure 6 rfl rfl)
  · exact KStep.gd 2 false rfl (by kernel_rfl) (fun d u W hJ hd => hJ.vals 2 hd) fun ρ d u W he hc hdi hd hJ => swp_val (run_move (he.o h5 rfl)) (hJ.pure 7 rfl rfl)
  · exact KStep.gd 2 false rfl (by kernel_rfl) (fun d u W hJ hd => hJ.vals 2 hd) fun ρ d u W he hc hdi hd hJ => swp_val (run_indexAddr (he.i hz (hJ.vals 6 (hd 6 (by kernel_rfl))) (j := 6) (d := 19) rfl (by decide)) (he.i hz (hJ.vals 7 (hd 7 (by kernel_rfl))) (j := 7) (d := 20) rfl (by decide)) (ix_kept hlt)) (hJ.pure 8 rfl rfl)
  · exact KStep.gd 2 false rfl (by kernel_rfl) (fun d u W hJ hd => hJ.vals 2 hd) fun ρ d u W he hc hdi hd hJ => swp_val (run_fieldAddr (he.i hz (hJ.vals 8 (hd 8 (by kernel_rfl))) (j := 8) (d := 21) rfl (by decide)) fld_kept) (hJ.pure 9 rfl rfl)
  · exact KStep.gd 2 false rfl (by kernel_rfl) (fun d u W hJ hd => hJ.vals 2 hd) fun ρ d u W he hc hdi hd hJ => swp_val (run_load (he.i hz (hJ.vals 9 (hd 9 (by kernel_rfl))) (j := 9) (d := 22) rfl (by decide)) (ld_s (txc.out W (bwS_inv hJ)))) (hJ.pure 10 rfl rfl)
  · exact KStep.gd 2 false rfl (by kernel_rfl) (fun d u W hJ hd => hJ.vals 2 hd) fun ρ d u W he hc hdi hd hJ => swp_val (run_load (he.o h3 rfl) (ld_pk (pkc.out W (bwS_inv hJ)))) (hJ.pure 11 rfl rfl)
  · exact KStep.gd 2 false rfl (by kernel_rfl) (fun d u W hJ hd => hJ.vals 2 hd) fun ρ d u W he hc hdi hd hJ => swp_call (run_call #[.agg #[.int .u64 sq, .int .u64 fr, .int .u64 to_, .string dt, .int .u64 tm]] (he.func _) (by kernel_rfl) (map1 (he.i hz (hJ.vals 11 (hd 11 (by kernel_rfl))) (j := 11) (d := 24) rfl (by decide)))) (rcomm_is ⟨sq, fr, to_, dt, tm⟩ W (HGd.out.below (bwS_inv hJ) HGd.out.four) HPk.out) (fun e W' h => ⟨_, by rw [h.1, HCx.out], hJ.go 0 rfl hdi (by decide) (fun j h => by omega) rfl ⟨Nat.le_refl 1, bstep (bwS_inv hJ) h.2⟩⟩)
  · exact KStep.gd 2 false rfl (by kernel_rfl) (fun d u W hJ hd => hJ.vals 2 hd) fun ρ d u W he hc hdi hd hJ => swp_val (run_bin (he.i hz (hJ.vals 10 (hd 10 (by kernel_rfl))) (j := 10) (d := 23) rfl (by decide)) (he.i hz (hJ.vals 12 (hd 12 (by kernel_rfl))) (j := 12) (d := 25) rfl (by decide)) rfl (by go_simp)) (hJ.pure 13 rfl rfl)
  · exact KStep.plain rfl fun ρ d u W he hc hdi hd hJ => swp_val (run_pick_f (he.i hz (hJ.vals 2 (hd 2 (by kernel_rfl))) (j := 2) (d := 15) rfl (by decide)) (he.i hz (hJ.vals 13 (hd 13 (by kernel_rfl))) (j := 13) (d := 26) rfl (by decide))) (hJ.pure 14 rfl rfl)
set_option maxRecDepth 100000 in
set_option maxHeartbeats 2000000 in
theorem rack_late (w : World) (G : GlobR w) (base g : Nat) (v4 v5 v6 : Value) (r : RF) (p : Pk) (F : RFAt w base g v4 v5 v6 r) (hle : r.k.length ≤ 1000) (hp : p.ok) (ix : Nat) (hlt : ix < r.k.length) (hix : findI r.k p.seq = (ix : Int)) (tx cx : ByteArray) (htx : (r.k[ix]'hlt).2 = tx) (hcx : p.comm = cx) (hq : (tx.toList == cx.toList) = true) (ho : r.o = true) (hs : p.seq ≠ r.A) :
    Calls Tryd.prog 41 #[.pointer (some ⟨g, 0, none⟩), p.v] w fun e w' => e = .returned (.int .i64 183) ∧ Below w.heap.size w w' := by
  obtain ⟨sq, fr, to_, dt, tm⟩ := p
  have HF := Lib.hid F
  have HPk := Lib.hid hp
  have HG := Lib.hid G
  clear F hp G
  have hcx' : Pk.comm ⟨sq, fr, to_, dt, tm⟩ = cx := hcx
  have HFI : Hid (findI r.k sq = (ix : Int)) := Lib.hid hix
  have HTx : Hid ((r.k[ix]'hlt).2 = tx) := Lib.hid htx
  have HCx := Lib.hid hcx'
  have HQ : Hid ((tx.toList == cx.toList) = true) := Lib.hid hq
  clear htx hcx hcx' hq hix
  show Calls Tryd.prog 41 #[.pointer (some ⟨g, 0, none⟩), .agg #[.int .u64 sq, .int .u64 fr, .int .u64 to_, .string dt, .int .u64 tm]] w _
  go_enter Tryd.func41, Tryd.ntmps41
  go_upto_region 1 with fail
  have hP := Blk.new w 24 #[.int .u64 sq, .int .u64 fr, .int .u64 to_, .string dt, .int .u64 tm]
  have HL1 := Lib.hid (balloc (Below.refl _ w) (.cells #[.int .u64 sq, .int .u64 fr, .int .u64 to_, .string dt, .int .u64 tm] 24))
  generalize w.alloc (.cells #[.int .u64 sq, .int .u64 fr, .int .u64 to_, .string dt, .int .u64 tm] 24) = w1 at hP HL1 ⊢
  have HF1 := Lib.hid (HF.out.below HL1.out)
  have HP1 := Lib.hid hP
  have p0 : w1.cell? ⟨w.heap.size, 0, none⟩ = some (.int .u64 sq) := hP.cell 0
  have c4 : w1.cell? ⟨g, 4, none⟩ = some v4 := HF1.out.blk.cell 4
  have HFind : Hid (∀ m, Calls Tryd.prog 77 #[v4, .int .u64 sq] (w1.drewN m) fun e w' => e = .returned (.int .i64 (ix : Int)) ∧ w' = w1.drewN m) := Lib.hid (fun m => (find_is (w1.drewN m) base v4 r.k sq (HF1.out.below (below_drewN' (Below.refl _ w1) m)).k hle).mono fun e w' ⟨h1, h2⟩ => ⟨by rw [h1, HFI.out], h2.symm⟩)
  clear hP
  obtain ⟨ao, cap, hv4, hc4⟩ := HF1.out.k.form
  rw [hv4] at c4 HFind
  obtain ⟨gk, hao, c8, c9⟩ := hc4 _ hlt
  subst hao
  rw [HTx.out] at c9
  go_quiet ((go_at_call 77; exact Calls.quiet_of_same (HFind.out _)))
  have HL2 : Hid (Below w.heap.size w (w1.drewN nq).drew) := Lib.hid (below_drewN' HL1.out nq).drew
  have HF2 : Hid (RFAt (w1.drewN nq).drew base g v4 v5 v6 r) := Lib.hid (HF1.out.below (below_drewN' (Below.refl _ w1) nq).drew)
  have HP2 : Hid (Blk (w1.drewN nq).drew w.heap.size 24 #[.int .u64 sq, .int .u64 fr, .int .u64 to_, .string dt, .int .u64 tm]) := Lib.hid HP1.out
  have c9' : (w1.drewN nq).drew.cell? ⟨gk, ix * 2 + 1, none⟩ = some (.string tx) := c9
  clear p0 c4 c8 c9 HF1 HP1 HFind HL1 hc4
  generalize w1.drewN nq = w2 at HF2 HP2 HL2 c9' ⊢
  have v4c : Hid (∀ W, Below w2.drew.heap.size w2.drew W → W.cell? ⟨g, 4, none⟩ = some (.slice (some ⟨gk, 0, none⟩) r.k.length cap)) := Lib.hid (fun W hb => ((HF2.out.blk.below hb).cell 4).trans (by rw [← hv4]; rfl))
  have txc : Hid (∀ W, Below w2.drew.heap.size w2.drew W → W.cell? ⟨gk, ix * 2 + 1, none⟩ = some (.string tx)) := Lib.hid (fun W hb => (hb.cell (p := ⟨gk, ix * 2 + 1, none⟩) (World.ownsRow.lt HF2.out.k gk (by rw [hv4]; rfl)).2).trans c9')
  have pkc : Hid (∀ W, Below w2.drew.heap.size w2.drew W → Blk W w.heap.size 24 #[.int .u64 sq, .int .u64 fr, .int .u64 to_, .string dt, .int .u64 tm]) := Lib.hid (fun W hb => HP2.out.below hb)
  have HGd := Lib.hid (HG.out.below HL2.out HG.out.four)
  have HV4 := Lib.hid hv4
  clear c9' hv4
  go_upto_region 2 with fail
  refine wp_abs fun a0 hA => ?_
  have h0 : a0.eval (.tmp 0) = .pointer (some ⟨g, 0, none⟩) := by rw [hA]; rfl
  have h3 : a0.eval (.tmp 3) = .pointer (some ⟨w.heap.size, 0, none⟩) := by rw [hA]; rfl
  have h5 : a0.eval (.tmp 5) = .int .i64 (ix : Int) := by rw [hA]; rfl
  have hz : a0.tmps.size = 49 := by rw [hA]; rfl
  refine wp_region_K [some 13, some 14, some 15, some 16, some 17, some 18, some 19, some 20, some 21, some 22, some 23, some 24, some 25, some 26, some 27] 49 (CJ (tmV g gk r.k.length cap ix sq fr to_ tm dt tx cx w.heap.size) (fun _ _ => True) [12] (bwS w2.drew)) (by kernel_rfl) (by kernel_rfl) (by kernel_rfl) rfl (by kernel_rfl) hz (CJ.start (fun i => trivial) ⟨Nat.zero_le 1, Below.refl _ _⟩) ?_ ⟨?_, ?_, ?_, ?_, ?_, ?_, ?_, ?_, ?_, ?_, ?_, ?_, ?_, ?_, ?_, trivial⟩
  · intro d u W hd hJ
    have HW := Lib.hid (bwS_inv hJ)
    have e14 : u 14 = .bool false := (hJ.vals 14 (hd 14 (by decide))).trans (by rw [HQ.out]; rfl)
    rw [hA]
    simp only [putAll, Act.put, List.setIfInBounds_toArray, List.set_cons_zero, List.set_cons_succ]
    clear hJ hd h0 h3 h5 hz hA
    clear a0
    rw [e14]
    have HL3 := Lib.hid (bstep HL2.out HW.out)
    have HF3 := Lib.hid (HF2.out.below HW.out)
    have HP3 : Hid (Blk W w.heap.size 24 #[.int .u64 sq, .int .u64 fr, .int .u64 to_, .string dt, .int .u64 tm]) := Lib.hid (pkc.out W HW.out)
    clear e14 HW v4c txc pkc HP2 HGd
    have hlw : w.heap.size < W.heap.size := HP3.out.lt
    have q0 : W.cell? ⟨w.heap.size, 0, none⟩ = some (.int .u64 sq) := HP3.out.cell 0
    have c0 : W.cell? ⟨g, 0, none⟩ = some (.bool r.o) := HF3.out.blk.cell 0
    have c3 : W.cell? ⟨g, 3, none⟩ = some (.int .u64 r.A) := HF3.out.blk.cell 3
    have f3 := HF3.out.blk.frozen 3
    rw [ho] at c0
    clear ho hlw
    have t2 : (sq != r.A) = true := by have := hs; simpa using this
    go_wp2_with fail
    go_quiet (fail)
    go_wp2_with fail
    go_ret
    exact ⟨rfl, below_drewN' HL3.out nq⟩
  · exact KStep.plain rfl fun ρ d u W he hc hdi hd hJ => swp_val (run_move (he.o h5 rfl)) (hJ.pure 0 rfl rfl)
  · exact KStep.plain rfl fun ρ d u W he hc hdi hd hJ => swp_val (run_bin (he.i hz (hJ.vals 0 (hd 0 (by kernel_rfl))) (j := 0) (d := 13) rfl (by decide)) (he.const _) rfl (by go_simp)) (hJ.pure 1 rfl rfl)
  · exact KStep.plain rfl fun ρ d u W he hc hdi hd hJ => swp_val (run_move (he.i hz (hJ.vals 1 (hd 1 (by kernel_rfl))) (j := 1) (d := 14) rfl (by decide))) (hJ.pure 2 rfl rfl)
  · exact KStep.gd 2 false rfl (by kernel_rfl) (fun d u W hJ hd => hJ.vals 2 hd) fun ρ d u W he hc hdi hd hJ => swp_val (run_move (he.o h0 rfl)) (hJ.pure 3 rfl rfl)
  · exact KStep.gd 2 false rfl (by kernel_rfl) (fun d u W hJ hd => hJ.vals 2 hd) fun ρ d u W he hc hdi hd hJ => swp_val (run_nilCheck (he.i hz (hJ.vals 3 (hd 3 (by kernel_rfl))) (j := 3) (d := 16) rfl (by decide))) (hJ.pure 4 rfl rfl)
  · exact KStep.gd 2 false rfl (by kernel_rfl) (fun d u W hJ hd => hJ.vals 2 hd) fun ρ d u W he hc hdi hd hJ => swp_val (run_fieldAddr (he.i hz (hJ.vals 4 (hd 4 (by kernel_rfl))) (j := 4) (d := 17) rfl (by decide)) (by go_simp)) (hJ.pure 5 rfl rfl)
  · exact KStep.gd 2 false rfl (by kernel_rfl) (fun d u W hJ hd => hJ.vals 2 hd) fun ρ d u W he hc hdi hd hJ => swp_val (run_load (he.i hz (hJ.vals 5 (hd 5 (by kernel_rfl))) (j := 5) (d := 18) rfl (by decide)) (ld_slk (v4c.out W (bwS_inv hJ)))) (hJ.pure 6 rfl rfl)
  · exact KStep.gd 2 false rfl (by kernel_rfl) (fun d u W hJ hd => hJ.vals 2 hd) fun ρ d u W he hc hdi hd hJ => swp_val (run_move (he.o h5 rfl)) (hJ.pure 7 rfl rfl)
  · exact KStep.gd 2 false rfl (by kernel_rfl) (fun d u W hJ hd => hJ.vals 2 hd) fun ρ d u W he hc hdi hd hJ => swp_val (run_indexAddr (he.i hz (hJ.vals 6 (hd 6 (by kernel_rfl))) (j := 6) (d := 19) rfl (by decide)) (he.i hz (hJ.vals 7 (hd 7 (by kernel_rfl))) (j := 7) (d := 20) rfl (by decide)) (ix_kept hlt)) (hJ.pure 8 rfl rfl)
  · exact KStep.gd 2 false rfl (by kernel_rfl) (fun d u W hJ hd => hJ.vals 2 hd) fun ρ d u W he hc hdi hd hJ => swp_val (run_fieldAddr (he.i hz (hJ.vals 8 (hd 8 (by kernel_rfl))) (j := 8) (d := 21) rfl (by decide)) fld_kept) (hJ.pure 9 rfl rfl)
  · exact KStep.gd 2 false rfl (by kernel_rfl) (fun d u W hJ hd => hJ.vals 2 hd) fun ρ d u W he hc hdi hd hJ => swp_val (run_load (he.i hz (hJ.vals 9 (hd 9 (by kernel_rfl))) (j := 9) (d := 22) rfl (by decide)) (ld_s (txc.out W (bwS_inv hJ)))) (hJ.pure 10 rfl rfl)
  · exact KStep.gd 2 false rfl (by kernel_rfl) (fun d u W hJ hd => hJ.vals 2 hd) fun ρ d u W he hc hdi hd hJ => swp_val (run_load (he.o h3 rfl) (ld_pk (pkc.out W (bwS_inv hJ)))) (hJ.pure 11 rfl rfl)
  · exact KStep.gd 2 false rfl (by kernel_rfl) (fun d u W hJ hd => hJ.vals 2 hd) fun ρ d u W he hc hdi hd hJ => swp_call (run_call #[.agg #[.int .u64 sq, .int .u64 fr, .int .u64 to_, .string dt, .int .u64 tm]] (he.func _) (by kernel_rfl) (map1 (he.i hz (hJ.vals 11 (hd 11 (by kernel_rfl))) (j := 11) (d := 24) rfl (by decide)))) (rcomm_is ⟨sq, fr, to_, dt, tm⟩ W (HGd.out.below (bwS_inv hJ) HGd.out.four) HPk.out) (fun e W' h => ⟨_, by rw [h.1, HCx.out], hJ.go 0 rfl hdi (by decide) (fun j h => by omega) rfl ⟨Nat.le_refl 1, bstep (bwS_inv hJ) h.2⟩⟩)
  · exact KStep.gd 2 false rfl (by kernel_rfl) (fun d u W hJ hd => hJ.vals 2 hd) fun ρ d u W he hc hdi hd hJ => swp_val (run_bin (he.i hz (hJ.vals 10 (hd 10 (by kernel_rfl))) (j := 10) (d := 23) rfl (by decide)) (he.i hz (hJ.vals 12 (hd 12 (by kernel_rfl))) (j := 12) (d := 25) rfl (by decide)) rfl (by go_simp)) (hJ.pure 13 rfl rfl)
  · exact KStep.plain rfl fun ρ d u W he hc hdi hd hJ => swp_val (run_pick_f (he.i hz (hJ.vals 2 (hd 2 (by kernel_rfl))) (j := 2) (d := 15) rfl (by decide)) (he.i hz (hJ.vals 13 (hd 13 (by kernel_rfl))) (j := 13) (d := 26) rfl (by decide))) (hJ.pure 14 rfl rfl)
set_option maxRecDepth 100000 in
set_option maxHeartbeats 2000000 in
theorem rack_ord (w : World) (G : GlobR w) (base g : Nat) (v4 v5 v6 : Value) (r : RF) (p : Pk) (F : RFAt w base g v4 v5 v6 r) (hle : r.k.length ≤ 1000) (hp : p.ok) (ix : Nat) (hlt : ix < r.k.length) (hix : findI r.k p.seq = (ix : Int)) (tx cx : ByteArray) (htx : (r.k[ix]'hlt).2 = tx) (hcx : p.comm = cx) (hq : (tx.toList == cx.toList) = true) (ho : r.o = true) (hs : p.seq = r.A) :
    Calls Tryd.prog 41 #[.pointer (some ⟨g, 0, none⟩), p.v] w fun e w' => e = .returned (.int .i64 0) ∧ (∃ u4, RFAt w' base g u4 v5 v6 { r with k := r.k.eraseIdx ix, A := IntKind.u64.wrap (r.A + 1) }) ∧ Only (rbl g v4 v5 v6) w w' := by
  obtain ⟨sq, fr, to_, dt, tm⟩ := p
  have HF := Lib.hid F
  have HPk := Lib.hid hp
  have HG := Lib.hid G
  clear F hp G
  have hcx' : Pk.comm ⟨sq, fr, to_, dt, tm⟩ = cx := hcx
  have HFI : Hid (findI r.k sq = (ix : Int)) := Lib.hid hix
  have HTx : Hid ((r.k[ix]'hlt).2 = tx) := Lib.hid htx
  have HCx := Lib.hid hcx'
  have HQ : Hid ((tx.toList == cx.toList) = true) := Lib.hid hq
  clear htx hcx hcx' hq hix
  show Calls Tryd.prog 41 #[.pointer (some ⟨g, 0, none⟩), .agg #[.int .u64 sq, .int .u64 fr, .int .u64 to_, .string dt, .int .u64 tm]] w _
  go_enter Tryd.func41, Tryd.ntmps41
  go_upto_region 1 with fail
  have hP := Blk.new w 24 #[.int .u64 sq, .int .u64 fr, .int .u64 to_, .string dt, .int .u64 tm]
  have HL1 := Lib.hid (balloc (Below.refl _ w) (.cells #[.int .u64 sq, .int .u64 fr, .int .u64 to_, .string dt, .int .u64 tm] 24))
  generalize w.alloc (.cells #[.int .u64 sq, .int .u64 fr, .int .u64 to_, .string dt, .int .u64 tm] 24) = w1 at hP HL1 ⊢
  have HF1 := Lib.hid (HF.out.below HL1.out)
  have HP1 := Lib.hid hP
  have p0 : w1.cell? ⟨w.heap.size, 0, none⟩ = some (.int .u64 sq) := hP.cell 0
  have c4 : w1.cell? ⟨g, 4, none⟩ = some v4 := HF1.out.blk.cell 4
  have HFind : Hid (∀ m, Calls Tryd.prog 77 #[v4, .int .u64 sq] (w1.drewN m) fun e w' => e = .returned (.int .i64 (ix : Int)) ∧ w' = w1.drewN m) := Lib.hid (fun m => (find_is (w1.drewN m) base v4 r.k sq (HF1.out.below (below_drewN' (Below.refl _ w1) m)).k hle).mono fun e w' ⟨h1, h2⟩ => ⟨by rw [h1, HFI.out], h2.symm⟩)
  clear hP
  obtain ⟨ao, cap, hv4, hc4⟩ := HF1.out.k.form
  rw [hv4] at c4 HFind
  obtain ⟨gk, hao, c8, c9⟩ := hc4 _ hlt
  subst hao
  rw [HTx.out] at c9
  go_quiet ((go_at_call 77; exact Calls.quiet_of_same (HFind.out _)))
  have HL2 : Hid (Below w.heap.size w (w1.drewN nq).drew) := Lib.hid (below_drewN' HL1.out nq).drew
  have HF2 : Hid (RFAt (w1.drewN nq).drew base g v4 v5 v6 r) := Lib.hid (HF1.out.below (below_drewN' (Below.refl _ w1) nq).drew)
  have HP2 : Hid (Blk (w1.drewN nq).drew w.heap.size 24 #[.int .u64 sq, .int .u64 fr, .int .u64 to_, .string dt, .int .u64 tm]) := Lib.hid HP1.out
  have c9' : (w1.drewN nq).drew.cell? ⟨gk, ix * 2 + 1, none⟩ = some (.string tx) := c9
  clear p0 c4 c8 c9 HF1 HP1 HFind HL1 hc4
  generalize w1.drewN nq = w2 at HF2 HP2 HL2 c9' ⊢
  have v4c : Hid (∀ W, Below w2.drew.heap.size w2.drew W → W.cell? ⟨g, 4, none⟩ = some (.slice (some ⟨gk, 0, none⟩) r.k.length cap)) := Lib.hid (fun W hb => ((HF2.out.blk.below hb).cell 4).trans (by rw [← hv4]; rfl))
  have txc : Hid (∀ W, Below w2.drew.heap.size w2.drew W → W.cell? ⟨gk, ix * 2 + 1, none⟩ = some (.string tx)) := Lib.hid (fun W hb => (hb.cell (p := ⟨gk, ix * 2 + 1, none⟩) (World.ownsRow.lt HF2.out.k gk (by rw [hv4]; rfl)).2).trans c9')
  have pkc : Hid (∀ W, Below w2.drew.heap.size w2.drew W → Blk W w.heap.size 24 #[.int .u64 sq, .int .u64 fr, .int .u64 to_, .string dt, .int .u64 tm]) := Lib.hid (fun W hb => HP2.out.below hb)
  have HGd := Lib.hid (HG.out.below HL2.out HG.out.four)
  have HV4 := Lib.hid hv4
  clear c9' hv4
  go_upto_region 2 with fail
  refine wp_abs fun a0 hA => ?_
  have h0 : a0.eval (.tmp 0) = .pointer (some ⟨g, 0, none⟩) := by rw [hA]; rfl
  have h3 : a0.eval (.tmp 3) = .pointer (some ⟨w.heap.size, 0, none⟩) := by rw [hA]; rfl
  have h5 : a0.eval (.tmp 5) = .int .i64 (ix : Int) := by rw [hA]; rfl
  have hz : a0.tmps.size = 49 := by rw [hA]; rfl
  refine wp_region_K [some 13, some 14, some 15, some 16, some 17, some 18, some 19, some 20, some 21, some 22, some 23, some 24, some 25, some 26, some 27] 49 (CJ (tmV g gk r.k.length cap ix sq fr to_ tm dt tx cx w.heap.size) (fun _ _ => True) [12] (bwS w2.drew)) (by kernel_rfl) (by kernel_rfl) (by kernel_rfl) rfl (by kernel_rfl) hz (CJ.start (fun i => trivial) ⟨Nat.zero_le 1, Below.refl _ _⟩) ?_ ⟨?_, ?_, ?_, ?_, ?_, ?_, ?_, ?_, ?_, ?_, ?_, ?_, ?_, ?_, ?_, trivial⟩
  · intro d u W hd hJ
    have HW := Lib.hid (bwS_inv hJ)
    have e14 : u 14 = .bool false := (hJ.vals 14 (hd 14 (by decide))).trans (by rw [HQ.out]; rfl)
    rw [hA]
    simp only [putAll, Act.put, List.setIfInBounds_toArray, List.set_cons_zero, List.set_cons_succ]
    clear hJ hd h0 h3 h5 hz hA
    clear a0
    rw [e14]
    have HL3 := Lib.hid (bstep HL2.out HW.out)
    have HF3 := Lib.hid (HF2.out.below HW.out)
    have HP3 : Hid (Blk W w.heap.size 24 #[.int .u64 sq, .int .u64 fr, .int .u64 to_, .string dt, .int .u64 tm]) := Lib.hid (pkc.out W HW.out)
    clear e14 HW v4c txc pkc HP2 HGd
    have hlw : w.heap.size < W.heap.size := HP3.out.lt
    have q0 : W.cell? ⟨w.heap.size, 0, none⟩ = some (.int .u64 sq) := HP3.out.cell 0
    have c0 : W.cell? ⟨g, 0, none⟩ = some (.bool r.o) := HF3.out.blk.cell 0
    have c3 : W.cell? ⟨g, 3, none⟩ = some (.int .u64 r.A) := HF3.out.blk.cell 3
    have f3 := HF3.out.blk.frozen 3
    rw [ho] at c0
    clear ho hlw
    have t2 : (sq != r.A) = false := by have := hs; simpa using this
    go_wp2_with fail
    go_quiet (fail)
    have HF4 := Lib.hid ((HF3.out.below (below_drewN' (Below.refl _ W) nq)).setN 3 (.int .u64 (IntKind.u64.wrap (r.A + 1))) { r with A := IntKind.u64.wrap (r.A + 1) } rfl rfl rfl rfl)
    have HO4 := Lib.hid ((Only.of_below (S := rbl g v4 v5 v6) (below_drewN' HL3.out nq)).set_ (g := g) (i := 3) (mem_rbl.2 (.inl rfl)) (.int .u64 (IntKind.u64.wrap (r.A + 1))))
    go_wp2_with fail
    refine (rdrop_is _ base g v4 v5 v6 { r with A := IntKind.u64.wrap (r.A + 1) } HF4.out ix hlt hle).mono ?_
    rintro e w5 ⟨rfl, ⟨u4, hR⟩, hO⟩
    have HR := Lib.hid hR
    have HO := Lib.hid hO
    clear hR hO
    go_wp2_with fail
    go_ret
    exact ⟨rfl, ⟨u4, HR.out⟩, HO4.out.trans HO.out⟩
  · exact KStep.plain rfl fun ρ d u W he hc hdi hd hJ => swp_val (run_move (he.o h5 rfl)) (hJ.pure 0 rfl rfl)
  · exact KStep.plain rfl fun ρ d u W he hc hdi hd hJ => swp_val (run_bin (he.i hz (hJ.vals 0 (hd 0 (by kernel_rfl))) (j := 0) (d := 13) rfl (by decide)) (he.const _) rfl (by go_simp)) (hJ.pure 1 rfl rfl)
  · exact KStep.plain rfl fun ρ d u W he hc hdi hd hJ => swp_val (run_move (he.i hz (hJ.vals 1 (hd 1 (by kernel_rfl))) (j := 1) (d := 14) rfl (by decide))) (hJ.pure 2 rfl rfl)
  · exact KStep.gd 2 false rfl (by kernel_rfl) (fun d u W hJ hd => hJ.vals 2 hd) fun ρ d u W he hc hdi hd hJ => swp_val (run_move (he.o h0 rfl)) (hJ.pure 3 rfl rfl)
  · exact KStep.gd 2 false rfl (by kernel_rfl) (fun d u W hJ hd => hJ.vals 2 hd) fun ρ d u W he hc hdi hd hJ => swp_val (run_nilCheck (he.i hz (hJ.vals 3 (hd 3 (by kernel_rfl))) (j := 3) (d := 16) rfl (by decide))) (hJ.pure 4 rfl rfl)
  · exact KStep.gd 2 false rfl (by kernel_rfl) (fun d u W hJ hd => hJ.vals 2 hd) fun ρ d u W he hc hdi hd hJ => swp_val (run_fieldAddr (he.i hz (hJ.vals 4 (hd 4 (by kernel_rfl))) (j := 4) (d := 17) rfl (by decide)) (by go_simp)) (hJ.pure 5 rfl rfl)
  · exact KStep.gd 2 false rfl (by kernel_rfl) (fun d u W hJ hd => hJ.vals 2 hd) fun ρ d u W he hc hdi hd hJ => swp_val (run_load (he.i hz (hJ.vals 5 (hd 5 (by kernel_rfl))) (j := 5) (d := 18) rfl (by decide)) (ld_slk (v4c.out W (bwS_inv hJ)))) (hJ.pure 6 rfl rfl)
  · exact KStep.gd 2 false rfl (by kernel_rfl) (fun d u W hJ hd => hJ.vals 2 hd) fun ρ d u W he hc hdi hd hJ => swp_val (run_move (he.o h5 rfl)) (hJ.pure 7 rfl rfl)
  · exact KStep.gd 2 false rfl (by kernel_rfl) (fun d u W hJ hd => hJ.vals 2 hd) fun ρ d u W he hc hdi hd hJ => swp_val (run_indexAddr (he.i hz (hJ.vals 6 (hd 6 (by kernel_rfl))) (j := 6) (d := 19) rfl (by decide)) (he.i hz (hJ.vals 7 (hd 7 (by kernel_rfl))) (j := 7) (d := 20) rfl (by decide)) (ix_kept hlt)) (hJ.pure 8 rfl rfl)
  · exact KStep.gd 2 false rfl (by kernel_rfl) (fun d u W hJ hd => hJ.vals 2 hd) fun ρ d u W he hc hdi hd hJ => swp_val (run_fieldAddr (he.i hz (hJ.vals 8 (hd 8 (by kernel_rfl))) (j := 8) (d := 21) rfl (by decide)) fld_kept) (hJ.pure 9 rfl rfl)
  · exact KStep.gd 2 false rfl (by kernel_rfl) (fun d u W hJ hd => hJ.vals 2 hd) fun ρ d u W he hc hdi hd hJ => swp_val (run_load (he.i hz (hJ.vals 9 (hd 9 (by kernel_rfl))) (j := 9) (d := 22) rfl (by decide)) (ld_s (txc.out W (bwS_inv hJ)))) (hJ.pure 10 rfl rfl)
  · exact KStep.gd 2 false rfl (by kernel_rfl) (fun d u W hJ hd => hJ.vals 2 hd) fun ρ d u W he hc hdi hd hJ => swp_val (run_load (he.o h3 rfl) (ld_pk (pkc.out W (bwS_inv hJ)))) (hJ.pure 11 rfl rfl)
  · exact KStep.gd 2 false rfl (by kernel_rfl) (fun d u W hJ hd => hJ.vals 2 hd) fun ρ d u W he hc hdi hd hJ => swp_call (run_call #[.agg #[.int .u64 sq, .int .u64 fr, .int .u64 to_, .string dt, .int .u64 tm]] (he.func _) (by kernel_rfl) (map1 (he.i hz (hJ.vals 11 (hd 11 (by kernel_rfl))) (j := 11) (d := 24) rfl (by decide)))) (rcomm_is ⟨sq, fr, to_, dt, tm⟩ W (HGd.out.below (bwS_inv hJ) HGd.out.four) HPk.out) (fun e W' h => ⟨_, by rw [h.1, HCx.out], hJ.go 0 rfl hdi (by decide) (fun j h => by omega) rfl ⟨Nat.le_refl 1, bstep (bwS_inv hJ) h.2⟩⟩)
  · exact KStep.gd 2 false rfl (by kernel_rfl) (fun d u W hJ hd => hJ.vals 2 hd) fun ρ d u W he hc hdi hd hJ => swp_val (run_bin (he.i hz (hJ.vals 10 (hd 10 (by kernel_rfl))) (j := 10) (d := 23) rfl (by decide)) (he.i hz (hJ.vals 12 (hd 12 (by kernel_rfl))) (j := 12) (d := 25) rfl (by decide)) rfl (by go_simp)) (hJ.pure 13 rfl rfl)
  · exact KStep.plain rfl fun ρ d u W he hc hdi hd hJ => swp_val (run_pick_f (he.i hz (hJ.vals 2 (hd 2 (by kernel_rfl))) (j := 2) (d := 15) rfl (by decide)) (he.i hz (hJ.vals 13 (hd 13 (by kernel_rfl))) (j := 13) (d := 26) rfl (by decide))) (hJ.pure 14 rfl rfl)
end Go.Proofs.YtpekbnkmnellpaaDoor
namespace Go.Proofs.YtpekbnkmnellpaaDoor
open Go.RowKit
set_option linter.unusedVariables false

theorem small_data (x : ByteArray) (h : x.size = 0) : x = ⟨#[]⟩ := by
  apply ByteArray.ext
  exact Array.eq_empty_of_size_eq_zero h
theorem got_push (l : KL) (q : Int) (x : ByteArray) (hq : (klook l q).isSome = false) : (fun k => (klook (l ++ [(q, x)]) k).isSome) = upd (fun k => (klook l k).isSome) q true := by
  funext k
  rw [klook_push]
  by_cases e : k = q
  · rw [e, upd_at, if_neg (by simp [hq]), if_pos rfl]; rfl
  · have e' : ¬ q = k := fun h => e h.symm
    rw [upd_ne _ _ e]
    cases h : klook l k <;> simp [e']
theorem look_push (l : KL) (q : Int) (x : ByteArray) (hq : (klook l q).isSome = false) : klook (l ++ [(q, x)]) = upd (klook l) q (some x) := by
  funext k
  rw [klook_push]
  by_cases e : k = q
  · rw [e, upd_at, if_neg (by simp [hq]), if_pos rfl]
  · have e' : ¬ q = k := fun h => e h.symm
    rw [upd_ne _ _ e]
    cases h : klook l k <;> simp [e']
theorem look_erase (l : KL) (q : Int) (hu : (l.map (·.1)).Nodup) : klook (l.eraseIdx (fidx l q)) = upd (klook l) q none := by
  funext k
  rw [klook_erase l q hu]
  by_cases e : k = q
  · rw [if_pos e, e, upd_at]
  · rw [if_neg e, upd_ne _ _ e]
theorem rrecv_is (w : World) (base g n : Nat) (s : Fl) (p : Pk) (h : Int) (F : RefAt w base g n s) (hn : n ≤ 1000) :
    Calls Tryd.prog 39 #[.pointer (some ⟨g, 0, none⟩), p.v, .int .u64 h] w fun e w' => e = .returned (.int .i64 (s.recvCode p h)) ∧ DStep w w' base g (n + 1) (s.recvd p h) := by
  have F0 := F
  obtain ⟨v4, v5, v6, r, hF, hO, rfl⟩ := F
  have hle : r.t.length ≤ 1000 := Nat.le_trans hO.tl hn
  unfold Fl.recvd Fl.recvCode
  have same : ∀ {w' : World}, Below w.heap.size w w' → DStep w w' base g (n + 1) r.fl := fun hb => DStep.of_below (F0.mono (Nat.le_succ _)) hb
  cases hl : lateB p h with
  | true => exact (rrecv_late w g p h hl).mono fun e w' ⟨h1, h2⟩ => ⟨h1, same h2⟩
  | false =>
    cases ho : r.o with
    | true =>
      by_cases hk : p.seq = r.R
      · have hm : r.fl.may p.seq = 0 := by rw [may_ord _ _ ho]; exact if_pos hk
        rw [hm]
        refine (rrecv_ord w base g v4 v5 v6 r p h hF hl hle ho hk).mono fun e w' ⟨h1, h2, h3⟩ => ⟨h1, ⟨v4, v5, v6, _, h2, ⟨⟨hO.sr.1, by have := hO.sr.2; show r.S ≤ ((n + 1 : Nat) : Int) + 1; omega⟩, wrap_r _, hO.ar, hO.uniq, hO.ahead, Nat.le_succ_of_le hO.kl, Nat.le_succ_of_le hO.tl, Nat.le_succ_of_le hO.sl⟩, ?_⟩, h3⟩
        have e0 : r.fl.ordered = true := ho
        simp only [Bool.false_eq_true, if_false, if_true]
        unfold Fl.took
        rw [e0]
        simp [RF.fl, ho]
      · have hm : r.fl.may p.seq = 183 := by rw [may_ord _ _ ho]; exact if_neg hk
        rw [hm]
        exact (rrecv_ordno w base g v4 v5 v6 r p h hF hl hle ho hk).mono fun e w' ⟨h1, h2⟩ => ⟨h1, same h2⟩
    | false =>
      by_cases hk : p.seq = 0 ∨ (klook r.t p.seq).isSome = true
      · have hm : r.fl.may p.seq = 184 := by rw [may_un _ _ ho]; exact if_pos hk
        rw [hm]
        exact (rrecv_unno w base g v4 v5 v6 r p h hF hl hle ho hk).mono fun e w' ⟨h1, h2⟩ => ⟨h1, same h2⟩
      · have hm : r.fl.may p.seq = 0 := by rw [may_un _ _ ho]; exact if_neg hk
        rw [hm]
        have hq : (klook r.t p.seq).isSome = false := by
          cases hx : (klook r.t p.seq).isSome with
          | false => rfl
          | true => exact absurd (.inr hx) hk
        refine (rrecv_un w base g v4 v5 v6 r p h hF hl hle ho hk).mono fun e w' ⟨h1, u4, u5, u6, h2, h3⟩ => ⟨h1, ⟨u4, u5, u6, _, h2, ⟨⟨hO.sr.1, by have := hO.sr.2; show r.S ≤ ((n + 1 : Nat) : Int) + 1; omega⟩, hO.rr, hO.ar, hO.uniq, hO.ahead, Nat.le_succ_of_le hO.kl, by rw [List.length_append]; exact Nat.succ_le_succ hO.tl, Nat.le_succ_of_le hO.sl⟩, ?_⟩, h3⟩
        have e0 : r.fl.ordered = false := ho
        simp only [Bool.false_eq_true, if_false, if_true]
        unfold Fl.took
        rw [e0]
        unfold RF.fl
        simp only [got_push _ _ _ hq]
        simp [ho]
theorem rwritef_is (w : World) (G : GlobR w) (base g n : Nat) (s : Fl) (k : Int) (a : ByteArray) (F : RefAt w base g n s) (hn : n ≤ 1000) (hk : u64r k) (ha : a.size ≤ 140737488351232) :
    Calls Tryd.prog 40 #[.pointer (some ⟨g, 0, none⟩), .int .u64 k, .string a] w fun e w' => e = .returned (.int .i64 (s.wCode k)) ∧ DStep w w' base g (n + 1) (s.writ k a) := by
  have F0 := F
  obtain ⟨v4, v5, v6, r, hF, hO, rfl⟩ := F
  unfold Fl.writ
  have same : ∀ {w' : World}, w = w' → DStep w w' base g (n + 1) r.fl := fun hb => DStep.of_below (F0.mono (Nat.le_succ _)) (hb ▸ Below.refl _ w)
  cases hc : r.fl.came k with
  | false =>
    have e : r.fl.wCode k = 185 := by unfold Fl.wCode; rw [hc]; rfl
    rw [e]
    exact (rwrite_none w G base g n v4 v5 v6 r k a hF hO hn hk ha hc).mono fun e w' ⟨h1, h2⟩ => ⟨h1, same h2⟩
  | true =>
    cases hw : (klook r.s k).isSome with
    | true =>
      have e : r.fl.wCode k = 184 := by unfold Fl.wCode; rw [hc, show (r.fl.written k).isSome = true from hw]; rfl
      rw [e]
      exact (rwrite_twice w G base g n v4 v5 v6 r k a hF hO hn hk ha hc hw).mono fun e w' ⟨h1, h2⟩ => ⟨h1, same h2⟩
    | false =>
      have e : r.fl.wCode k = 0 := by unfold Fl.wCode; rw [hc, show (r.fl.written k).isSome = false from hw]; rfl
      rw [e]
      refine (rwrite_ok w G base g n v4 v5 v6 r k a hF hO hn hk ha hc hw).mono fun e w' ⟨h1, u4, u5, u6, h2, h3⟩ => ⟨h1, ⟨u4, u5, u6, _, h2, ⟨⟨hO.sr.1, by have := hO.sr.2; show r.S ≤ ((n + 1 : Nat) : Int) + 1; omega⟩, hO.rr, hO.ar, hO.uniq, hO.ahead, Nat.le_succ_of_le hO.kl, Nat.le_succ_of_le hO.tl, by rw [List.length_append]; exact Nat.succ_le_succ hO.sl⟩, ?_⟩, h3⟩
      simp only [if_true]
      unfold RF.fl Fl.wrote
      simp only [look_push _ _ _ hw]
theorem rsendf_is (w : World) (G : GlobR w) (base g n : Nat) (s : Fl) (fr to_ tm : Int) (dt : ByteArray) (F : RefAt w base g n s) (hn : n ≤ 1000) (h1 : u64r fr) (h2 : u64r to_) (h3 : u64r tm) (hd : dt.size ≤ 140737488351232) :
    Calls Tryd.prog 38 #[.pointer (some ⟨g, 0, none⟩), .int .u64 fr, .int .u64 to_, .string dt, .int .u64 tm] w fun e w' => e = .returned (.tuple #[(s.pkt fr to_ dt tm).v, .int .i64 (sendCode dt)]) ∧ DStep w w' base g (n + 1) (s.sendd fr to_ dt tm) := by
  have F0 := F
  obtain ⟨v4, v5, v6, r, hF, hO, rfl⟩ := F
  unfold Fl.pkt sendCode Fl.sendd
  by_cases h : 400 < dt.size
  · rw [if_pos h, if_pos h, if_pos h]
    exact (rsend_long w g fr to_ tm dt h hd).mono fun e w' ⟨h1, h2⟩ => ⟨h1, DStep.of_below (F0.mono (Nat.le_succ _)) h2⟩
  · rw [if_neg h, if_neg h, if_neg h]
    have hs : u64r r.S := ⟨by have := hO.sr.1; omega, by have := hO.sr.2; omega⟩
    have hwr : IntKind.u64.wrap (r.S + 1) = r.S + 1 := by rw [IntKind.wrap_u64]; have := hO.sr; omega
    refine (rsend_ok w G base g v4 v5 v6 r fr to_ tm dt hF (Nat.le_trans hO.kl hn) ⟨hs, h1, h2, h3, hd⟩ (by omega)).mono fun e w' ⟨e1, u4, u5, u6, e2, e3⟩ => ⟨e1, ⟨u4, u5, u6, _, e2, ⟨⟨?_, ?_⟩, hO.rr, hO.ar, ?_, ?_, by rw [List.length_append]; exact Nat.succ_le_succ hO.kl, Nat.le_succ_of_le hO.tl, Nat.le_succ_of_le hO.sl⟩, ?_⟩, e3⟩
    · show 1 ≤ IntKind.u64.wrap (r.S + 1)
      rw [hwr]; have := hO.sr.1; omega
    · show IntKind.u64.wrap (r.S + 1) ≤ ((n + 1 : Nat) : Int) + 1
      rw [hwr]; have := hO.sr.2; omega
    · rw [List.map_append, List.nodup_append]
      refine ⟨hO.uniq, by simp, ?_⟩
      intro a ha b hb e
      simp at hb
      obtain ⟨x, hx, rfl⟩ := List.mem_map.1 ha
      have := hO.ahead x hx
      omega
    · intro x hx
      show x.1 < IntKind.u64.wrap (r.S + 1)
      rw [hwr]
      rcases List.mem_append.1 hx with hx | hx
      · have := hO.ahead x hx; omega
      · simp at hx; subst hx; show r.S < r.S + 1; omega
    · have hnone : klook r.k r.S = none := klook_none fun x hx => by have := hO.ahead x hx; omega
      unfold RF.fl Fl.sends
      simp only [look_push _ _ _ (show (klook r.k r.S).isSome = false by rw [hnone]; rfl)]
/-- is a packet kept by the document's flow? -/
theorem kept_cases (r : RF) (p : Pk) : (r.fl.keptB p = false ∧ (¬ fidx r.k p.seq < r.k.length ∨ ∃ hlt : fidx r.k p.seq < r.k.length, ((r.k[fidx r.k p.seq]'hlt).2.toList == p.comm.toList) = false)) ∨ (r.fl.keptB p = true ∧ ∃ hlt : fidx r.k p.seq < r.k.length, ((r.k[fidx r.k p.seq]'hlt).2.toList == p.comm.toList) = true) := by
  by_cases hk : fidx r.k p.seq < r.k.length
  · have e1 : r.fl.sent p.seq = some (r.k[fidx r.k p.seq]'hk).2 := by show klook r.k p.seq = _; unfold klook; rw [dif_pos hk]
    have e2 : r.fl.keptB p = ((r.k[fidx r.k p.seq]'hk).2.toList == p.comm.toList) := by unfold Fl.keptB; rw [e1]
    cases hq : ((r.k[fidx r.k p.seq]'hk).2.toList == p.comm.toList) with
    | false => exact .inl ⟨e2.trans hq, .inr ⟨hk, hq⟩⟩
    | true => exact .inr ⟨e2.trans hq, hk, hq⟩
  · have e1 : r.fl.sent p.seq = none := by show klook r.k p.seq = _; unfold klook; rw [dif_neg hk]
    exact .inl ⟨by unfold Fl.keptB; rw [e1], .inl hk⟩
theorem findI_at {l : KL} {q : Int} (h : fidx l q < l.length) : findI l q = (fidx l q : Int) := by unfold findI; rw [if_pos h]
theorem erase_ok {r r' : RF} {n i : Nat} (hO : r.ok n) (hk : r'.k = r.k.eraseIdx i) (hS : r'.S = r.S) (hR : r'.R = r.R) (hA : u64r r'.A) (ht : r'.t = r.t) (hs : r'.s = r.s) : r'.ok n := by
  have hsub : (r.k.eraseIdx i).Sublist r.k := List.eraseIdx_sublist _ _
  refine ⟨hS ▸ hO.sr, hR ▸ hO.rr, hA, ?_, ?_, ?_, ht ▸ hO.tl, hs ▸ hO.sl⟩
  · rw [hk]; exact (hsub.map _).nodup hO.uniq
  · rw [hk, hS]; exact fun x hx => hO.ahead x (hsub.mem hx)
  · rw [hk]; exact Nat.le_trans hsub.length_le hO.kl
theorem rtoutf_is (w : World) (G : GlobR w) (base g n : Nat) (s : Fl) (p : Pk) (F : RefAt w base g n s) (hn : n ≤ 1000) (hp : p.ok) :
    Calls Tryd.prog 42 #[.pointer (some ⟨g, 0, none⟩), p.v] w fun e w' => e = .returned (.int .i64 (s.toCode p)) ∧ DStep w w' base g n (s.timed p) := by
  have F0 := F
  obtain ⟨v4, v5, v6, r, hF, hO, rfl⟩ := F
  have hle : r.k.length ≤ 1000 := Nat.le_trans hO.kl hn
  unfold Fl.toCode Fl.timed
  rcases kept_cases r p with ⟨hk, hc⟩ | ⟨hk, hlt, hq⟩
  · rw [hk]
    rcases hc with hc | ⟨hlt, hq⟩
    · exact (rtout_none w G base g v4 v5 v6 r p hF hle hp hc).mono fun e w' ⟨h1, h2⟩ => ⟨h1, DStep.of_below F0 h2⟩
    · exact (rtout_ne w G base g v4 v5 v6 r p hF hle hp _ hlt (findI_at hlt) _ _ rfl rfl hq).mono fun e w' ⟨h1, h2⟩ => ⟨h1, DStep.of_below F0 h2⟩
  · rw [hk]
    refine (rtout_yes w G base g v4 v5 v6 r p hF hle hp _ hlt (findI_at hlt) _ _ rfl rfl hq).mono fun e w' ⟨h1, ⟨u4, h2⟩, h3⟩ => ⟨h1, ⟨u4, v5, v6, _, h2, erase_ok hO rfl rfl rfl hO.ar rfl rfl, ?_⟩, _, hF.bs, h3⟩
    simp only [if_true]
    unfold RF.fl Fl.drops
    simp only [look_erase _ _ hO.uniq]
theorem rackf_is (w : World) (G : GlobR w) (base g n : Nat) (s : Fl) (p : Pk) (F : RefAt w base g n s) (hn : n ≤ 1000) (hp : p.ok) :
    Calls Tryd.prog 41 #[.pointer (some ⟨g, 0, none⟩), p.v] w fun e w' => e = .returned (.int .i64 (s.ackCode p)) ∧ DStep w w' base g n (s.acks p) := by
  have F0 := F
  obtain ⟨v4, v5, v6, r, hF, hO, rfl⟩ := F
  have hle : r.k.length ≤ 1000 := Nat.le_trans hO.kl hn
  unfold Fl.ackCode Fl.acks
  rcases kept_cases r p with ⟨hk, hc⟩ | ⟨hk, hlt, hq⟩
  · rw [hk]
    rcases hc with hc | ⟨hlt, hq⟩
    · exact (rack_none w G base g v4 v5 v6 r p hF hle hp hc).mono fun e w' ⟨h1, h2⟩ => ⟨h1, DStep.of_below F0 h2⟩
    · exact (rack_ne w G base g v4 v5 v6 r p hF hle hp _ hlt (findI_at hlt) _ _ rfl rfl hq).mono fun e w' ⟨h1, h2⟩ => ⟨h1, DStep.of_below F0 h2⟩
  · rw [hk]
    cases ho : r.o with
    | false =>
      have e0 : r.fl.ordered = false := ho
      rw [e0]
      refine (rack_un w G base g v4 v5 v6 r p hF hle hp _ hlt (findI_at hlt) _ _ rfl rfl hq ho).mono fun e w' ⟨h1, ⟨u4, h2⟩, h3⟩ => ⟨h1, ⟨u4, v5, v6, _, h2, erase_ok hO rfl rfl rfl hO.ar rfl rfl, ?_⟩, _, hF.bs, h3⟩
      unfold Fl.acked
      rw [e0]
      unfold RF.fl Fl.drops
      simp [look_erase _ _ hO.uniq]
    | true =>
      have e0 : r.fl.ordered = true := ho
      rw [e0]
      by_cases hs : p.seq = r.A
      · have e1 : (p.seq != r.fl.ack) = false := by have : r.fl.ack = r.A := rfl; simp [this, hs]
        rw [e1]
        refine (rack_ord w G base g v4 v5 v6 r p hF hle hp _ hlt (findI_at hlt) _ _ rfl rfl hq ho hs).mono fun e w' ⟨h1, ⟨u4, h2⟩, h3⟩ => ⟨h1, ⟨u4, v5, v6, _, h2, erase_ok hO rfl rfl rfl (wrap_r _) rfl rfl, ?_⟩, _, hF.bs, h3⟩
        unfold Fl.acked
        rw [e0]
        unfold RF.fl
        simp [look_erase _ _ hO.uniq, ho]
      · have e1 : (p.seq != r.fl.ack) = true := by have : r.fl.ack = r.A := rfl; simp [this, hs]
        rw [e1]
        exact (rack_late w G base g v4 v5 v6 r p hF hle hp _ hlt (findI_at hlt) _ _ rfl rfl hq ho hs).mono fun e w' ⟨h1, h2⟩ => ⟨h1, DStep.of_below F0 h2⟩
end Go.Proofs.YtpekbnkmnellpaaDoor
