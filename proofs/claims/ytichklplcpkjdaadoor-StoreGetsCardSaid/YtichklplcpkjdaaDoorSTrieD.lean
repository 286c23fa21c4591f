/-
  The walk of the trie's Copy (printed by gen_stried.py).
-/
import Derived.Test.YtichklplcpkjdaaDoorSTrieC
namespace Go.Proofs.YtichklplcpkjdaaDoor
open Go.RowKit Go.Maps
set_option linter.unusedVariables false

theorem mapM_mem {α β : Type} (f : α → Option β) : ∀ (l : List α) (ys : List β), l.mapM f = some ys → ys.length = l.length ∧ ∀ y ∈ ys, ∃ x ∈ l, f x = some y
  | [], ys, h => by
    simp at h
    subst h
    exact ⟨rfl, fun y hy => by cases hy⟩
  | x :: l, ys, h => by
    rw [List.mapM_cons] at h
    cases hx : f x with
    | none => rw [hx] at h; simp at h
    | some y =>
      cases hl : l.mapM f with
      | none => rw [hx, hl] at h; simp at h
      | some zs =>
        rw [hx, hl] at h
        simp at h
        subst h
        obtain ⟨h1, h2⟩ := mapM_mem f l zs hl
        refine ⟨by simp [h1], fun z hz => ?_⟩
        rcases List.mem_cons.1 hz with rfl | hz
        · exact ⟨x, by simp, hx⟩
        · obtain ⟨x', hx', e⟩ := h2 z hz
          exact ⟨x', by simp [hx'], e⟩
theorem wf_inv {n : Int} (h : (Lit.int .u8 n).wf = true) : 0 ≤ n ∧ n ≤ 255 := by
  simp only [Lit.wf, Bool.and_eq_true, IntKind.min, IntKind.max, IntKind.bits, IntKind.signed] at h
  simp at h
  omega
theorem lits_byte {P : Program} {E : TypeId} (hE : P.underlying E = some (.int .u8)) {d : Nat} {cs : List Value} {L : List Lit} (h : P.keyLits d E cs = some L) : ∃ b : UInt8, L = [.int .u8 (b.toNat : Int)] := by
  cases d with
  | zero => simp [Program.keyLits] at h
  | succ d =>
    unfold Program.keyLits at h
    rw [hE] at h
    cases cs with
    | nil => simp at h
    | cons c cs =>
      cases cs with
      | cons _ _ => cases c <;> simp at h
      | nil =>
        cases c <;> simp at h
        rename_i q n
        obtain ⟨⟨rfl, hw⟩, rfl⟩ := h
        have hr := wf_inv hw
        exact ⟨UInt8.ofNat n.toNat, by
          have : (UInt8.ofNat n.toNat).toNat = n.toNat := by simp; omega
          rw [this]
          congr 2
          omega⟩
theorem flat_bytes : ∀ (Ls : List (List Lit)), (∀ L ∈ Ls, ∃ b : UInt8, L = [.int .u8 (b.toNat : Int)]) → ∃ p : List UInt8, p.length = Ls.length ∧ Ls.flatten = p.map fun b => .int .u8 (b.toNat : Int)
  | [], _ => ⟨[], rfl, rfl⟩
  | L :: Ls, h => by
    obtain ⟨b, hb⟩ := h L (by simp)
    obtain ⟨p, h1, h2⟩ := flat_bytes Ls fun M hM => h M (by simp [hM])
    exact ⟨b :: p, by simp [h1], by rw [List.flatten_cons, hb, h2]; rfl⟩
theorem lits_arr {P : Program} {k E : TypeId} (hk : P.underlying k = some (.array 32 E)) (hE : P.underlying E = some (.int .u8)) {D : Nat} {cs : List Value} {L : List Lit} (h1 : P.keyLits (D + 1) k cs = some L) : ∃ p : List UInt8, p.length = 32 ∧ L = p.map fun b => .int .u8 (b.toNat : Int) := by
  unfold Program.keyLits at h1
  rw [hk] at h1
  simp only at h1
  split at h1
  · cases hm : (List.range 32).mapM (fun i => P.keyLits D E ((cs.drop (i * P.cellsOf E)).take (P.cellsOf E))) with
    | none => rw [hm] at h1; simp at h1
    | some Ls =>
      rw [hm] at h1
      simp at h1
      obtain ⟨e1, e2⟩ := mapM_mem _ _ _ hm
      obtain ⟨p, p1, p2⟩ := flat_bytes Ls fun M hM => by
        obtain ⟨i, _, hi⟩ := e2 M hM
        exact lits_byte hE hi
      exact ⟨p, by rw [p1, e1]; simp, by rw [← h1, p2]⟩
  · cases h1
theorem toCell_map (p : List UInt8) : (p.map fun b => Lit.int .u8 (b.toNat : Int)).map Lit.toCell = bC p := by
  simp [bC, List.map_map, Function.comp_def, Lit.toCell]
theorem key_inv_g {P : Program} {k E : TypeId} (hk : P.underlying k = some (.array 32 E)) (hE : P.underlying E = some (.int .u8)) (ht : P.tiled 2 k = true) {key : Value} {kl : Lit} (h : keyOf P k key = some kl) : ∃ p : Pl, key = pv p.1 ∧ kl = .string p.1 := by
  obtain ⟨xs, L, rfl, h1, rfl⟩ := keyOf_top (by rw [hk]) h
  have hc := cells_of_lits 2 k ht _ _ _ h1
  obtain ⟨p, hp, rfl⟩ := lits_arr hk hE h1
  rw [toCell_map] at hc
  refine ⟨⟨p, hp⟩, ?_, by rw [key_bytes]⟩
  show Value.agg xs = .agg (bC p).toArray
  congr 1
  apply Array.ext'
  rw [hc]
/-- what reads as a place's key is a place -/
theorem key_inv {key : Value} {kl : Lit} (h : keyOf Tryd.prog 74 key = some kl) : ∃ p : Pl, key = pv p.1 ∧ kl = .string p.1 := key_inv_g Tryd.underlying74 Tryd.underlying5 (by kernel_rfl) h
theorem str_inv {v : Value} {y : DataW Unit × List MemPlace} (h : plainElem Tryd.prog 9 v = some y) : ∃ c : ByteArray, v = .string c := by
  obtain ⟨s, rfl, _⟩ := plainElem_string_inv Tryd.underlying9 h
  exact ⟨s, rfl⟩
/-- what has been copied so far -/
structure CpIn (w : World) (b r n : Nat) (D : DataW Unit) (f : PM) (left : Lit → Bool) (cnt : Nat) (W : World) : Prop where
  rg : W.ranges Tryd.prog 74 (plainElem Tryd.prog 9) b r n D left cnt
  le : cnt ≤ Maps.size D
  new : ∃ g, MapP W w.heap.size (Maps.size D - cnt) g ∧ ∀ k, k.length = 32 → g k = if left (.string k) then none else f k
  blk : Blk W (w.heap.size + 1) 72 #[.map (some w.heap.size)]
  bel : Below w.heap.size w W
section
variable {w W W' w2 : World} {b r n : Nat} {D : DataW Unit} {f : PM} {left : Lit → Bool} {cnt cnt2 : Nat}
theorem grown_none (hb : Below W.heap.size W W') : W.grownBy W' none := ⟨hb.os, hb.tape, hb.output, hb.size, fun i hi _ => hb.block i hi⟩
theorem rg_below {P : Program} {k : TypeId} {R : Value → Option (DataW Unit × List MemPlace)} (h : W.ranges P k R b r n D left cnt) (hb : Below W.heap.size W W') : W'.ranges P k R b r n D left cnt := h.kept (grown_none hb) (by simp) (by simp)
theorem CpIn.below (h : CpIn w b r n D f left cnt W) (hb : Below W.heap.size W W') : CpIn w b r n D f left cnt W' := by
  obtain ⟨g, hg, hk⟩ := h.new
  exact ⟨rg_below h.rg hb, h.le, ⟨g, hg.below hb, hk⟩, h.blk.below hb, bstep h.bel hb⟩
theorem MapP.congr {W : World} {b n : Nat} {f g : PM} (h : MapP W b n g) (e : ∀ k, k.length = 32 → g k = f k) : MapP W b n f := by
  obtain ⟨D, ho, hh, ha⟩ := h
  exact ⟨D, ho, fun k hk => by rw [hh k hk, e k hk], fun k s hk hf => ha k s hk (by rw [e k hk]; exact hf)⟩
theorem cp_end (h : CpIn w b r n D f left cnt W) (hl : ∀ kl, left kl = false) (hs : Maps.size D ≤ n) (hok : ∀ k v, f k = some v → v.size ≤ 140737488351232) : TAt W (w.heap.size + 1) w.heap.size n f := by
  obtain ⟨g, hg, hk⟩ := h.new
  exact ⟨h.blk, ((hg.congr fun k hk' => by rw [hk k hk', hl]; rfl).mono (Nat.sub_le _ _)).mono hs, hok⟩
theorem same_str (x y : List UInt8) : (Lit.string x).sameKey (.string y) = decide (x = y) := by
  by_cases e : x = y
  · subst e; simp [Lit.sameKey]
  · simp [Lit.sameKey, e]
/-- what an entry that comes says: it is the map's -/
theorem entry_is {x : Pl} {c : ByteArray} {kl : Lit} {y : DataW Unit × List MemPlace} (hh : ∀ k, k.length = 32 → Maps.has D (.string k) = (f k).isSome) (ha : ∀ k s, k.length = 32 → f k = some s → D.atKey (.string k) (.lit (.string [])) = .lit (.string s.data.toList))
    (hkey : keyOf Tryd.prog 74 (pv x.1) = some kl) (hv : plainElem Tryd.prog 9 (.string c) = some y) (hat : ∀ zd, D.atKey kl zd = y.1) : kl = .string x.1 ∧ f x.1 = some c := by
  have e : kl = .string x.1 := by rw [key_place x.1 x.2] at hkey; exact (Option.some.inj hkey).symm
  subst e
  refine ⟨rfl, ?_⟩
  obtain ⟨s, hs, hy, _⟩ := plainElem_string_inv Tryd.underlying9 hv
  cases hs
  cases hf : f x.1 with
  | none =>
    have h1 := fun zd => (atKey_of_not_has (D := D) (k := .string x.1) (by rw [hh x.1 x.2, hf]; rfl) zd).symm.trans (hat zd)
    have := (h1 (.lit (.bool true))).trans (h1 (.lit (.bool false))).symm
    simp at this
  | some s =>
    have h1 := ha x.1 s x.2 hf
    rw [hat, hy] at h1
    simp only [DataW.lit.injEq, Lit.string.injEq] at h1
    rw [str_ext h1.symm]
/-- where an entry has come: behind its store, one more has been copied -/
theorem cp_step (h : CpIn w b r n D f left cnt W) (hh : ∀ k, k.length = 32 → Maps.has D (.string k) = (f k).isSome) (ha : ∀ k s, k.length = 32 → f k = some s → D.atKey (.string k) (.lit (.string [])) = .lit (.string s.data.toList)) (hbl : b < w.heap.size) (hr : r = w.heap.size + 2)
    {x : Pl} {c : ByteArray} {kl : Lit} {y : DataW Unit × List MemPlace} (hkey : keyOf Tryd.prog 74 (pv x.1) = some kl) (hv : plainElem Tryd.prog 9 (.string c) = some y) (hat : ∀ zd, D.atKey kl zd = y.1)
    (hrg2 : w2.ranges Tryd.prog 74 (plainElem Tryd.prog 9) b r n D (fun z => left z && !z.sameKey kl) cnt2) (hlt : cnt2 < cnt) (hg2 : W.grownBy w2 (some r)) :
    Blk w2 (w.heap.size + 1) 72 #[.map (some w.heap.size)] ∧ (∃ g, MapP w2 w.heap.size (Maps.size D - cnt) g ∧ ∀ W2 W3, Below w2.heap.size w2 W2 → W2.mapTurned W3 w.heap.size → MapP W3 w.heap.size (Maps.size D - cnt + 1) (updP g x.1 (some c)) → CpIn w b r n D f (fun z => left z && !z.sameKey kl) cnt2 W3) ∧ f x.1 = some c := by
  obtain ⟨e, hf⟩ := entry_is hh ha hkey hv hat
  obtain ⟨g, hg, hk⟩ := h.new
  have hk1 := h.bel.size
  have hmlt := hg.lt
  have hblt := h.blk.lt
  have hb2 : Below (w.heap.size + 2) W w2 := ⟨hg2.os, hg2.tape, hg2.output, hg2.size, fun i hi => hg2.block i (by have := h.rg.lt; omega) (fun e => by have := Option.some.inj e; omega)⟩
  have hB : Blk w2 (w.heap.size + 1) 72 #[.map (some w.heap.size)] := (hb2.block _ (by omega)).trans h.blk
  refine ⟨hB, ⟨g, hg.of_block (hb2.block _ (by omega)), fun W2 W3 hbW ht hm => ?_⟩, hf⟩
  have hle := h.le
  refine ⟨(rg_below hrg2 hbW).kept ht.grown (fun e => by have := Option.some.inj e; omega) (fun e => by have := Option.some.inj e; omega), by omega, ⟨_, hm.mono (by omega), fun k hk' => ?_⟩, ?_, ?_⟩
  · subst e
    rw [same_str]
    by_cases ek : k = x.1
    · subst ek; rw [updP_at, hf]; simp
    · rw [updP_ne _ _ ek, hk k hk']; simp [ek]
  · exact (((Only.refl [w.heap.size] W2).turned ht (by simp)).block _ (hB.below hbW).lt (by simp)).trans (hB.below hbW)
  · refine (h.bel.trans (hb2.mono (by omega))).trans ((hbW.mono (Nat.le_trans h.bel.size hg2.size)).trans ?_)
    exact ((Only.refl [w.heap.size] W2).turned ht (by simp)).below (by simp) (Nat.le_trans (Nat.le_trans h.bel.size hg2.size) hbW.size)
end
def cpS (W0 : World) (Q : World → Prop) (k : Nat) (vs : List Value) (W : World) : Prop := match k with
  | 0 => Below W0.heap.size W0 W
  | 1 => Q W
  | _ => False
theorem cpS_le {W0 : World} {Q : World → Prop} (k : Nat) (vs : List Value) (W : World) (h : cpS W0 Q k vs W) : k ≤ 1 := by
  rcases k with _ | _ | k
  · omega
  · omega
  · exact absurd h id
theorem cpS_lt {W0 : World} {Q : World → Prop} (k : Nat) (vs : List Value) (W : World) (hk : k < 1) (h : cpS W0 Q k vs W) : Below W0.heap.size W0 W := by
  rcases k with _ | k
  · exact h
  · omega
def cpV (w w2 : World) (P : List UInt8) (c : ByteArray) (i : Nat) (v : Value) : Prop := match i with
  | 0 => v = .pointer (some ⟨w.heap.size + 1, 0, none⟩)
  | 1 => v = .pointer (some ⟨w.heap.size + 1, 0, none⟩)
  | 2 => v = .pointer (some ⟨w.heap.size + 1, 0, none⟩)
  | 3 => v = .map (some w.heap.size)
  | 4 => v = pv P
  | 5 => v = .string c
  | _ => True
set_option maxRecDepth 100000 in
set_option maxHeartbeats 4000000 in
theorem tcopy_is (w : World) (t b n : Nat) (f : PM) (h : TAt w t b n f) (hn : n < maxLen) :
    Calls Tryd.prog 26 #[.pointer (some ⟨t, 0, none⟩)] w fun e w' => e = .returned (.pointer (some ⟨w.heap.size + 1, 0, none⟩)) ∧ TAt w' (w.heap.size + 1) w.heap.size n f ∧ Below w.heap.size w w' := by
  have HT := Lib.hid h
  obtain ⟨D, hown, hh, ha⟩ := h.m
  have HD := Lib.hid (And.intro hh ha)
  have hsz := hown.size_le
  have hbl := hown.lt
  clear h hh ha
  go_enter Tryd.func26, Tryd.ntmps26
  go_wp2_with fail
  refine (tnew_is w).mono ?_
  rintro e w1 ⟨rfl, hT1, hb1, hs1⟩
  have HO1 := Lib.hid (HT.out.below hb1)
  have hown1 : w1.ownsMap Tryd.prog 74 (plainElem Tryd.prog 9) b n D := by
    obtain ⟨es, clock, h1, h2⟩ := hown
    exact ⟨es, clock, (hb1.block b hbl).trans h1, h2⟩
  have HT1 := Lib.hid hT1
  have HB1 := Lib.hid hb1
  have c0 : w1.cell? ⟨t, 0, none⟩ = some (.map (some b)) := HO1.out.blk.cell 0
  have HS1 := Lib.hid hs1
  clear hT1 hb1 hs1
  go_wp2_with (at_range; refine wpList_range_own _ rfl _ 70 rfl 74 9 keyLawP Tryd.underlying70 (plainElem Tryd.prog 9) b n D rfl hown1 ?_; intro w0 hrg0 hg0 hs0)
  go_frame
  have HI : Hid (CpIn w b w1.heap.size n D f (Maps.has D) (Maps.size D) w0) := Lib.hid (by
    have hb0 : Below w1.heap.size w1 w0 := ⟨hg0.os, hg0.tape, hg0.output, hg0.size, fun i hi => hg0.block i hi (by simp)⟩
    refine ⟨hrg0, Nat.le_refl _, ⟨fun _ => none, ?_, fun k hk => ?_⟩, HT1.out.blk.below hb0, bstep HB1.out hb0⟩
    · rw [Nat.sub_self]; exact HT1.out.m.below hb0
    · have := HD.out.1 k hk
      split
      · rfl
      · rename_i hz
        rw [this] at hz
        cases hf : f k with
        | none => rfl
        | some v => rw [hf] at hz; simp at hz)
  clear hrg0 hg0 c0 hown1
  go_loopw [4, 5] (fun _ _ wr => ∃ left cnt, CpIn w b w1.heap.size n D f left cnt wr) (fun _ _ wr => wr.rangeLeft b w1.heap.size)
  case atStart => exact ⟨_, _, HI.out⟩
  case round =>
    obtain ⟨left, cnt, hC⟩ := hrel
    have HC := Lib.hid hC
    have hrg := hC.rg
    clear hC
    go_wp2_with (at_next; refine wpList_next_ranges _ rfl _ rfl 74 keyLawP (plainElem Tryd.prog 9) (fun p : Pl => pv p.1) Value.string (fun key kl hk => by obtain ⟨p, h, _⟩ := key_inv hk; exact ⟨p, h⟩) (fun v y hv => str_inv hv) b w1.heap.size n _ _ _ rfl hrg ?_ ?_)
    · intro hc0 hl0
      have HF := Lib.hid (cp_end HC.out hl0 hsz HT.out.ok)
      clear hl0 hrg
      go_wp2_with fail
      go_ret
      exact ⟨rfl, HF.out, HC.out.bel⟩
    · intro P hP c kl ya yb w2 cnt2 hkey hlk hv hat hrg2 hlt hg2 hs2 hen
      have HS := Lib.hid (cp_step (x := ⟨P, hP⟩) (y := (ya, yb)) HC.out HD.out.1 HD.out.2 hbl HS1.out hkey hv hat hrg2 hlt hg2)
      have HRd := Lib.hid hrg2
      have HLeft := Lib.hid hrg.left_eq
      clear hrg hkey hv hat hrg2 hg2 hlk hs2
      simp only at HS hen ⊢
      have hb3 : Below w2.heap.size w2 ((w2.alloc (.cells (Array.replicate 32 (Value.int .u8 0)) 74)).setRow w2.heap.size (bC P).toArray) := (balloc (Below.refl _ w2) _).trans (below_setRow _ _ _)
      have hB3 : Blk ((w2.alloc (.cells (Array.replicate 32 (Value.int .u8 0)) 74)).setRow w2.heap.size (bC P).toArray) w2.heap.size 74 (bC P).toArray := setRow_heap _ _ _ _ _ _ (Blk.new w2 74 (Array.replicate 32 (Value.int .u8 0)))
      have HRow : Hid ((w2.alloc (.cells (Array.replicate 32 (Value.int .u8 0)) 74)).heap[w2.heap.size]? = some (.cells (Array.replicate 32 (Value.int .u8 0)) 74 (0, 0))) := Lib.hid (Blk.new w2 _ _)
      go_wp2_with (refine wpList_store_row rfl 74 _ _ rfl w2.heap.size (bC P).toArray rfl rfl _ _ HRow.out (by rw [List.size_toArray, bC_len, hP]; kernel_rfl) (by simp [bC_len, hP]) (by simp [bC, Value.oneCell']) ?_)
      change Code.wp _ _ _ _ ((w2.alloc (.cells (Array.replicate 32 (Value.int .u8 0)) 74)).setRow w2.heap.size (bC P).toArray)
      generalize (w2.alloc (.cells (Array.replicate 32 (Value.int .u8 0)) 74)).setRow w2.heap.size (bC P).toArray = W0 at hb3 hB3 ⊢
      obtain ⟨g, hMg, hK⟩ := HS.out.2.1
      have HT0 := Lib.hid (HS.out.1.below hb3)
      have HMP := Lib.hid (hMg.below hb3)
      have HPl := Lib.hid hB3
      have HKK : Hid (∀ W3 W2, Below W0.heap.size W0 W2 → W2.mapTurned W3 w.heap.size → MapP W3 w.heap.size (Maps.size D - cnt + 1) (updP g P (some c)) → CpIn w b w1.heap.size n D f (fun z => left z && !z.sameKey kl) cnt2 W3) := Lib.hid fun W3 W2 h => hK W2 W3 (hb3.trans (h.mono hb3.size))
      have HV : Hid (c.size ≤ maxLen) := Lib.hid (by have := HT.out.ok _ _ HS.out.2.2; unfold maxLen; omega)
      have HN : Hid (Maps.size D - cnt < maxLen) := Lib.hid (by omega)
      have HLen : Hid (P.length = 32) := Lib.hid hP
      clear hb3 hB3 hK hMg
      refine wp_abs fun a0 hA => ?_
      have h3 : a0.eval (.tmp 3) = .pointer (some ⟨w.heap.size + 1, 0, none⟩) := by rw [hA]; rfl
      have h4 : a0.eval (.tmp 4) = .pointer (some ⟨w2.heap.size, 0, none⟩) := by rw [hA]; rfl
      have h5 : a0.eval (.tmp 5) = .string c := by rw [hA]; rfl
      have hz : a0.tmps.size = 24 := by rw [hA]; rfl
      refine wp_region_K [some 17, some 18, some 19, some 20, some 21, some 22, none] 24 (CJ (cpV w w2 P c) (fun _ _ => True) [6] (cpS W0 (CpIn w b w1.heap.size n D f (fun z => left z && !z.sameKey kl) cnt2))) (by kernel_rfl) (by kernel_rfl) (by kernel_rfl) rfl (by kernel_rfl) hz (CJ.start (fun i => trivial) (show Below W0.heap.size W0 W0.drew from (Below.refl _ W0).drew)) ?_ ⟨?_, ?_, ?_, ?_, ?_, ?_, ?_, trivial⟩
      · intro d u W hd hJ
        have HF := Lib.hid (show CpIn w b w1.heap.size n D f (fun z => left z && !z.sameKey kl) cnt2 W from hJ.fin 1 rfl (fun k hk => by simp at hk; subst hk; exact hd _ (by decide)) cpS_le)
        rw [hA]
        simp only [putAll, Act.put, List.setIfInBounds_toArray, List.set_cons_zero, List.set_cons_succ]
        clear hJ hd h3 h4 h5 hz hA
        clear a0
        go_wp2_with fail
        exact ⟨⟨_, _, HF.out⟩, by rw [HF.out.rg.left_eq, HLeft.out]; exact hlt⟩
      · exact KStep.plain rfl fun ρ d u W he hc hdi hd hJ => swp_val (run_move (he.o h3 rfl)) (hJ.pure 0 rfl rfl)
      · exact KStep.plain rfl fun ρ d u W he hc hdi hd hJ => swp_val (run_nilCheck (he.i hz (hJ.vals 0 (hd 0 (by kernel_rfl))) (j := 0) (d := 17) rfl (by decide))) (hJ.pure 1 rfl rfl)
      · exact KStep.plain rfl fun ρ d u W he hc hdi hd hJ => swp_val (run_fieldAddr (he.i hz (hJ.vals 1 (hd 1 (by kernel_rfl))) (j := 1) (d := 18) rfl (by decide)) (by go_simp)) (hJ.pure 2 rfl rfl)
      · exact KStep.plain rfl fun ρ d u W he hc hdi hd hJ => swp_val (run_load (he.i hz (hJ.vals 2 (hd 2 (by kernel_rfl))) (j := 2) (d := 19) rfl (by decide)) (ld_map ((HT0.out.below (hJ.olds2T 0 rfl (hc.notyet [3] (by kernel_rfl) rfl hdi) cpS_lt)).cell 0))) (hJ.pure 3 rfl rfl)
      · exact KStep.plain rfl fun ρ d u W he hc hdi hd hJ => swp_val (run_load (he.o h4 rfl) (ld_place (HPl.out.below (hJ.olds2T 0 rfl (hc.notyet [4] (by kernel_rfl) rfl hdi) cpS_lt)) HLen.out)) (hJ.pure 4 rfl rfl)
      · exact KStep.plain rfl fun ρ d u W he hc hdi hd hJ => swp_val (run_move (he.o h5 rfl)) (hJ.pure 5 rfl rfl)
      · refine KStep.plain rfl fun ρ d u W he hc hdi hd hJ => ?_
        have hS : Below W0.heap.size W0 W := hJ.at_ 0 rfl hdi (fun j h => by omega)
        obtain ⟨w4, hrun, hm4, ht4⟩ := (HMP.out.below hS).store HLen.out c HV.out HN.out
        exact swp_skip (run_mapUpdate (he.i hz (hJ.vals 3 (hd 3 (by kernel_rfl))) (j := 3) (d := 20) rfl (by decide)) (he.i hz (hJ.vals 4 (hd 4 (by kernel_rfl))) (j := 4) (d := 21) rfl (by decide)) (he.i hz (hJ.vals 5 (hd 5 (by kernel_rfl))) (j := 5) (d := 22) rfl (by decide)) hrun) (hJ.go 0 rfl hdi (by decide) (fun j h => by omega) trivial (HKK.out w4 W hS ht4 hm4))
end Go.Proofs.YtichklplcpkjdaaDoor
