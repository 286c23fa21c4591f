/-
  The walks of codec's Writer.
-/
import Derived.Test.YtpekbnkmnellpaaDoorBytes
import Derived.Maps.AppendAt
import Derived.Lib.AppendStr
import Derived.IntWalk
namespace Go.Proofs.YtpekbnkmnellpaaDoor
open Go.RowKit
set_option linter.unusedVariables false

/-- a number's byte, the k-th from the end -/
def nByte (n : Int) (k : Nat) : UInt8 := UInt8.ofNat (n / 2 ^ (8 * k) % 256).toNat
/-- a number by so many bytes, the highest first -/
def nB (n : Int) : Nat → List UInt8
  | 0 => []
  | k + 1 => nByte n k :: nB n k
theorem nB_len (n : Int) : ∀ k, (nB n k).length = k
  | 0 => rfl
  | k + 1 => by simp [nB, nB_len n k]
/-- the bytes that have been laid when k are still to come -/
def nPre (n : Int) (size k : Nat) : List UInt8 := (nB n size).take (size - k)
theorem nPre_step (n : Int) (size k : Nat) (h : k + 1 ≤ size) : nPre n size k = nPre n size (k + 1) ++ [nByte n k] := by
  have key : ∀ size, k + 1 ≤ size → (nB n size).take (size - k) = (nB n size).take (size - (k + 1)) ++ [nByte n k] := by
    intro size
    induction size with
    | zero => intro h; omega
    | succ s ih =>
      intro h
      by_cases e : k = s
      · subst e
        simp [nB]
      · have e1 : s + 1 - k = (s - k) + 1 := by omega
        have e2 : s + 1 - (k + 1) = (s - (k + 1)) + 1 := by omega
        rw [e1, e2, nB, List.take_succ_cons, List.take_succ_cons, ih (by omega), List.cons_append]
  exact key size h
def CLayRel (w : World) (base : Nat) (v : Value) (l : List UInt8) (n : Int) (size : Nat) (c : Nat) (v' at_ : Value) (wr : World) : Prop :=
  ∃ k : Nat, k ≤ size ∧ c = k ∧ at_ = .int .i64 (8 * (k : Int) - 8) ∧ Byt wr base v' (l ++ nPre n size k) ∧ w.grownBy wr v.ownBlock ∧ (v'.ownBlock = v.ownBlock ∨ ∃ r, v'.ownBlock = some r ∧ w.heap.size ≤ r)
theorem clay_step {w wr w1 : World} {base m size : Nat} {v v0 v' : Value} {l : List UInt8} {n : Int} {o : Obj} (hk : m + 1 ≤ size) (hg : w.grownBy wr v.ownBlock) (hl : v0.ownBlock = v.ownBlock ∨ ∃ r, v0.ownBlock = some r ∧ w.heap.size ≤ r)
    (hown : w1.ownsRow base 5 1 v' ((l ++ nPre n size (m + 1)).length + 1) (bC (l ++ nPre n size (m + 1)) ++ [.int .u8 (n / 2 ^ (8 * (m + 1) - 8) % 256)])) (hgrow : (wr.alloc o).grownBy w1 v0.ownBlock)
    (hloc : v'.ownBlock = v0.ownBlock ∨ v'.ownBlock = some (wr.heap.size + 1)) : CLayRel w base v l n size m v' (.int .i64 (8 * (m : Int) - 8)) w1 := by
  have hsz := hg.size
  refine ⟨m, by omega, rfl, rfl, ?_, ⟨hgrow.os.trans hg.os, hgrow.tape.trans hg.tape, hgrow.output.trans hg.output, by have := hgrow.size; simp at this; omega, fun k hk hne => ?_⟩, ?_⟩
  · unfold Byt
    rw [nPre_step n size m hk, ← List.append_assoc, bC_app, List.length_append]
    have e : bC [nByte n m] = [.int .u8 (n / 2 ^ (8 * (m + 1) - 8) % 256)] := by
      rw [show 8 * (m + 1) - 8 = 8 * m by omega]
      simp only [bC, List.map_cons, List.map_nil, nByte]
      rw [byte_back _ (by omega) (by omega)]
    rw [e]
    exact hown
  · have hk' : k < (wr.alloc o).heap.size := by simp; omega
    rw [hgrow.block k hk' (fun e => by
      rcases hl with h | ⟨r, h, hr⟩
      · exact hne (e.trans h)
      · rw [h] at e; cases e; omega), Below.heap_alloc wr o k (by omega)]
    exact hg.block k hk hne
  · rcases hloc with h | h
    · rw [h]; exact hl
    · exact .inr ⟨_, h, by omega⟩
set_option maxRecDepth 100000 in
set_option maxHeartbeats 1000000 in
theorem clay_is (base : Nat) (v : Value) (l : List UInt8) (n : Int) (size : Nat) (w : World) (hown : Byt w base v l) (hl : l.length + size ≤ 140737488355328) (hb : base ≤ w.heap.size) (h0 : 0 ≤ n) (h1 : n ≤ 18446744073709551615) (hs : size ≤ 8) :
    Calls Tryd.prog 92 #[v, .int .u64 n, .int .i64 (size : Int)] w (LayAns w base v (l ++ nB n size)) := by
  obtain ⟨i0, hi, hz0, hz1, hz2⟩ := info_parts info_u8
  have HI := Lib.hid (And.intro hi (And.intro hz0 (And.intro hz1 hz2)))
  clear hi hz0 hz1 hz2
  have HO := Lib.hid hown
  clear hown
  go_enter Tryd.func92, Tryd.ntmps92
  go_wp2
  go_loopg [0, 7] size (fun c v' a wr => CLayRel w base v l n size c v' a wr)
  case atStart => exact ⟨size, Nat.le_refl _, rfl, by congr 1; omega, by unfold nPre; rw [Nat.sub_self, List.take_zero, List.append_nil]; exact HO.out, ⟨rfl, rfl, rfl, Nat.le_refl _, fun _ _ _ => rfl⟩, .inl rfl⟩
  case round =>
    obtain ⟨k, hk, hc, rfl, hby, hgr, hloc⟩ := hrel
    have HC := Lib.hid hc
    have HY := Lib.hid hby
    have HG := Lib.hid hgr
    have HLoc := Lib.hid hloc
    clear hc hby hgr hloc HO
    rcases Nat.eq_zero_or_pos k with hk0 | hk0
    · have HK0 := Lib.hid hk0
      have t0 : (8 * (k : Int) - 8) < 0 := by omega
      have HA : Hid (LayAns w base v (l ++ nB n size) (.returned _) wr) := Lib.hid ⟨_, rfl, by
        have := HY.out
        rw [HK0.out] at this
        unfold nPre at this
        rwa [Nat.sub_zero, List.take_of_length_le (by rw [nB_len]; exact Nat.le_refl _)] at this, HG.out⟩
      clear hk0
      go_wp2_with fail
      go_ret
      exact HA.out
    · obtain ⟨m, rfl⟩ : ∃ m, k = m + 1 := ⟨k - 1, by omega⟩
      have hlen : (l ++ nPre n size (m + 1)).length + 1 ≤ 140737488355328 := by
        rw [List.length_append, nPre, List.length_take]; omega
      have hbs : base ≤ wr.heap.size := Nat.le_trans hb HG.out.size
      go_wp2_with (at_builtin; refine wpList_append_own_at _ rfl _ _ 89 rfl base 5 i0 (.int .u8 0) 1 1 Tryd.underlying89 HI.out.1 HI.out.2.1 HI.out.2.2.1 HI.out.2.2.2 rfl (by decide) _ _ _ rfl (HY.out.alloc _) ⟨wr.heap.size, 0, none⟩ 1 1 [.int .u8 (n / 2 ^ (8 * (m + 1) - 8) % 256)] rfl rfl (cell_one_new _ _ _) (ints_oneCell .u8 [n / 2 ^ (8 * (m + 1) - 8) % 256]) ?c3 ?c4 ?c5 ?_)
      case c3 => unfold maxLen; omega
      case c4 => omega
      case c5 => simp; omega
      intro v' w1 hown' hgrow hnil hloc
      have HR : Hid (CLayRel w base v l n size m v' (.int .i64 (8 * (m : Int) - 8)) w1) := Lib.hid (clay_step hk HG.out HLoc.out (by rw [List.length_append]; exact hown') hgrow hloc)
      clear hown' hgrow hnil hloc
      go_wp2_with fail
      go_roundg m
      case measure => rw [HC.out]; omega
      case rel =>
        have := HR.out
        rwa [show (8 * (m : Int) - 8) = 8 * ((m : Int) + 1) - 8 - 8 from by omega] at this

/-- all blocks that are no bytes, but one, are as they were -/
def Keeps (g : Nat) (w w' : World) : Prop := ∀ k t cs, Blk w k t cs → t ≠ 5 → k ≠ g → Blk w' k t cs
theorem Keeps.refl (g : Nat) (w : World) : Keeps g w w := fun _ _ _ h _ _ => h
theorem Keeps.trans {g : Nat} {a b c : World} (h : Keeps g a b) (k : Keeps g b c) : Keeps g a c := fun i t cs hb ht hi => k i t cs (h i t cs hb ht hi) ht hi
theorem own_ne {w : World} {B k : Nat} {v : Value} {l : List UInt8} {t : TypeId} {cs : Array Value} (h : Byt w B v l) (hk : Blk w k t cs) (ht : t ≠ 5) : some k ≠ v.ownBlock := by
  rcases h.2 with ⟨rfl, _⟩ | ⟨g, cap, cur, rfl, _, hg, _⟩
  · simp [Value.ownBlock]
  · intro e
    simp [Value.ownBlock] at e
    subst e
    unfold Blk at hk
    rw [hk] at hg
    simp at hg
    exact ht hg.2
/-- the writer in block g holds the bytes l -/
def Wr (w : World) (B g : Nat) (l : List UInt8) : Prop := B ≤ g ∧ ∃ v, Blk w g 120 #[v] ∧ Byt w B v l
theorem Wr.new (w : World) : Wr (w.alloc (.cells #[.slice none 0 0] 120)) w.heap.size w.heap.size [] := ⟨Nat.le_refl _, _, Blk.new _ _ _, Byt.nil _ _⟩
theorem Wr.kept {w w' : World} {B g : Nat} {l : List UInt8} (h : Wr w B g l) (hb : Below w.heap.size w w') : Wr w' B g l := by
  obtain ⟨hB, v, hk, hy⟩ := h
  exact ⟨hB, v, hk.below hb, hy.kept hb⟩
theorem Wr.alloc {w : World} {B g : Nat} {l : List UInt8} (h : Wr w B g l) (o : Obj) : Wr (w.alloc o) B g l := by
  obtain ⟨hB, v, hk, hy⟩ := h
  exact ⟨hB, v, hk.alloc o, hy.alloc o⟩
set_option maxHeartbeats 1000000 in
theorem newwriter_is (w : World) : Calls Tryd.prog 60 #[] w fun e w' => e = .returned (.pointer (some ⟨w.heap.size, 0, none⟩)) ∧ w' = w.alloc (.cells #[.slice none 0 0] 120) := by
  go_enter Tryd.func60, Tryd.ntmps60
  go_wp2
  go_ret
  exact ⟨rfl, rfl⟩
theorem wr_store {w w1 : World} {B g : Nat} {v v' : Value} {l l' : List UInt8} (hB : B ≤ g) (hBw : B ≤ w.heap.size) (hk : Blk w g 120 #[v]) (hy : Byt w B v l) (hy' : Byt w1 B v' l') (hg : w.grownBy w1 v.ownBlock) :
    Wr (w1.setCell ⟨g, 0, none⟩ v') B g l' ∧ Below B w (w1.setCell ⟨g, 0, none⟩ v') ∧ Keeps g w (w1.setCell ⟨g, 0, none⟩ v') := by
  have hne := own_ne hy hk (by decide)
  have hk1 : Blk w1 g 120 #[v] := by unfold Blk; rw [hg.block g hk.lt hne]; exact hk
  refine ⟨⟨hB, v', hk1.set_ 0 v', ?_⟩, ((Below.refl B w).grown hg hBw (fun k hk => (hy.lt k hk).1)).setCell (p := ⟨g, 0, none⟩) hB _, fun k t cs hb ht hi => ?_⟩
  · have hne' := own_ne hy' hk1 (by decide)
    refine ⟨hy'.1, ?_⟩
    rcases hy'.2 with hn | ⟨r, cap, cur, hv, hbg, hgg, rest⟩
    · exact .inl hn
    · refine .inr ⟨r, cap, cur, hv, hbg, ?_, rest⟩
      have hr : g ≠ r := fun e => hne' (by rw [hv]; simp [Value.ownBlock, e])
      exact (show Blk w1 r 5 cur from hgg).other g 0 v' hr
  · have hn2 := own_ne hy hb ht
    have : Blk w1 k t cs := by unfold Blk; rw [hg.block k hb.lt hn2]; exact hb
    exact this.other g 0 v' (fun e => hi e.symm)
set_option maxRecDepth 100000 in
set_option maxHeartbeats 1000000 in
theorem num_is (w : World) (B g : Nat) (l : List UInt8) (n : Int) (h : Wr w B g l) (hBw : B ≤ w.heap.size) (hl : l.length + 8 ≤ 140737488355328) (h0 : 0 ≤ n) (h1 : n ≤ 18446744073709551615) :
    Calls Tryd.prog 61 #[.pointer (some ⟨g, 0, none⟩), .int .u64 n] w fun e w' => e = .returned (.tuple #[]) ∧ Wr w' B g (l ++ nB n 8) ∧ Below B w w' ∧ Keeps g w w' := by
  obtain ⟨hB, v, hk, hy⟩ := h
  have c0 : w.cell? ⟨g, 0, none⟩ = some v := hk.cell 0
  have HK := Lib.hid hk
  have HY := Lib.hid hy
  clear hk hy
  go_enter Tryd.func61, Tryd.ntmps61
  go_wp2_with fail
  refine (clay_is B v l n 8 w HY.out (by omega) hBw h0 h1 (by omega)).mono ?_
  rintro e w1 ⟨v', rfl, hy', hg'⟩
  have HR := Lib.hid (wr_store hB hBw HK.out HY.out hy' hg')
  have hk1 : Blk w1 g 120 #[v] := by unfold Blk; rw [hg'.block g HK.out.lt (own_ne HY.out HK.out (by decide))]; exact HK.out
  have c1 : w1.cell? ⟨g, 0, none⟩ = some v := hk1.cell 0
  have f1 := hk1.frozen 0
  obtain ⟨ao, n', cap', rfl⟩ : ∃ ao n' cap', v' = .slice ao n' cap' := by
    rcases hy'.2 with ⟨hv, _⟩ | ⟨g, cap, cur, hv, _⟩
    · exact ⟨_, _, _, hv⟩
    · exact ⟨_, _, _, hv⟩
  clear hy' hg' hk1
  go_wp2_with fail
  go_end0
  exact ⟨rfl, HR.out⟩
set_option maxRecDepth 100000 in
set_option maxHeartbeats 1000000 in
theorem bytes_is (w : World) (B g : Nat) (l : List UInt8) (h : Wr w B g l) :
    Calls Tryd.prog 63 #[.pointer (some ⟨g, 0, none⟩)] w fun e w' => e = .returned (.string ⟨l.toArray⟩) ∧ w = w' := by
  obtain ⟨hB, v, hk, hy⟩ := h
  have c0 : w.cell? ⟨g, 0, none⟩ = some v := hk.cell 0
  have hcv := hy.conv
  have HK := Lib.hid hk
  have HY := Lib.hid hy
  clear hk hy
  go_enter Tryd.func63, Tryd.ntmps63
  go_wp2_with fail
  go_ret
  exact ⟨rfl, rfl⟩
end Go.Proofs.YtpekbnkmnellpaaDoor
