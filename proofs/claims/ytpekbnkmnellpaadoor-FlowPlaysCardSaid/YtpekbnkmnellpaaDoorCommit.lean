/-
  The walks of channel's Commitment and Answer.
-/
import Derived.Test.YtpekbnkmnellpaaDoorShaTag
import Derived.Test.YtpekbnkmnellpaaDoorCodec
import Derived.Test.YtpekbnkmnellpaaDoorMap
namespace Go.Proofs.YtpekbnkmnellpaaDoor
open Go.RowKit
set_option linter.unusedVariables false

def numsL (l : List Int) : List UInt8 := l.flatMap fun n => nB n 8
theorem numsL_len : ∀ l : List Int, (numsL l).length = 8 * l.length
  | [] => rfl
  | x :: l => by
    show (nB x 8 ++ numsL l).length = _
    rw [List.length_append, nB_len, numsL_len l, List.length_cons]
    omega
theorem numsL_snoc (l : List Int) (j : Nat) (h : j < l.length) : numsL (l.take (j + 1)) = numsL (l.take j) ++ nB (l.getD j 0) 8 := by
  rw [List.take_succ_eq_append_getElem h, getD_at l j 0 h]
  simp only [numsL, List.flatMap_append, List.flatMap_cons, List.flatMap_nil, List.append_nil]
/-- a packet -/
structure Pk where
  (seq src dst : Int)
  (data : ByteArray)
  (timeout : Int)
def Pk.v (p : Pk) : Value := .agg #[.int .u64 p.seq, .int .u64 p.src, .int .u64 p.dst, .string p.data, .int .u64 p.timeout]
structure Pk.ok (p : Pk) : Prop where
  seq : u64r p.seq
  src : u64r p.src
  dst : u64r p.dst
  timeout : u64r p.timeout
  data : p.data.size ≤ 140737488351232
/-- what the commitment sums -/
def Pk.inp (p : Pk) : List UInt8 := inpL 13 [⟨(numsL [p.seq, p.src, p.dst, p.timeout]).toArray⟩, p.data]
def Pk.comm (p : Pk) : ByteArray := sumB ⟨p.inp.toArray⟩
theorem partL_len (s : ByteArray) : (partL s).length = 4 + s.size := by
  rw [partL, List.length_append, len_data]; rfl
theorem Pk.inp_len (p : Pk) : p.inp.length = 41 + p.data.size := by
  have h32 : (⟨(numsL [p.seq, p.src, p.dst, p.timeout]).toArray⟩ : ByteArray).size = 32 := by
    show (numsL _).toArray.size = 32
    rw [List.size_toArray, numsL_len]; rfl
  simp only [inp, inpL, List.flatMap_cons, List.flatMap_nil, List.append_nil, List.length_cons, List.length_append, partL_len, h32]
  omega
def CommRel (p : Pk) (w : World) (c : Nat) (i : Value) (wr : World) : Prop :=
  ∃ j : Nat, j ≤ 4 ∧ c = 4 - j ∧ i = .int .i64 j ∧ Wr wr (w.heap.size + 1) (w.heap.size + 1) (numsL ([p.seq, p.src, p.dst, p.timeout].take j)) ∧
    Blk wr (w.heap.size + 2) 22 #[.int .u64 p.seq, .int .u64 p.src, .int .u64 p.dst, .int .u64 p.timeout] ∧ Blk wr w.heap.size 24 #[.int .u64 p.seq, .int .u64 p.src, .int .u64 p.dst, .string p.data, .int .u64 p.timeout] ∧ Below w.heap.size w wr
theorem comm_start (p : Pk) (w : World) : CommRel p w 4 (.int .i64 0) (((w.alloc (.cells #[.int .u64 p.seq, .int .u64 p.src, .int .u64 p.dst, .string p.data, .int .u64 p.timeout] 24)).alloc (.cells #[.slice none 0 0] 120)).alloc
    (.cells #[.int .u64 p.seq, .int .u64 p.src, .int .u64 p.dst, .int .u64 p.timeout] 22)) := by
  obtain ⟨w1, h1⟩ : ∃ w1, w1 = w.alloc (.cells #[.int .u64 p.seq, .int .u64 p.src, .int .u64 p.dst, .string p.data, .int .u64 p.timeout] 24) := ⟨_, rfl⟩
  have hs1 : w1.heap.size = w.heap.size + 1 := by rw [h1]; simp
  have hb1 : Blk w1 w.heap.size 24 #[.int .u64 p.seq, .int .u64 p.src, .int .u64 p.dst, .string p.data, .int .u64 p.timeout] := h1 ▸ Blk.new _ _ _
  have hl1 : Below w.heap.size w w1 := h1 ▸ balloc (Below.refl _ w) _
  rw [← h1]
  obtain ⟨w2, h2⟩ : ∃ w2, w2 = w1.alloc (.cells #[.slice none 0 0] 120) := ⟨_, rfl⟩
  have hs2 : w2.heap.size = w.heap.size + 2 := by rw [h2]; simp; omega
  have hw2 : Wr w2 (w.heap.size + 1) (w.heap.size + 1) [] := by rw [h2, ← hs1]; exact Wr.new w1
  have hb2 := hb1.alloc (.cells #[.slice none 0 0] 120)
  have hl2 := balloc hl1 (.cells #[.slice none 0 0] 120)
  rw [← h2] at hb2 hl2 ⊢
  exact ⟨0, by omega, rfl, rfl, hw2.alloc _, hs2 ▸ Blk.new w2 _ _, hb2.alloc _, balloc hl2 _⟩
theorem four_get (a b c d : Int) (j : Nat) (h : j < 4) : (#[Value.int .u64 a, .int .u64 b, .int .u64 c, .int .u64 d] : Array Value)[j]? = some (.int .u64 ([a, b, c, d].getD j 0)) := by
  have : j = 0 ∨ j = 1 ∨ j = 2 ∨ j = 3 := by omega
  rcases this with rfl | rfl | rfl | rfl <;> rfl
theorem four_r (a b c d : Int) (j : Nat) (ha : u64r a) (hb : u64r b) (hc : u64r c) (hd : u64r d) : u64r ([a, b, c, d].getD j 0) := by
  match j with
  | 0 => exact ha
  | 1 => exact hb
  | 2 => exact hc
  | 3 => exact hd
  | n + 4 => exact ⟨by simp, by simp⟩
theorem Wr.drew {w : World} {B g : Nat} {l : List UInt8} (h : Wr w B g l) : Wr w.drew B g l := h
theorem Glob.alloc {w : World} (G : Glob w) (o : Obj) : Glob (w.alloc o) := G.of_blocks fun i hi => Below.heap_alloc w o i (Nat.lt_of_lt_of_le hi G.two)
theorem glob_alloc {w : World} (G : Glob w) (o : Obj) : Glob (w.alloc o).drew := G.of_blocks fun i hi => Below.heap_alloc w o i (Nat.lt_of_lt_of_le hi G.two)
theorem tag13 (X dt : ByteArray) (g : Nat) (W : World) (hb : Blk W g 9 #[.string X, .string dt]) (G : Glob W) (hN : (inpL 13 [X, dt]).length ≤ 140737488355328) :
    Calls Tryd.prog 62 #[.int .u8 13, .slice (some ⟨g, 0, none⟩) 2 2] W fun e w' => e = .returned (.string (sumB ⟨(inpL 13 [X, dt]).toArray⟩)) ∧ Below W.heap.size W w' :=
  tag_is 13 [X, dt] g 2 W G hb.lt (fun j h => by
    rw [hb.cell j]
    have : j = 0 ∨ j = 1 := by simp at h; omega
    rcases this with rfl | rfl <;> rfl) (by simp) hN
theorem tag14 (X : ByteArray) (g : Nat) (W : World) (hb : Blk W g 9 #[.string X]) (G : Glob W) (hN : (inpL 14 [X]).length ≤ 140737488355328) :
    Calls Tryd.prog 62 #[.int .u8 14, .slice (some ⟨g, 0, none⟩) 1 1] W fun e w' => e = .returned (.string (sumB ⟨(inpL 14 [X]).toArray⟩)) ∧ Below W.heap.size W w' :=
  tag_is 14 [X] g 1 W G hb.lt (fun j h => by
    rw [hb.cell j]
    have : j = 0 := by simp at h; omega
    subst this; rfl) (by simp) hN
set_option maxRecDepth 100000 in
set_option maxHeartbeats 1000000 in
theorem commitment_is (p : Pk) (w : World) (G : Glob w) (hp : p.ok) :
    Calls Tryd.prog 14 #[p.v] w fun e w' => e = .returned (.string p.comm) ∧ Below w.heap.size w w' := by
  obtain ⟨sq, fr, to_, dt, tm⟩ := p
  have HP := Lib.hid hp
  have HG := Lib.hid G
  have hdt : dt.size ≤ 140737488351232 := hp.data
  clear hp G
  show Calls Tryd.prog 14 #[.agg #[.int .u64 sq, .int .u64 fr, .int .u64 to_, .string dt, .int .u64 tm]] w fun e w' => e = .returned (.string (Pk.comm ⟨sq, fr, to_, dt, tm⟩)) ∧ Below w.heap.size w w'
  go_enter Tryd.func14, Tryd.ntmps14
  go_wp2_with fail
  refine (newwriter_is _).mono ?_
  rintro e w1 ⟨rfl, rfl⟩
  go_wp2_with fail
  go_loopg [17] 4 (fun c i wr => CommRel ⟨sq, fr, to_, dt, tm⟩ w c i wr)
  case atStart => exact comm_start ⟨sq, fr, to_, dt, tm⟩ w
  case round =>
    obtain ⟨j, hj, hc, rfl, hwr, hb4, hbp, hbel⟩ := hrel
    have HC := Lib.hid hc
    have HW := Lib.hid hwr
    have H4 := Lib.hid hb4
    have HB := Lib.hid hbp
    have HL := Lib.hid hbel
    clear hc hwr hb4 hbp hbel
    by_cases h4 : j < 4
    · have c0 := H4.out.cell j
      rw [four_get _ _ _ _ j h4] at c0
      have hr := four_r sq fr to_ tm j HP.out.seq HP.out.src HP.out.dst HP.out.timeout
      have HSn := Lib.hid (numsL_snoc [sq, fr, to_, tm] j h4)
      generalize [sq, fr, to_, tm].getD j 0 = n at c0 hr HSn
      have hlen : (numsL ([sq, fr, to_, tm].take j)).length + 8 ≤ 140737488355328 := by rw [numsL_len, List.length_take]; omega
      have hsz : w.heap.size + 1 ≤ wr.heap.size := by have := HB.out.lt; omega
      go_wp2_with fail
      refine (num_is wr _ _ _ n HW.out hsz hlen hr.1 hr.2).mono ?_
      rintro e w2 ⟨rfl, hw2, hl2, hk2⟩
      rw [← HSn.out] at hw2
      have HR : Hid (CommRel ⟨sq, fr, to_, dt, tm⟩ w (4 - (j + 1)) (.int .i64 ((j + 1 : Nat) : Int)) w2) := Lib.hid ⟨j + 1, by omega, rfl, rfl, hw2, hk2 _ _ _ H4.out (by decide) (by omega), hk2 _ _ _ HB.out (by decide) (by omega), HL.out.trans (hl2.mono (by omega))⟩
      clear hw2 hl2 hk2
      go_wp2_with fail
      go_roundg (4 - (j + 1))
      case measure => rw [HC.out]; omega
      case rel => exact HR.out
    · have HJ : Hid (j = 4) := Lib.hid (by omega)
      have cd : wr.cell? ⟨w.heap.size, 3, none⟩ = some (.string dt) := HB.out.cell 3
      have HWj : Hid (Wr wr (w.heap.size + 1) (w.heap.size + 1) (numsL [sq, fr, to_, tm])) := Lib.hid (by have := HW.out; rw [HJ.out] at this; exact this)
      have HGr := Lib.hid (HG.out.below HL.out HG.out.two)
      have HN := Lib.hid (Pk.inp_len ⟨sq, fr, to_, dt, tm⟩)
      have HE : Hid (Pk.comm ⟨sq, fr, to_, dt, tm⟩ = sumB ⟨(inpL 13 [⟨(numsL [sq, fr, to_, tm]).toArray⟩, dt]).toArray⟩) := Lib.hid rfl
      have HN' : Hid ((inpL 13 [⟨(numsL [sq, fr, to_, tm]).toArray⟩, dt]).length ≤ 140737488355328) := Lib.hid (by have := HN.out; unfold Pk.inp at this; rw [this]; show 41 + dt.size ≤ _; omega)
      clear HN HW H4 HC HP
      generalize numsL [sq, fr, to_, tm] = X at HWj HE HN'
      go_upto_region 7 with fail
      go_region_held3 (fun w' => w'.cell? ⟨w.heap.size, 3, none⟩ = some (.string dt)) (first | go_keep | exact cd9)
        (first | (go_at_call 63; refine (bytes_is _ (w.heap.size + 1) (w.heap.size + 1) X (by exact HWj.out.drew)).mono ?_; rintro e w' ⟨rfl, rfl⟩) | (go_at_call 62; refine (tag13 ⟨X.toArray⟩ dt wr.heap.size _ (by exact Blk.drew (Blk.new wr _ _)) (by exact glob_alloc HGr.out _) HN'.out).mono ?_; rintro e w' ⟨rfl, hb9⟩; have cd9 := (((HB.out.alloc _).drew).below hb9).cell 3))
      go_wp2_with fail
      go_ret
      exact ⟨by rw [HE.out]; rfl, bstep (balloc HL.out _).drew hb9⟩
def ansB (s : ByteArray) : ByteArray := sumB ⟨(inpL 14 [s]).toArray⟩
theorem inp14_len (s : ByteArray) : (inpL 14 [s]).length = 5 + s.size := by
  simp only [inpL, List.flatMap_cons, List.flatMap_nil, List.append_nil, List.length_cons, partL_len]
  omega
set_option maxHeartbeats 1000000 in
theorem answer_is (s : ByteArray) (w : World) (G : Glob w) (hs : s.size ≤ 140737488351232) :
    Calls Tryd.prog 15 #[.string s] w fun e w' => e = .returned (.string (ansB s)) ∧ Below w.heap.size w w' := by
  have HG := Lib.hid G
  clear G
  go_enter Tryd.func15, Tryd.ntmps15
  go_wp2_with fail
  refine (tag14 s w.heap.size _ (Blk.new w _ _) (HG.out.alloc _) (by rw [inp14_len]; omega)).mono ?_
  rintro e w1 ⟨rfl, hb1⟩
  have HL := Lib.hid (bstep (balloc (Below.refl _ w) _) hb1)
  clear hb1
  go_wp2_with fail
  go_ret
  exact ⟨rfl, HL.out⟩
end Go.Proofs.YtpekbnkmnellpaaDoor
