/-
  The document's codec and channel (voussoirref02, voussoirref18): the ends.
-/
import Derived.Test.YtpekbnkmnellpaaDoorRSha
import Derived.Test.YtpekbnkmnellpaaDoorInput18
import Derived.Test.YtpekbnkmnellpaaDoorChanT
import Derived.Test.YtpekbnkmnellpaaDoorRef2
import Derived.Test.YtpekbnkmnellpaaDoorChanM
import Derived.Test.YtpekbnkmnellpaaDoorRegAll
import Derived.Test.YtpekbnkmnellpaaDoorChanB
import Derived.Test.YtpekbnkmnellpaaDoorFlowB
import Derived.Test.YtpekbnkmnellpaaDoorChanP
namespace Go.Proofs.YtpekbnkmnellpaaDoor
open Go.RowKit
set_option linter.unusedVariables false

theorem globR_alloc {w : World} (G : GlobR w) (o : Obj) : GlobR (w.alloc o).drew := G.of_blocks fun i hi => Below.heap_alloc w o i (Nat.lt_of_lt_of_le hi G.four)
theorem rtag13 (X dt : ByteArray) (g : Nat) (W : World) (hb : Blk W g 9 #[.string X, .string dt]) (G : GlobR W) (hN : (inpL 13 [X, dt]).length ≤ 140737488355328) :
    Calls Tryd.prog 90 #[.int .u8 13, .slice (some ⟨g, 0, none⟩) 2 2] W fun e w' => e = .returned (.string (sumB ⟨(inpL 13 [X, dt]).toArray⟩)) ∧ Below W.heap.size W w' :=
  rtag_is 13 [X, dt] g 2 W G hb.lt (fun j h => by
    rw [hb.cell j]
    have : j = 0 ∨ j = 1 := by simp at h; omega
    rcases this with rfl | rfl <;> rfl) (by simp) hN
theorem rtag14 (X : ByteArray) (g : Nat) (W : World) (hb : Blk W g 9 #[.string X]) (G : GlobR W) (hN : (inpL 14 [X]).length ≤ 140737488355328) :
    Calls Tryd.prog 90 #[.int .u8 14, .slice (some ⟨g, 0, none⟩) 1 1] W fun e w' => e = .returned (.string (sumB ⟨(inpL 14 [X]).toArray⟩)) ∧ Below W.heap.size W w' :=
  rtag_is 14 [X] g 1 W G hb.lt (fun j h => by
    rw [hb.cell j]
    have : j = 0 := by simp at h; omega
    subst this; rfl) (by simp) hN
set_option maxHeartbeats 1000000 in
theorem rans_is (s : ByteArray) (w : World) (G : GlobR w) (hs : s.size ≤ 140737488351232) :
    Calls Tryd.prog 54 #[.string s] w fun e w' => e = .returned (.string (ansB s)) ∧ Below w.heap.size w w' := by
  have HG := Lib.hid G
  clear G
  go_enter Tryd.func54, Tryd.ntmps54
  go_wp2_with fail
  refine (rtag14 s w.heap.size _ (Blk.new w _ _) (HG.out.alloc _) (by rw [inp14_len]; omega)).mono ?_
  rintro e w1 ⟨rfl, hb1⟩
  have HL := Lib.hid (bstep (balloc (Below.refl _ w) _) hb1)
  clear hb1
  go_wp2_with fail
  go_ret
  exact ⟨rfl, HL.out⟩

set_option maxRecDepth 100000 in
set_option maxHeartbeats 1000000 in
theorem rcomm_is (p : Pk) (w : World) (G : GlobR w) (hp : p.ok) :
    Calls Tryd.prog 53 #[p.v] w fun e w' => e = .returned (.string p.comm) ∧ Below w.heap.size w w' := by
  obtain ⟨sq, fr, to_, dt, tm⟩ := p
  have HP := Lib.hid hp
  have HG := Lib.hid G
  clear G
  have hdt : dt.size ≤ 140737488351232 := hp.data
  clear hp
  have HN := Lib.hid (Pk.inp_len ⟨sq, fr, to_, dt, tm⟩)
  show Calls Tryd.prog 53 #[.agg #[.int .u64 sq, .int .u64 fr, .int .u64 to_, .string dt, .int .u64 tm]] w fun e w' => e = .returned (.string (Pk.comm ⟨sq, fr, to_, dt, tm⟩)) ∧ Below w.heap.size w w'
  go_enter Tryd.func53, Tryd.ntmps53
  go_wp2_with fail
  have hP := Blk.new w 24 #[.int .u64 sq, .int .u64 fr, .int .u64 to_, .string dt, .int .u64 tm]
  have hL := balloc (Below.refl _ w) (.cells #[.int .u64 sq, .int .u64 fr, .int .u64 to_, .string dt, .int .u64 tm] 24)
  have hs : (w.alloc (.cells #[.int .u64 sq, .int .u64 fr, .int .u64 to_, .string dt, .int .u64 tm] 24)).heap.size = w.heap.size + 1 := by simp
  generalize w.alloc (.cells #[.int .u64 sq, .int .u64 fr, .int .u64 to_, .string dt, .int .u64 tm] 24) = w0 at hP hL hs ⊢
  refine (rnewwriter_is w0).mono ?_
  rintro e w1 ⟨rfl, rfl⟩
  have hW := Blk.new w0 126 #[.string ⟨#[]⟩]
  have hP1 := hP.alloc (.cells #[.string ⟨#[]⟩] 126)
  have hL1 := balloc hL (.cells #[.string ⟨#[]⟩] 126)
  have hg : w.heap.size < w0.heap.size := by omega
  clear hP hL hs
  generalize w0.alloc (.cells #[.string ⟨#[]⟩] 126) = w1 at hW hP1 hL1 ⊢
  generalize w0.heap.size = g at hW hg ⊢
  have HW1 := Lib.hid hW
  have HP1 := Lib.hid hP1
  have HL1 := Lib.hid hL1
  clear hW hP1 hL1
  have p0 : w1.cell? ⟨w.heap.size, 0, none⟩ = some (.int .u64 sq) := HP1.out.cell 0
  go_wp2_with fail
  refine (rnum_is w1 g [] sq HW1.out (by simp) HP.out.seq).mono ?_
  rintro e w2 ⟨rfl, hw2, ho2⟩
  have HP2 := Lib.hid (HP1.out.only ho2 (by simp; omega))
  have HL2 := Lib.hid (HL1.out.trans (ho2.below (B := w.heap.size) (by simp; omega) HL1.out.size))
  have HW2 := Lib.hid hw2
  clear hw2 ho2 p0 HP1 HL1 HW1
  have p1 : w2.cell? ⟨w.heap.size, 1, none⟩ = some (.int .u64 fr) := HP2.out.cell 1
  go_wp2_with fail
  refine (rnum_is w2 g _ fr HW2.out (by simp [nB_len]) HP.out.src).mono ?_
  rintro e w3 ⟨rfl, hw3, ho3⟩
  have HP3 := Lib.hid (HP2.out.only ho3 (by simp; omega))
  have HL3 := Lib.hid (HL2.out.trans (ho3.below (B := w.heap.size) (by simp; omega) HL2.out.size))
  have HW3 := Lib.hid hw3
  clear hw3 ho3 p1 HP2 HL2 HW2
  have p2 : w3.cell? ⟨w.heap.size, 2, none⟩ = some (.int .u64 to_) := HP3.out.cell 2
  go_wp2_with fail
  refine (rnum_is w3 g _ to_ HW3.out (by simp [nB_len]) HP.out.dst).mono ?_
  rintro e w4 ⟨rfl, hw4, ho4⟩
  have HP4 := Lib.hid (HP3.out.only ho4 (by simp; omega))
  have HL4 := Lib.hid (HL3.out.trans (ho4.below (B := w.heap.size) (by simp; omega) HL3.out.size))
  have HW4 := Lib.hid hw4
  clear hw4 ho4 p2 HP3 HL3 HW3
  have p4 : w4.cell? ⟨w.heap.size, 4, none⟩ = some (.int .u64 tm) := HP4.out.cell 4
  go_wp2_with fail
  refine (rnum_is w4 g _ tm HW4.out (by simp [nB_len]) HP.out.timeout).mono ?_
  rintro e w5 ⟨rfl, hw5, ho5⟩
  have HP5 := Lib.hid (HP4.out.only ho5 (by simp; omega))
  have HL5 := Lib.hid (HL4.out.trans (ho5.below (B := w.heap.size) (by simp; omega) HL4.out.size))
  have e5 : [] ++ nB sq 8 ++ nB fr 8 ++ nB to_ 8 ++ nB tm 8 = numsL [sq, fr, to_, tm] := by simp [numsL]
  rw [e5] at hw5
  have HW5 := Lib.hid hw5
  have HN' : Hid ((inpL 13 [⟨(numsL [sq, fr, to_, tm]).toArray⟩, dt]).length ≤ 140737488355328) := Lib.hid (by have := HN.out; unfold Pk.inp at this; rw [this]; show 41 + dt.size ≤ _; omega)
  clear hw5 ho5 p4 HP4 HL4 HW4 e5 HN
  have HE : Hid (Pk.comm ⟨sq, fr, to_, dt, tm⟩ = sumB ⟨(inpL 13 [⟨(numsL [sq, fr, to_, tm]).toArray⟩, dt]).toArray⟩) := Lib.hid rfl
  generalize numsL [sq, fr, to_, tm] = X at HW5 HN' HE
  have HGr := Lib.hid (HG.out.below HL5.out HG.out.four)
  have cd : w5.cell? ⟨w.heap.size, 3, none⟩ = some (.string dt) := HP5.out.cell 3
  go_upto_region 6 with fail
  go_region_held3 (fun w' => w'.cell? ⟨w.heap.size, 3, none⟩ = some (.string dt)) (first | go_keep | exact cd9)
    (first | (go_at_call 67; refine (rbytes_is _ g ⟨X.toArray⟩ (by exact HW5.out.drew)).mono ?_; rintro e w' ⟨rfl, rfl⟩) | (go_at_call 90; refine (rtag13 ⟨X.toArray⟩ dt w5.heap.size _ (by exact Blk.drew (Blk.new w5 _ _)) (by exact globR_alloc HGr.out _) HN'.out).mono ?_; rintro e w' ⟨rfl, hb9⟩; have cd9 := (((HP5.out.alloc _).drew).below hb9).cell 3))
  go_wp2_with fail
  go_ret
  exact ⟨by rw [HE.out]; rfl, bstep (balloc HL5.out _).drew hb9⟩
end Go.Proofs.YtpekbnkmnellpaaDoor
namespace Go.Proofs.YtpekbnkmnellpaaDoor
open Go.RowKit
set_option linter.unusedVariables false

def Rd2 (w : World) (g : Nat) (s : ByteArray) (b : Bool) : Prop := Blk w g 133 #[.string s, .bool b]
theorem rnewreader_is (s : ByteArray) (w : World) : Calls Tryd.prog 86 #[.string s] w fun e w' => e = .returned (.pointer (some ⟨w.heap.size, 0, none⟩)) ∧ w' = w.alloc (.cells #[.string s, .bool false] 133) := by
  go_enter Tryd.func86, Tryd.ntmps86
  go_wp2
  go_ret
  exact ⟨rfl, rfl⟩
def TkRel (s : ByteArray) (k : Nat) (c : Nat) (n i : Value) : Prop :=
  ∃ j : Nat, j ≤ k ∧ c = k - j ∧ n = .int .u64 (valF 0 (s.data.toList.take j) : Nat) ∧ i = .int .i64 (j : Int)
theorem val_snoc (s : ByteArray) (j : Nat) (h : j < s.size) : valF 0 (s.data.toList.take (j + 1)) = valF 0 (s.data.toList.take j) * 256 + s[j].toNat := by
  have hl : j < s.data.toList.length := by rw [len_data]; exact h
  rw [List.take_succ_eq_append_getElem hl, valF_snoc]
  rfl
def RS.takeV (r : RS) (k : Nat) : Nat := if r.cutBad k then 0 else valF 0 (r.rest.data.toList.take k)
theorem pow_le8 (j : Nat) (h : j ≤ 7) : (256 : Nat) ^ j ≤ 72057594037927936 := by
  have : (256 : Nat) ^ j ≤ 256 ^ 7 := Nat.pow_le_pow_right (by omega) h
  exact this
set_option maxRecDepth 100000 in
set_option maxHeartbeats 1000000 in
theorem rtake_is (w : World) (g k : Nat) (r : RS) (h : Rd2 w g r.rest r.bad) (hs : r.rest.size ≤ 140737488355328) (hk : k ≤ 8) :
    Calls Tryd.prog 101 #[.pointer (some ⟨g, 0, none⟩), .int .i64 (k : Int)] w fun e w' => e = .returned (.int .u64 (r.takeV k : Nat)) ∧ Rd2 w' g (r.cut k).rest (r.cut k).bad ∧ Only [g] w w' := by
  obtain ⟨s, b⟩ := r
  have HB : Hid (Blk w g 133 #[.string s, .bool b]) := Lib.hid h
  clear h
  have hs' : s.size ≤ 140737488355328 := hs
  clear hs
  have c0 : w.cell? ⟨g, 0, none⟩ = some (.string s) := HB.out.cell 0
  have c1 : w.cell? ⟨g, 1, none⟩ = some (.bool b) := HB.out.cell 1
  have f0 := HB.out.frozen 0
  have f1 := HB.out.frozen 1
  by_cases hbad : b = true ∨ s.size < k
  · have HE : Hid (RS.takeV ⟨s, b⟩ k = 0 ∧ RS.cut ⟨s, b⟩ k = ⟨s, true⟩) := Lib.hid (by
      have : RS.cutBad ⟨s, b⟩ k = true := by unfold RS.cutBad; rcases hbad with rfl | hlt <;> simp_all
      unfold RS.takeV RS.cut
      rw [this]
      exact ⟨rfl, rfl⟩)
    cases b with
    | true =>
      go_enter Tryd.func101, Tryd.ntmps101
      go_wp2_with fail
      go_ret
      exact ⟨by rw [HE.out.1]; rfl, by rw [HE.out.2]; exact HB.out.set_ 1 _, (Only.refl [g] w).set_ (by simp) _⟩
    | false =>
      have hlt : (s.size : Int) < (k : Int) := by simp at hbad; omega
      clear hbad
      go_enter Tryd.func101, Tryd.ntmps101
      go_wp2_with fail
      go_ret
      exact ⟨by rw [HE.out.1]; rfl, by rw [HE.out.2]; exact HB.out.set_ 1 _, (Only.refl [g] w).set_ (by simp) _⟩
  · have hb0 : b = false := by cases b <;> simp_all
    subst hb0
    have hle : k ≤ s.size := by omega
    have HE : Hid (RS.takeV ⟨s, false⟩ k = valF 0 (s.data.toList.take k) ∧ RS.cut ⟨s, false⟩ k = ⟨s.extract k s.size, false⟩) := Lib.hid (by
      have : RS.cutBad ⟨s, false⟩ k = false := by unfold RS.cutBad; simp; omega
      unfold RS.takeV RS.cut
      rw [this]
      exact ⟨rfl, rfl⟩)
    have hn : ¬ (s.size : Int) < (k : Int) := by omega
    clear hbad
    go_enter Tryd.func101, Tryd.ntmps101
    go_wp2_with fail
    go_loopg [5, 6] k (fun c n i wr => TkRel s k c n i ∧ wr = w)
    case atStart => exact ⟨⟨0, by omega, rfl, rfl, rfl⟩, rfl⟩
    case round =>
      obtain ⟨⟨j, hj, hc, rfl, rfl⟩, rfl⟩ := hrel
      have HC := Lib.hid hc
      clear hc
      by_cases hlt : j < k
      · have HV := Lib.hid (val_snoc s j (by omega))
        have hv := valF_lt (s.data.toList.take j)
        have hlt7 : (s.data.toList.take j).length ≤ j := by rw [List.length_take]; omega
        have hp : (256 : Nat) ^ (s.data.toList.take j).length ≤ 256 ^ j := Nat.pow_le_pow_right (by omega) hlt7
        have hp7 := pow_le8 j (by omega)
        have hix := fun W => idx_at s j (by omega) W
        have hb := s[j].toNat_lt
        generalize s[j].toNat = b at HV hix hb
        generalize valF 0 (s.data.toList.take j) = V at HV hv ⊢
        have hV : V < 72057594037927936 := by omega
        have e1 : IntKind.u64.wrap (256 * (V : Int)) = 256 * (V : Int) := by rw [IntKind.wrap_u64]; omega
        have e2 : IntKind.u64.wrap (256 * (V : Int) + (b : Int)) = 256 * (V : Int) + (b : Int) := by rw [IntKind.wrap_u64]; omega
        clear hv hp hlt7 hp7
        go_wp2_with fail
        go_roundg (k - (j + 1))
        case measure => rw [HC.out]; omega
        case rel => exact ⟨⟨j + 1, by omega, rfl, by congr 1; rw [HV.out]; omega, by congr 1⟩, rfl⟩
      · have hjk : j = k := by omega
        subst hjk
        have HR := Lib.hid (HB.out.set_ 0 (.string (s.extract j s.size)))
        have HO := Lib.hid ((Only.refl [g] wr).set_ (g := g) (i := 0) (by simp) (.string (s.extract j s.size)))
        go_wp2_with fail
        go_ret
        exact ⟨by rw [HE.out.1]; rfl, by rw [HE.out.2]; exact HR.out, HO.out⟩
theorem numV_take (r : RS) : r.takeV 8 = r.numV := by
  unfold RS.takeV RS.numV
  congr 2
  simp
theorem rrnum_is (w : World) (g : Nat) (r : RS) (h : Rd2 w g r.rest r.bad) (hs : r.rest.size ≤ 140737488355328) :
    Calls Tryd.prog 87 #[.pointer (some ⟨g, 0, none⟩)] w fun e w' => e = .returned (.int .u64 (r.numV : Nat)) ∧ Rd2 w' g (r.cut 8).rest (r.cut 8).bad ∧ Only [g] w w' := by
  have hcut : Calls Tryd.prog 101 #[.pointer (some ⟨g, 0, none⟩), .int .i64 8] w _ := rtake_is w g 8 r h hs (by omega)
  rw [numV_take] at hcut
  have HCut := Lib.hid hcut
  clear hcut h
  go_enter Tryd.func87, Tryd.ntmps87
  go_wp2_with fail
  refine HCut.out.mono ?_
  rintro e w1 ⟨rfl, hr1, ho1⟩
  have HR := Lib.hid hr1
  have HO := Lib.hid ho1
  clear hr1 ho1 HCut
  go_wp2_with fail
  go_ret
  exact ⟨rfl, HR.out, HO.out⟩
theorem rs_if (X : Bool) (a b : ByteArray) : RS.mk (if X then a else b) X = if X then ⟨a, true⟩ else ⟨b, false⟩ := by cases X <;> rfl
theorem cutV_parts (rs : ByteArray) (m : Bool) (n : Nat) : RS.cutV ⟨rs, m⟩ n = if m || decide (rs.size < n) then ⟨#[]⟩ else rs.extract 0 n := rfl
theorem cut_parts (rs : ByteArray) (m : Bool) (n : Nat) : RS.cut ⟨rs, m⟩ n = if m || decide (rs.size < n) then ⟨rs, true⟩ else ⟨rs.extract n rs.size, false⟩ := rs_if _ _ _
theorem text_parts (r : RS) (most : Nat) : r.textV most = (if r.cutBad 4 || (decide (most < r.textN) || decide ((r.cut 4).rest.size < r.textN)) then ⟨#[]⟩ else (r.cut 4).rest.extract 0 r.textN) ∧
    r.text most = (if r.cutBad 4 || (decide (most < r.textN) || decide ((r.cut 4).rest.size < r.textN)) then ⟨(r.cut 4).rest, true⟩ else ⟨(r.cut 4).rest.extract r.textN (r.cut 4).rest.size, false⟩) := by
  have hm : r.marked most = ⟨(r.cut 4).rest, decide (most < r.textN)⟩ := rfl
  have hb : r.cut 4 = ⟨(r.cut 4).rest, r.cutBad 4⟩ := rfl
  unfold RS.textV RS.text
  rw [hm]
  generalize r.textN = n
  generalize (r.cut 4).rest = rs at hb ⊢
  rw [cutV_parts, hb, cut_parts rs (decide (most < n)) n]
  cases r.cutBad 4 with
  | true => simp
  | false => simp
theorem textN_take (r : RS) : r.takeV 4 = if r.cutBad 4 then 0 else r.textN := by
  unfold RS.takeV RS.textN
  rw [show (r.rest.extract 0 4).data.toList = r.rest.data.toList.take 4 by simp]
set_option maxRecDepth 100000 in
set_option maxHeartbeats 1000000 in
theorem rrtext_is (w : World) (g : Nat) (r : RS) (most : Nat) (h : Rd2 w g r.rest r.bad) (hs : r.rest.size ≤ 140737488355328) (hm : most ≤ 4294967296) :
    Calls Tryd.prog 88 #[.pointer (some ⟨g, 0, none⟩), .int .i64 most] w fun e w' => e = .returned (.string (r.textV most)) ∧ Rd2 w' g (r.text most).rest (r.text most).bad ∧ Only [g] w w' := by
  have hcut : Calls Tryd.prog 101 #[.pointer (some ⟨g, 0, none⟩), .int .i64 4] w _ := rtake_is w g 4 r h hs (by omega)
  rw [textN_take] at hcut
  obtain ⟨hp1, hp2⟩ := text_parts r most
  have hcb : (r.cut 4).bad = r.cutBad 4 := rfl
  rw [hcb] at hcut
  have HCut := Lib.hid hcut
  have HP1 := Lib.hid hp1
  have HP2 := Lib.hid hp2
  have hcl := r.cut_le 4
  have hv := valF_lt (r.rest.extract 0 4).data.toList
  rw [len_data] at hv
  have hpow : (256 : Nat) ^ (r.rest.extract 0 4).size ≤ 256 ^ 4 := Nat.pow_le_pow_right (by omega) (ext_size r.rest 4)
  have hN : r.textN < 4294967296 := by unfold RS.textN; omega
  clear hcut h hp1 hp2 hcb hv hpow
  generalize r.cutBad 4 = b at HCut HP1 HP2
  generalize r.textN = n at HCut HP1 HP2 hN
  generalize (r.cut 4).rest = rs at HCut HP1 HP2 hcl
  cases b with
  | true =>
    go_enter Tryd.func88, Tryd.ntmps88
    go_wp2_with fail
    refine HCut.out.mono ?_
    rintro e w1 ⟨rfl, hr1, ho1⟩
    have HR : Hid (Blk w1 g 133 #[.string rs, .bool true]) := Lib.hid hr1
    have HO := Lib.hid ho1
    have c1 : w1.cell? ⟨g, 1, none⟩ = some (.bool true) := HR.out.cell 1
    have f1 := HR.out.frozen 1
    clear hr1 ho1 HCut
    go_wp2_with fail
    go_ret
    exact ⟨by rw [HP1.out]; rfl, by rw [HP2.out]; exact HR.out.set_ 1 _, HO.out.set_ (by simp) _⟩
  | false =>
    by_cases hgt : most < n ∨ rs.size < n
    · have HD : Hid ((false || (decide (most < n) || decide (rs.size < n))) = true) := Lib.hid (by simpa using hgt)
      rw [HD.out] at HP1 HP2
      go_enter Tryd.func88, Tryd.ntmps88
      go_wp2_with fail
      refine HCut.out.mono ?_
      simp only [Bool.false_eq_true, if_false]
      rintro e w1 ⟨rfl, hr1, ho1⟩
      have HR : Hid (Blk w1 g 133 #[.string rs, .bool false]) := Lib.hid hr1
      have HO := Lib.hid ho1
      have c0 : w1.cell? ⟨g, 0, none⟩ = some (.string rs) := HR.out.cell 0
      have c1 : w1.cell? ⟨g, 1, none⟩ = some (.bool false) := HR.out.cell 1
      have f1 := HR.out.frozen 1
      clear hr1 ho1 HCut HD
      by_cases h1 : most < n
      · clear hgt
        go_wp2_with fail
        go_ret
        exact ⟨by rw [HP1.out]; rfl, by rw [HP2.out]; exact HR.out.set_ 1 _, HO.out.set_ (by simp) _⟩
      · have h2 : rs.size < n := by omega
        clear hgt
        go_wp2_with fail
        go_ret
        exact ⟨by rw [HP1.out]; rfl, by rw [HP2.out]; exact HR.out.set_ 1 _, HO.out.set_ (by simp) _⟩
    · have HD : Hid ((false || (decide (most < n) || decide (rs.size < n))) = false) := Lib.hid (by simp; omega)
      rw [HD.out] at HP1 HP2
      have h1 : ¬ most < n := by omega
      have h2 : ¬ rs.size < n := by omega
      clear hgt
      go_enter Tryd.func88, Tryd.ntmps88
      go_wp2_with fail
      refine HCut.out.mono ?_
      simp only [Bool.false_eq_true, if_false]
      rintro e w1 ⟨rfl, hr1, ho1⟩
      have HR : Hid (Blk w1 g 133 #[.string rs, .bool false]) := Lib.hid hr1
      have HO := Lib.hid ho1
      have c0 : w1.cell? ⟨g, 0, none⟩ = some (.string rs) := HR.out.cell 0
      have c1 : w1.cell? ⟨g, 1, none⟩ = some (.bool false) := HR.out.cell 1
      have f0 := HR.out.frozen 0
      clear hr1 ho1 HCut HD
      go_wp2_with fail
      go_ret
      exact ⟨by rw [HP1.out]; rfl, by rw [HP2.out]; exact HR.out.set_ 0 _, HO.out.set_ (by simp) _⟩
set_option maxRecDepth 100000 in
set_option maxHeartbeats 1000000 in
theorem rrend_is (w : World) (g : Nat) (r : RS) (h : Rd2 w g r.rest r.bad) :
    Calls Tryd.prog 89 #[.pointer (some ⟨g, 0, none⟩)] w fun e w' => e = .returned (.bool r.endB) ∧ w = w' := by
  obtain ⟨s, b⟩ := r
  have HB : Hid (Blk w g 133 #[.string s, .bool b]) := Lib.hid h
  clear h
  have c0 : w.cell? ⟨g, 0, none⟩ = some (.string s) := HB.out.cell 0
  have c1 : w.cell? ⟨g, 1, none⟩ = some (.bool b) := HB.out.cell 1
  obtain ⟨t, ht⟩ : ∃ t, s.toList.isEmpty = t := ⟨_, rfl⟩
  have HE : Hid (RS.endB ⟨s, b⟩ = (!b && t)) := Lib.hid (by unfold RS.endB; rw [← ht])
  cases b <;> cases t
  all_goals
    go_enter Tryd.func89, Tryd.ntmps89
    go_wp2_with fail
    go_ret
    exact ⟨by rw [HE.out]; rfl, rfl⟩
end Go.Proofs.YtpekbnkmnellpaaDoor
namespace Go.Proofs.YtpekbnkmnellpaaDoor
open Go.RowKit
set_option linter.unusedVariables false

def numQ (n : Int) (k : Nat) : List UInt8 := List.replicate k 0 ++ nB n (4 - k)
theorem numQ_len (n : Int) (k : Nat) (h : k ≤ 4) : (numQ n k).length = 4 := by simp [numQ, nB_len]; omega
theorem numQ_set (n : Int) (k : Nat) (h : k + 1 ≤ 4) : (numQ n (k + 1)).set k (nByte n (4 - (k + 1))) = numQ n k := by
  unfold numQ
  rw [show 4 - k = (4 - (k + 1)) + 1 by omega, nB, List.replicate_succ', List.append_assoc, List.set_append]
  simp
def NumRelQ (n : Int) (w : World) (c : Nat) (n' i : Value) (wr : World) : Prop :=
  ∃ k : Nat, k ≤ 4 ∧ c = k ∧ n' = .int .u64 (n / 256 ^ (4 - k)) ∧ i = .int .i64 ((k : Int) - 1) ∧ Blk wr w.heap.size 5 (bCA (numQ n k)) ∧ Below w.heap.size w wr
theorem num_divQ (n : Int) (m : Nat) (h0 : 0 ≤ n) (h1 : n ≤ 18446744073709551615) (hm : m + 1 ≤ 4) : 0 ≤ n / 256 ^ (4 - (m + 1)) ∧ n / 256 ^ (4 - (m + 1)) ≤ 18446744073709551615 := by
  have hp : (0 : Int) < 256 ^ (4 - (m + 1)) := Int.pow_pos (by omega)
  refine ⟨Int.ediv_nonneg h0 (Int.le_of_lt hp), ?_⟩
  exact Int.le_trans (Int.ediv_le_self _ h0) h1
theorem num_stepQ (n : Int) (m : Nat) (hm : m + 1 ≤ 4) (h0 : 0 ≤ n) {w wr : World} (hb : Blk wr w.heap.size 5 (bCA (numQ n (m + 1)))) (hl : Below w.heap.size w wr) :
    NumRelQ n w m (.int .u64 (n / 256 ^ (4 - (m + 1)) / 256)) (.int .i64 ((m : Int) - 1)) (wr.setCell ⟨w.heap.size, m, none⟩ (.int .u8 (n / 256 ^ (4 - (m + 1)) % 256))) := by
  refine ⟨m, by omega, rfl, ?_, rfl, ?_, hl.setCell (p := ⟨w.heap.size, m, none⟩) (Nat.le_refl _) _⟩
  · congr 1
    rw [show 4 - m = (4 - (m + 1)) + 1 by omega, Int.pow_succ, Int.ediv_ediv_of_nonneg (Int.le_of_lt (Int.pow_pos (by omega)))]
  · have := hb.set_ m (.int .u8 (n / 256 ^ (4 - (m + 1)) % 256))
    have e : ((nByte n (4 - (m + 1))).toNat : Int) = n / 256 ^ (4 - (m + 1)) % 256 := by
      unfold nByte
      have h2 : (2 : Nat) ^ (8 * (4 - (m + 1))) = 256 ^ (4 - (m + 1)) := by rw [Nat.pow_mul]
      have h3 : (2 : Int) ^ (8 * (4 - (m + 1))) = 256 ^ (4 - (m + 1)) := by
        have := congrArg (fun x : Nat => (x : Int)) h2
        simpa using this
      rw [h3, byte_back _ (by omega) (by omega)]
    rw [← e, bCA_set, numQ_set n m hm, e] at this
    exact this
set_option maxRecDepth 100000 in
set_option maxHeartbeats 1000000 in
theorem number4_is (n : Int) (w : World) (hn : u64r n) :
    Calls Tryd.prog 97 #[.int .u64 n, .int .i64 4] w fun e w' => e = .returned (.string ⟨(nB n 4).toArray⟩) ∧ Below w.heap.size w w' := by
  have hmk : ∀ w : World, (Instr.makeSlice 89 (.int .i64 4) (.int .i64 4)).run Tryd.prog w = .ok (.slice (some ⟨w.heap.size, 0, none⟩) 4 4) (w.alloc (.cells #[.int .u8 0, .int .u8 0, .int .u8 0, .int .u8 0] 5)) := fun _ => by kernel_rfl
  obtain ⟨h0, h1⟩ := hn
  go_enter Tryd.func97, Tryd.ntmps97
  go_wp2_with fail
  go_loopg [0, 6] 4 (fun c n' i wr => NumRelQ n w c n' i wr)
  case atStart => exact ⟨4, by omega, rfl, by simp, rfl, Blk.new _ _ _, balloc (Below.refl _ w) _⟩
  case round =>
    obtain ⟨k, hk, hc, rfl, rfl, hb, hl⟩ := hrel
    have HC := Lib.hid hc
    have HB := Lib.hid hb
    have HL := Lib.hid hl
    clear hc hb hl hmk
    rcases Nat.eq_zero_or_pos k with hk0 | hk0
    · have HK0 := Lib.hid hk0
      have t0 : (k : Int) - 1 < 0 := by omega
      have hby : Byt wr w.heap.size (.slice (some ⟨w.heap.size, 0, none⟩) 4 4) (nB n 4) := by
        have := HB.out
        rw [HK0.out] at this
        refine ⟨by rw [bC_len]; simp, .inr ⟨w.heap.size, 4, _, by rw [nB_len], Nat.le_refl _, this, by rw [nB_len]; omega, by unfold maxLen; omega, ?_, ?_⟩⟩
        · simp [bCA, bC, numQ, nB_len]
        · simp only [bCA, numQ, List.replicate_zero, List.nil_append, Nat.sub_zero, Nat.mul_one]
          rw [List.take_of_length_le]
          rw [bC_len]; simp [nB_len]
      have hcv := hby.conv
      clear hk0 hby
      go_wp2_with fail
      go_ret
      exact ⟨rfl, HL.out⟩
    · obtain ⟨m, rfl⟩ : ∃ m, k = m + 1 := ⟨k - 1, by omega⟩
      have hd := num_divQ n m h0 h1 (by omega)
      have HN : Hid (NumRelQ n w m (.int .u64 (n / 256 ^ (4 - (m + 1)) / 256)) (.int .i64 ((m : Int) - 1)) (wr.setCell ⟨w.heap.size, m, none⟩ (.int .u8 (n / 256 ^ (4 - (m + 1)) % 256)))) := Lib.hid (num_stepQ n m (by omega) h0 HB.out HL.out)
      have c0 := HB.out.cell m
      rw [bCA_get _ _ (by rw [numQ_len _ _ (by omega)]; omega)] at c0
      have f0 := HB.out.frozen m
      generalize n / 256 ^ (4 - (m + 1)) = x at hd HN ⊢
      obtain ⟨x0, x1⟩ := hd
      have i0 : (m : Int) < 4 := by omega
      generalize ((numQ n (m + 1)).getD m 0).toNat = z at c0
      clear HB HL
      go_wp2_with fail
      go_roundg m
      case measure => rw [HC.out]; omega
      case rel => exact HN.out
def rwV (g : Nat) (l X : List UInt8) (s : ByteArray) (i : Nat) (v : Value) : Prop := match i with
  | 0 => v = .pointer (some ⟨g, 0, none⟩)
  | 1 => v = .pointer (some ⟨g, 0, none⟩)
  | 2 => v = .pointer (some ⟨g, 0, none⟩)
  | 3 => v = .pointer (some ⟨g, 0, none⟩)
  | 4 => v = .string ⟨l.toArray⟩
  | 5 => v = .string s
  | 6 => v = .int .i64 (s.size : Int)
  | 7 => v = .int .u64 (s.size : Int)
  | 8 => v = .string ⟨X.toArray⟩
  | 9 => v = .string (⟨l.toArray⟩ ++ ⟨X.toArray⟩ : ByteArray)
  | 10 => v = .string s
  | 11 => v = .string (⟨l.toArray⟩ ++ ⟨X.toArray⟩ ++ s : ByteArray)
  | 12 => v = .pointer (some ⟨g, 0, none⟩)
  | 13 => v = .pointer (some ⟨g, 0, none⟩)
  | _ => True
def rwO  (i : Nat) (v : Value) : Prop := match i with
  | _ => True
theorem run_len {P : Program} {ρ : Operand → Value} {w w' : World} {dst : Option Tmp} {t : TypeId} {pos : String} {af : Array Edge} {g : Option (Nat × Bool)} {v x1 : Value} {x : Operand} {T : TypeId} (hx : ρ x = x1) (h : (Builtin.len_ #[T] t #[x1]).run P w = .ok v w') : (execOp ρ ⟨dst, .call { callee := .builtin .len, args := #[x], argTypes := #[T] }, t, pos, af, g⟩).run P w = .ok (.value v) w' := by
  subst hx
  simp [execOp, resolve, invoke, builtin, h]
theorem load_w {g : Nat} {W : World} {s : ByteArray} (h : Blk W g 126 #[.string s]) : (Instr.loadAt 9 (.pointer (some ⟨g, 0, none⟩))).run Tryd.prog W = .ok (.string s) W := by
  have c0 : W.cell? ⟨g, 0, none⟩ = some (.string s) := h.cell 0
  go_simp
theorem store_w {g : Nat} {W : World} {s t : ByteArray} (h : Blk W g 126 #[.string s]) : (Instr.storeAt 9 (.pointer (some ⟨g, 0, none⟩)) (.string t)).run Tryd.prog W = .ok () (W.setCell ⟨g, 0, none⟩ (.string t)) := by
  have c0 : W.cell? ⟨g, 0, none⟩ = some (.string s) := h.cell 0
  have f0 := h.frozen 0
  go_simp
def rwS (w : World) (g : Nat) (a b : ByteArray) (n : Nat) (vs : List Value) (W : World) : Prop := match n with
  | 0 => Blk W g 126 #[.string a] ∧ Only [g] w W
  | 1 => Blk W g 126 #[.string a] ∧ Only [g] w W
  | 2 => Blk W g 126 #[.string b] ∧ Only [g] w W
  | _ => False
theorem rwS_le {w : World} {g : Nat} {a b : ByteArray} (n : Nat) (vs : List Value) (W : World) (h : rwS w g a b n vs W) : n ≤ 2 := by
  rcases n with _ | _ | _ | n
  · omega
  · omega
  · omega
  · exact absurd h id
theorem rwS_0 {w : World} {g : Nat} {a b : ByteArray} (n : Nat) (vs : List Value) (W : World) (hn : n < 2) (h : rwS w g a b n vs W) : Blk W g 126 #[.string a] := by
  rcases n with _ | _ | n
  · exact h.1
  · exact h.1
  · omega
theorem CJ.olds2 {V O : Nat → Value → Prop} {ks : List Nat} {S : Nat → List Value → World → Prop} {d : Nat → Bool} {u : Nat → Value} {W : World} {I : World → Prop} (h : CJ V O ks S d u W) (m : Nat) {k : Nat} (hk : ks[m]? = some k) (hd : d k = false) (hq : ∀ n l W, n < m + 1 → S n l W → I W) : I W := by
  obtain ⟨n, hn, hS⟩ := h.chain
  refine hq n _ W ?_ hS
  rcases Nat.lt_or_ge m n with h1 | h1
  · have := (hn m k hk).2 h1
    rw [hd] at this
    cases this
  · omega
theorem rw_next {w W W' : World} {g : Nat} {a : ByteArray} (h : Blk W g 126 #[.string a] ∧ Only [g] w W) (hb : Below W.heap.size W W') : Blk W' g 126 #[.string a] ∧ Only [g] w W' := ⟨h.1.below hb, h.2.trans (Only.of_below hb)⟩
theorem rw_set {w W : World} {g : Nat} {a b : ByteArray} (h : Blk W g 126 #[.string a] ∧ Only [g] w W) : Blk (W.setCell ⟨g, 0, none⟩ (.string b)) g 126 #[.string b] ∧ Only [g] w (W.setCell ⟨g, 0, none⟩ (.string b)) := ⟨h.1.set_ 0 _, h.2.set_ (by simp) _⟩
theorem conv_u64' (x : Int) (h0 : 0 ≤ x) (h1 : x ≤ 9223372036854775807) (W : World) : (convert 3 22 (.int .i64 x)).run Tryd.prog W = .ok (.int .u64 x) W := by
  have : IntKind.u64.wrap x = x := by rw [IntKind.wrap_u64]; omega
  simp [go_sem, this]
set_option maxRecDepth 100000 in
set_option maxHeartbeats 1000000 in
theorem rwtext_is (w : World) (g : Nat) (l : List UInt8) (s : ByteArray) (hb : Blk w g 126 #[.string ⟨l.toArray⟩]) (hl : l.length ≤ 1000) (hs : s.size ≤ 1000) :
    Calls Tryd.prog 85 #[.pointer (some ⟨g, 0, none⟩), .string s] w fun e w' => e = .returned (.tuple #[]) ∧ Blk w' g 126 #[.string ⟨(l ++ nB (s.size : Int) 4 ++ s.data.toList).toArray⟩] ∧ Only [g] w w' := by
  have HB := Lib.hid hb
  have HNum := Lib.hid (fun W => number4_is (s.size : Int) W ⟨by omega, by omega⟩)
  have HCat : Hid ((⟨l.toArray⟩ ++ ⟨(nB (s.size : Int) 4).toArray⟩ ++ s : ByteArray) = ⟨(l ++ nB (s.size : Int) 4 ++ s.data.toList).toArray⟩) := Lib.hid (by
    rw [cat2]
    apply ByteArray.ext
    simp)
  have hle : (nB (s.size : Int) 4).length ≤ 4 := by rw [nB_len]; omega
  generalize nB (s.size : Int) 4 = X at HCat HNum hle ⊢
  clear hb
  go_enter Tryd.func85, Tryd.ntmps85
  go_upto_region 0 with fail
  refine wp_abs fun a0 hA => ?_
  have h0 : a0.eval (.tmp 0) = .pointer (some ⟨g, 0, none⟩) := by rw [hA]; rfl
  have h1 : a0.eval (.tmp 1) = .string s := by rw [hA]; rfl
  have hz : a0.tmps.size = 18 := by rw [hA]; rfl
  refine wp_region_K [some 4, some 5, some 6, some 7, some 8, some 9, some 10, some 11, some 12, some 13, some 14, some 15, some 16, some 17, none] 18 (CJ (rwV g l X s) rwO [8, 14] (rwS w g ⟨l.toArray⟩ (⟨l.toArray⟩ ++ ⟨X.toArray⟩ ++ s : ByteArray))) (by kernel_rfl) (by kernel_rfl) (by kernel_rfl) rfl (by kernel_rfl) hz (CJ.start (fun i => trivial) ⟨HB.out.drew, Only.of_below (Below.refl _ _).drew⟩) ?_ ⟨?_, ?_, ?_, ?_, ?_, ?_, ?_, ?_, ?_, ?_, ?_, ?_, ?_, ?_, ?_, trivial⟩
  · intro d u W hd hJ
    have HS := Lib.hid (show _ ∧ _ from hJ.fin 2 rfl (fun k hk => by simp at hk; rcases hk with rfl | rfl <;> exact hd _ (by decide)) rwS_le)
    rw [hA]
    simp only [putAll, Act.put, List.setIfInBounds_toArray, List.set_cons_zero, List.set_cons_succ]
    clear hJ hd h0 h1 hz hA
    clear a0
    go_wp2_with fail
    go_end0
    exact ⟨rfl, by rw [← HCat.out]; exact HS.out.1, HS.out.2⟩
  · exact KStep.plain rfl fun ρ d u W he hc hdi hd hJ => swp_val (run_move (he.o h0 rfl)) (hJ.pure 0 rfl rfl)
  · exact KStep.plain rfl fun ρ d u W he hc hdi hd hJ => swp_val (run_move (he.o h0 rfl)) (hJ.pure 1 rfl rfl)
  · exact KStep.plain rfl fun ρ d u W he hc hdi hd hJ => swp_val (run_nilCheck (he.i hz (hJ.vals 1 (hd 1 (by kernel_rfl))) (j := 1) (d := 5) rfl (by decide))) (hJ.pure 2 rfl rfl)
  · exact KStep.plain rfl fun ρ d u W he hc hdi hd hJ => swp_val (run_fieldAddr (he.i hz (hJ.vals 2 (hd 2 (by kernel_rfl))) (j := 2) (d := 6) rfl (by decide)) (by go_simp)) (hJ.pure 3 rfl rfl)
  · exact KStep.plain rfl fun ρ d u W he hc hdi hd hJ => swp_val (run_load (he.i hz (hJ.vals 3 (hd 3 (by kernel_rfl))) (j := 3) (d := 7) rfl (by decide)) (load_w (hJ.olds2 1 rfl (hc.notyet [11, 9, 4] (by kernel_rfl) rfl hdi) rwS_0))) (hJ.pure 4 rfl rfl)
  · exact KStep.plain rfl fun ρ d u W he hc hdi hd hJ => swp_val (run_move (he.o h1 rfl)) (hJ.pure 5 rfl rfl)
  · exact KStep.plain rfl fun ρ d u W he hc hdi hd hJ => swp_val (run_len (he.i hz (hJ.vals 5 (hd 5 (by kernel_rfl))) (j := 5) (d := 9) rfl (by decide)) (by go_simp)) (hJ.pure 6 rfl rfl)
  · exact KStep.plain rfl fun ρ d u W he hc hdi hd hJ => swp_val (run_convert (he.i hz (hJ.vals 6 (hd 6 (by kernel_rfl))) (j := 6) (d := 10) rfl (by decide)) (conv_u64' _ (by omega) (by omega) W)) (hJ.pure 7 rfl rfl)
  · exact KStep.plain rfl fun ρ d u W he hc hdi hd hJ => swp_call (run_call #[.int .u64 (s.size : Int), .int .i64 4] (he.func _) (by kernel_rfl) (map2 (he.i hz (hJ.vals 7 (hd 7 (by kernel_rfl))) (j := 7) (d := 11) rfl (by decide)) (he.const _))) (HNum.out W) (fun e W' h => ⟨_, h.1, hJ.go 0 rfl hdi (by decide) (fun j h => by omega) rfl (rw_next (hJ.at_ 0 rfl hdi (fun j h => by omega)) h.2)⟩)
  · exact KStep.plain rfl fun ρ d u W he hc hdi hd hJ => swp_val (run_bin (he.i hz (hJ.vals 4 (hd 4 (by kernel_rfl))) (j := 4) (d := 8) rfl (by decide)) (he.i hz (hJ.vals 8 (hd 8 (by kernel_rfl))) (j := 8) (d := 12) rfl (by decide)) rfl (by go_simp; omega)) (hJ.pure 9 rfl rfl)
  · exact KStep.plain rfl fun ρ d u W he hc hdi hd hJ => swp_val (run_move (he.o h1 rfl)) (hJ.pure 10 rfl rfl)
  · exact KStep.plain rfl fun ρ d u W he hc hdi hd hJ => swp_val (run_bin (he.i hz (hJ.vals 9 (hd 9 (by kernel_rfl))) (j := 9) (d := 13) rfl (by decide)) (he.i hz (hJ.vals 10 (hd 10 (by kernel_rfl))) (j := 10) (d := 14) rfl (by decide)) rfl (by go_simp; omega)) (hJ.pure 11 rfl rfl)
  · exact KStep.plain rfl fun ρ d u W he hc hdi hd hJ => swp_val (run_nilCheck (he.i hz (hJ.vals 0 (hd 0 (by kernel_rfl))) (j := 0) (d := 4) rfl (by decide))) (hJ.pure 12 rfl rfl)
  · exact KStep.plain rfl fun ρ d u W he hc hdi hd hJ => swp_val (run_fieldAddr (he.i hz (hJ.vals 12 (hd 12 (by kernel_rfl))) (j := 12) (d := 16) rfl (by decide)) (by go_simp)) (hJ.pure 13 rfl rfl)
  · refine KStep.plain rfl fun ρ d u W he hc hdi hd hJ => ?_
    have hS : _ ∧ _ := hJ.at_ 1 rfl hdi (fun j h => by cases h; exact ⟨8, rfl, hc.path 11 [9, 8] (by kernel_rfl) (hd 11 (by kernel_rfl)) 8 rfl⟩)
    exact swp_skip (run_store (he.i hz (hJ.vals 13 (hd 13 (by kernel_rfl))) (j := 13) (d := 17) rfl (by decide)) (he.i hz (hJ.vals 11 (hd 11 (by kernel_rfl))) (j := 11) (d := 15) rfl (by decide)) (store_w hS.1)) (hJ.go 1 rfl hdi (by decide) (fun j h => by cases h; exact ⟨8, rfl, hc.path 11 [9, 8] (by kernel_rfl) (hd 11 (by kernel_rfl)) 8 rfl⟩) trivial (rw_set hS))
end Go.Proofs.YtpekbnkmnellpaaDoor
namespace Go.Proofs.YtpekbnkmnellpaaDoor
open Go.RowKit
set_option linter.unusedVariables false

/-- an end and two results -/
structure Ch3 (w : World) (gC gE gM : Nat) (cC cE cM : Array Value) (W : World) : Prop where
  bel : Below w.heap.size w W
  c : Blk W gC 57 cC
  e : Blk W gE 57 cE
  m : Blk W gM 57 cM
  big : w.heap.size ≤ gC ∧ w.heap.size ≤ gE ∧ w.heap.size ≤ gM
  ne : gC ≠ gE ∧ gC ≠ gM ∧ gE ≠ gM
section
variable {w : World} {gC gE gM : Nat} {cC cE cM : Array Value} {W W' : World}
theorem Ch3.next (h : Ch3 w gC gE gM cC cE cM W) (hb : Below W.heap.size W W') : Ch3 w gC gE gM cC cE cM W' := ⟨bstep h.bel hb, h.c.below hb, h.e.below hb, h.m.below hb, h.big, h.ne⟩
theorem Ch3.setC (h : Ch3 w gC gE gM cC cE cM W) (i : Nat) (u : Value) : Ch3 w gC gE gM (cC.setIfInBounds i u) cE cM (W.setCell ⟨gC, i, none⟩ u) :=
  ⟨h.bel.setCell (p := ⟨gC, i, none⟩) h.big.1 u, h.c.set_ i u, h.e.other gC i u h.ne.1, h.m.other gC i u h.ne.2.1, h.big, h.ne⟩
theorem Ch3.setE {a0 a1 a2 a3 a4 a5 : Value} (h : Ch3 w gC gE gM cC #[a0, a1, a2, a3, a4, a5] cM W) (u0 u1 u2 u3 u4 u5 : Value) : Ch3 w gC gE gM cC #[u0, u1, u2, u3, u4, u5] cM (setC6 W gE u0 u1 u2 u3 u4 u5) :=
  ⟨below_set6 h.bel gE h.big.2.1 u0 u1 u2 u3 u4 u5, h.c.other6 gE (Ne.symm h.ne.1) u0 u1 u2 u3 u4 u5, h.e.set6 u0 u1 u2 u3 u4 u5, h.m.other6 gE h.ne.2.2 u0 u1 u2 u3 u4 u5, h.big, h.ne⟩
theorem Ch3.setM {a0 a1 a2 a3 a4 a5 : Value} (h : Ch3 w gC gE gM cC cE #[a0, a1, a2, a3, a4, a5] W) (u0 u1 u2 u3 u4 u5 : Value) : Ch3 w gC gE gM cC cE #[u0, u1, u2, u3, u4, u5] (setC6 W gM u0 u1 u2 u3 u4 u5) :=
  ⟨below_set6 h.bel gM h.big.2.2 u0 u1 u2 u3 u4 u5, h.c.other6 gM (Ne.symm h.ne.2.1) u0 u1 u2 u3 u4 u5, h.e.other6 gM (Ne.symm h.ne.2.2) u0 u1 u2 u3 u4 u5, h.m.set6 u0 u1 u2 u3 u4 u5, h.big, h.ne⟩
end
def ChS (w : World) (gC gE gM : Nat) (cC cE cM z : Array Value) (n : Nat) (vs : List Value) (W : World) : Prop := match n with
  | 0 => Ch3 w gC gE gM cC z z W
  | 1 => Ch3 w gC gE gM cC z z W
  | 2 => Ch3 w gC gE gM cC cE z W
  | 3 => Ch3 w gC gE gM cC cE cM W
  | _ => False
theorem ChS_le {w : World} {gC gE gM : Nat} {cC cE cM z : Array Value} (n : Nat) (vs : List Value) (W : World) (h : ChS w gC gE gM cC cE cM z n vs W) : n ≤ 3 := by
  rcases n with _ | _ | _ | _ | n
  · omega
  · omega
  · omega
  · omega
  · exact absurd h id
theorem ChS_c {w : World} {gC gE gM : Nat} {cC cE cM z : Array Value} (n : Nat) (vs : List Value) (W : World) (h : ChS w gC gE gM cC cE cM z n vs W) : Blk W gC 57 cC := by
  rcases n with _ | _ | _ | _ | n
  · exact Ch3.c h
  · exact Ch3.c h
  · exact Ch3.c h
  · exact Ch3.c h
  · exact absurd h id
theorem load_ch {g : Nat} {W : World} {a0 : Int} {a1 : Bool} {a2 a3 : Int} {a4 a5 : ByteArray} (h : Blk W g 57 #[.int .i64 a0, .bool a1, .int .u64 a2, .int .u64 a3, .string a4, .string a5]) :
    (Instr.loadAt 57 (.pointer (some ⟨g, 0, none⟩))).run Tryd.prog W = .ok (.agg #[.int .i64 a0, .bool a1, .int .u64 a2, .int .u64 a3, .string a4, .string a5]) W := by
  have c0 : W.cell? ⟨g, 0, none⟩ = some (.int .i64 a0) := h.cell 0
  have c1 : W.cell? ⟨g, 1, none⟩ = some (.bool a1) := h.cell 1
  have c2 : W.cell? ⟨g, 2, none⟩ = some (.int .u64 a2) := h.cell 2
  have c3 : W.cell? ⟨g, 3, none⟩ = some (.int .u64 a3) := h.cell 3
  have c4 : W.cell? ⟨g, 4, none⟩ = some (.string a4) := h.cell 4
  have c5 : W.cell? ⟨g, 5, none⟩ = some (.string a5) := h.cell 5
  go_simp
theorem store_ch {g : Nat} {W : World} {b0 : Int} {b1 : Bool} {b2 b3 : Int} {b4 b5 : ByteArray} {a0 : Int} {a1 : Bool} {a2 a3 : Int} {a4 a5 : ByteArray} (h : Blk W g 57 #[.int .i64 b0, .bool b1, .int .u64 b2, .int .u64 b3, .string b4, .string b5]) :
    (Instr.storeAt 57 (.pointer (some ⟨g, 0, none⟩)) (.agg #[.int .i64 a0, .bool a1, .int .u64 a2, .int .u64 a3, .string a4, .string a5])).run Tryd.prog W = .ok () (setC6 W g (.int .i64 a0) (.bool a1) (.int .u64 a2) (.int .u64 a3) (.string a4) (.string a5)) := by
  have c0 : W.cell? ⟨g, 0, none⟩ = some (.int .i64 b0) := h.cell 0
  have c1 : W.cell? ⟨g, 1, none⟩ = some (.bool b1) := h.cell 1
  have c2 : W.cell? ⟨g, 2, none⟩ = some (.int .u64 b2) := h.cell 2
  have c3 : W.cell? ⟨g, 3, none⟩ = some (.int .u64 b3) := h.cell 3
  have c4 : W.cell? ⟨g, 4, none⟩ = some (.string b4) := h.cell 4
  have c5 : W.cell? ⟨g, 5, none⟩ = some (.string b5) := h.cell 5
  have f0 := h.frozen 0
  have f1 := h.frozen 1
  have f2 := h.frozen 2
  have f3 := h.frozen 3
  have f4 := h.frozen 4
  have f5 := h.frozen 5
  go_simp
theorem ch3_new (w : World) (c : Array Value) : Ch3 w w.heap.size (w.heap.size + 1) (w.heap.size + 1 + 1) c #[.int .i64 0, .bool false, .int .u64 0, .int .u64 0, .string ⟨#[]⟩, .string ⟨#[]⟩] #[.int .i64 0, .bool false, .int .u64 0, .int .u64 0, .string ⟨#[]⟩, .string ⟨#[]⟩] (((w.alloc (.cells c 57)).alloc (.cells #[.int .i64 0, .bool false, .int .u64 0, .int .u64 0, .string ⟨#[]⟩, .string ⟨#[]⟩] 57)).alloc (.cells #[.int .i64 0, .bool false, .int .u64 0, .int .u64 0, .string ⟨#[]⟩, .string ⟨#[]⟩] 57)) := by
  have h1 := (Blk.new (w.alloc (.cells c 57)) 57 #[.int .i64 0, .bool false, .int .u64 0, .int .u64 0, .string ⟨#[]⟩, .string ⟨#[]⟩]).alloc (.cells #[.int .i64 0, .bool false, .int .u64 0, .int .u64 0, .string ⟨#[]⟩, .string ⟨#[]⟩] 57)
  have h2 := Blk.new ((w.alloc (.cells c 57)).alloc (.cells #[.int .i64 0, .bool false, .int .u64 0, .int .u64 0, .string ⟨#[]⟩, .string ⟨#[]⟩] 57)) 57 #[.int .i64 0, .bool false, .int .u64 0, .int .u64 0, .string ⟨#[]⟩, .string ⟨#[]⟩]
  rw [show (w.alloc (.cells c 57)).heap.size = w.heap.size + 1 by simp] at h1
  rw [show ((w.alloc (.cells c 57)).alloc (.cells #[.int .i64 0, .bool false, .int .u64 0, .int .u64 0, .string ⟨#[]⟩, .string ⟨#[]⟩] 57)).heap.size = w.heap.size + 1 + 1 by simp] at h2
  exact ⟨balloc (balloc (balloc (Below.refl _ w) _) _) _, ((Blk.new w 57 c).alloc _).alloc _, h1, h2, by omega, by omega⟩
theorem ch3_try (w : World) (c : Array Value) : Ch3 w (w.heap.size + 1 + 1) w.heap.size (w.heap.size + 1) c #[.int .i64 0, .bool false, .int .u64 0, .int .u64 0, .string ⟨#[]⟩, .string ⟨#[]⟩] #[.int .i64 0, .bool false, .int .u64 0, .int .u64 0, .string ⟨#[]⟩, .string ⟨#[]⟩] (((w.alloc (.cells #[.int .i64 0, .bool false, .int .u64 0, .int .u64 0, .string ⟨#[]⟩, .string ⟨#[]⟩] 57)).alloc (.cells #[.int .i64 0, .bool false, .int .u64 0, .int .u64 0, .string ⟨#[]⟩, .string ⟨#[]⟩] 57)).alloc (.cells c 57)) := by
  have h1 := (Blk.new (w.alloc (.cells #[.int .i64 0, .bool false, .int .u64 0, .int .u64 0, .string ⟨#[]⟩, .string ⟨#[]⟩] 57)) 57 #[.int .i64 0, .bool false, .int .u64 0, .int .u64 0, .string ⟨#[]⟩, .string ⟨#[]⟩]).alloc (.cells c 57)
  have h2 := Blk.new ((w.alloc (.cells #[.int .i64 0, .bool false, .int .u64 0, .int .u64 0, .string ⟨#[]⟩, .string ⟨#[]⟩] 57)).alloc (.cells #[.int .i64 0, .bool false, .int .u64 0, .int .u64 0, .string ⟨#[]⟩, .string ⟨#[]⟩] 57)) 57 c
  rw [show (w.alloc (.cells #[.int .i64 0, .bool false, .int .u64 0, .int .u64 0, .string ⟨#[]⟩, .string ⟨#[]⟩] 57)).heap.size = w.heap.size + 1 by simp] at h1
  rw [show ((w.alloc (.cells #[.int .i64 0, .bool false, .int .u64 0, .int .u64 0, .string ⟨#[]⟩, .string ⟨#[]⟩] 57)).alloc (.cells #[.int .i64 0, .bool false, .int .u64 0, .int .u64 0, .string ⟨#[]⟩, .string ⟨#[]⟩] 57)).heap.size = w.heap.size + 1 + 1 by simp] at h2
  exact ⟨balloc (balloc (balloc (Below.refl _ w) _) _) _, h2, ((Blk.new w 57 #[.int .i64 0, .bool false, .int .u64 0, .int .u64 0, .string ⟨#[]⟩, .string ⟨#[]⟩]).alloc _).alloc _, h1, by omega, by omega⟩
theorem map4 {f : Operand → Value} {x y z u : Operand} {x1 x2 x3 x4 : Value} (h : f x = x1) (h2 : f y = x2) (h3 : f z = x3) (h4 : f u = x4) : #[x, y, z, u].map f = #[x1, x2, x3, x4] := by simp [h, h2, h3, h4]
set_option maxHeartbeats 1000000 in
theorem rinit_is (o : Bool) (lk : Int) (p q : ByteArray) (w : World) :
    Calls Tryd.prog 52 #[.bool o, .int .u64 lk, .string p, .string q] w fun e w' => e = .returned (chV 1 o lk 0 p q) ∧ Below w.heap.size w w' := by
  go_enter Tryd.func52, Tryd.ntmps52
  go_wp2_with fail
  refine bodyPost_ret (v := chV 1 o lk 0 p q) (by simp [results, Tryd.results52, go_sem]) rfl ⟨rfl, ?_⟩
  exact balloc (Below.refl _ w) _
set_option maxHeartbeats 1000000 in
theorem rmirror_is (st0 : Int) (o : Bool) (lk pr : Int) (p q : ByteArray) (st pl own : Int) (w : World) :
    Calls Tryd.prog 91 #[chV st0 o lk pr p q, .int .i64 st, .int .u64 pl, .int .u64 own] w fun e w' => e = .returned (chV st o pl own q p) ∧ Below w.heap.size w w' := by
  go_enter Tryd.func91, Tryd.ntmps91
  go_wp2_with fail
  refine bodyPost_ret (v := chV st o pl own q p) (by simp [results, Tryd.results91, go_sem]) rfl ⟨rfl, ?_⟩
  exact balloc (balloc (Below.refl _ w) _) _
def rchAckV (N : Nat) (o : Bool) (lk pr pl own peer : Int) (p q : ByteArray) (i : Nat) (v : Value) : Prop := match i with
  | 0 => v = .agg #[.int .i64 3, .bool o, .int .u64 lk, .int .u64 peer, .string p, .string q]
  | 1 => v = .agg #[.int .i64 3, .bool o, .int .u64 lk, .int .u64 peer, .string p, .string q]
  | 2 => v = .int .u64 pl
  | 3 => v = .int .u64 own
  | 4 => v = .agg #[.int .i64 2, .bool o, .int .u64 pl, .int .u64 own, .string q, .string p]
  | 7 => v = .int .i64 0
  | _ => True
def rchAckO (N : Nat) (o : Bool) (lk pr pl own peer : Int) (p q : ByteArray) (i : Nat) (v : Value) : Prop := match i with
  | _ => True
set_option maxRecDepth 100000 in
set_option maxHeartbeats 1000000 in
theorem rack_yes (own : Int) (st0 : Int) (o : Bool) (lk pr : Int) (p q : ByteArray) (pl : Int) (peer : Int) (w : World) (h : st0 = 1) :
    Calls Tryd.prog 56 #[.int .u64 own, .agg #[.int .i64 st0, .bool o, .int .u64 lk, .int .u64 pr, .string p, .string q], .int .u64 pl, .int .u64 peer] w fun e w' => e = .returned (.tuple #[.agg #[.int .i64 3, .bool o, .int .u64 lk, .int .u64 peer, .string p, .string q], .agg #[.int .i64 2, .bool o, .int .u64 pl, .int .u64 own, .string q, .string p], .int .i64 0]) ∧ Below w.heap.size w w' := by
  have t0 : (st0 != 1) = false := by simp [h]
  clear h
  go_enter Tryd.func56, Tryd.ntmps56
  go_upto_region 5 with fail
  have HC3 := Lib.hid (ch3_new w #[.int .i64 3, .bool o, .int .u64 lk, .int .u64 peer, .string p, .string q])
  change Code.wp _ _ _ _ (((w.alloc (.cells #[.int .i64 3, .bool o, .int .u64 lk, .int .u64 peer, .string p, .string q] 57)).alloc (.cells #[.int .i64 0, .bool false, .int .u64 0, .int .u64 0, .string ⟨#[]⟩, .string ⟨#[]⟩] 57)).alloc (.cells #[.int .i64 0, .bool false, .int .u64 0, .int .u64 0, .string ⟨#[]⟩, .string ⟨#[]⟩] 57))
  generalize (((w.alloc (.cells #[.int .i64 3, .bool o, .int .u64 lk, .int .u64 peer, .string p, .string q] 57)).alloc (.cells #[.int .i64 0, .bool false, .int .u64 0, .int .u64 0, .string ⟨#[]⟩, .string ⟨#[]⟩] 57)).alloc (.cells #[.int .i64 0, .bool false, .int .u64 0, .int .u64 0, .string ⟨#[]⟩, .string ⟨#[]⟩] 57)) = W0 at HC3 ⊢
  obtain ⟨N, hN⟩ : ∃ N, w.heap.size = N := ⟨_, rfl⟩
  rw [hN] at HC3 ⊢
  clear hN
  refine wp_abs fun a0 hA => ?_
  have h0 : a0.eval (.tmp 0) = .int .u64 own := by rw [hA]; rfl
  have h2 : a0.eval (.tmp 2) = .int .u64 pl := by rw [hA]; rfl
  have h5 : a0.eval (.tmp 5) = .pointer (some ⟨N, 0, none⟩) := by rw [hA]; rfl
  have h8 : a0.eval (.tmp 8) = .pointer (some ⟨(N + 1), 0, none⟩) := by rw [hA]; rfl
  have h9 : a0.eval (.tmp 9) = .pointer (some ⟨(N + 1 + 1), 0, none⟩) := by rw [hA]; rfl
  have hz : a0.tmps.size = 24 := by rw [hA]; rfl
  refine wp_region_K [some 19, some 20, some 21, some 22, some 23, none, none, some 10] 24 (CJ (rchAckV N o lk pr pl own peer p q) (rchAckO N o lk pr pl own peer p q) [4, 5, 6] (ChS w N (N + 1) (N + 1 + 1) #[.int .i64 3, .bool o, .int .u64 lk, .int .u64 peer, .string p, .string q] #[.int .i64 3, .bool o, .int .u64 lk, .int .u64 peer, .string p, .string q] #[.int .i64 2, .bool o, .int .u64 pl, .int .u64 own, .string q, .string p] #[.int .i64 0, .bool false, .int .u64 0, .int .u64 0, .string ⟨#[]⟩, .string ⟨#[]⟩])) (by kernel_rfl) (by kernel_rfl) (by kernel_rfl) rfl (by kernel_rfl) hz (CJ.start (fun i => trivial) (HC3.out.next (Below.refl _ _).drew)) ?_ ⟨?_, ?_, ?_, ?_, ?_, ?_, ?_, ?_, trivial⟩
  · intro d u W hd hJ
    have HS : Hid (Ch3 w N (N + 1) (N + 1 + 1) _ _ _ W) := Lib.hid (hJ.fin 3 rfl (fun k hk => by simp at hk; rcases hk with rfl | rfl | rfl <;> exact hd _ (by decide)) ChS_le)
    have he := hJ.vals 7 (hd 7 (by decide))
    change u 7 = .int .i64 0 at he
    rw [hA]
    simp only [putAll, Act.put, List.setIfInBounds_toArray, List.set_cons_zero, List.set_cons_succ]
    clear hJ hd h0 h2 h5 h8 h9 hz hA
    clear a0
    rw [he]
    clear he
    go_wp2_with fail
    have d0 : W.cell? ⟨N + 1, 0, none⟩ = some (.int .i64 3) := HS.out.e.cell 0
    have d1 : W.cell? ⟨N + 1, 1, none⟩ = some (.bool o) := HS.out.e.cell 1
    have d2 : W.cell? ⟨N + 1, 2, none⟩ = some (.int .u64 lk) := HS.out.e.cell 2
    have d3 : W.cell? ⟨N + 1, 3, none⟩ = some (.int .u64 peer) := HS.out.e.cell 3
    have d4 : W.cell? ⟨N + 1, 4, none⟩ = some (.string p) := HS.out.e.cell 4
    have d5 : W.cell? ⟨N + 1, 5, none⟩ = some (.string q) := HS.out.e.cell 5
    have e0 : W.cell? ⟨N + 1 + 1, 0, none⟩ = some (.int .i64 2) := HS.out.m.cell 0
    have e1 : W.cell? ⟨N + 1 + 1, 1, none⟩ = some (.bool o) := HS.out.m.cell 1
    have e2 : W.cell? ⟨N + 1 + 1, 2, none⟩ = some (.int .u64 pl) := HS.out.m.cell 2
    have e3 : W.cell? ⟨N + 1 + 1, 3, none⟩ = some (.int .u64 own) := HS.out.m.cell 3
    have e4 : W.cell? ⟨N + 1 + 1, 4, none⟩ = some (.string q) := HS.out.m.cell 4
    have e5 : W.cell? ⟨N + 1 + 1, 5, none⟩ = some (.string p) := HS.out.m.cell 5
    exact bodyPost_ret (v := .tuple #[.agg #[.int .i64 3, .bool o, .int .u64 lk, .int .u64 peer, .string p, .string q], .agg #[.int .i64 2, .bool o, .int .u64 pl, .int .u64 own, .string q, .string p], .int .i64 0]) (by simp [results, Tryd.results56, go_sem, d0, d1, d2, d3, d4, d5, e0, e1, e2, e3, e4, e5]) rfl ⟨rfl, HS.out.bel⟩
  · exact KStep.plain rfl fun ρ d u W he hc hdi hd hJ => swp_val (run_load (he.o h5 rfl) (load_ch (hJ.inv ChS_c))) (hJ.pure 0 rfl rfl)
  · exact KStep.plain rfl fun ρ d u W he hc hdi hd hJ => swp_val (run_load (he.o h5 rfl) (load_ch (hJ.inv ChS_c))) (hJ.pure 1 rfl rfl)
  · exact KStep.plain rfl fun ρ d u W he hc hdi hd hJ => swp_val (run_move (he.o h2 rfl)) (hJ.pure 2 rfl rfl)
  · exact KStep.plain rfl fun ρ d u W he hc hdi hd hJ => swp_val (run_move (he.o h0 rfl)) (hJ.pure 3 rfl rfl)
  · refine KStep.plain rfl fun ρ d u W he hc hdi hd hJ => ?_
    have hS : Ch3 _ _ _ _ _ _ _ W := hJ.at_ 0 rfl hdi (fun j h => by omega)
    exact swp_call (run_call #[.agg #[.int .i64 3, .bool o, .int .u64 lk, .int .u64 peer, .string p, .string q], .int .i64 2, .int .u64 pl, .int .u64 own] (he.func _) (by kernel_rfl) (map4 (he.i hz (hJ.vals 1 (hd 1 (by kernel_rfl))) (j := 1) (d := 20) rfl (by decide)) (he.const _) (he.i hz (hJ.vals 2 (hd 2 (by kernel_rfl))) (j := 2) (d := 21) rfl (by decide)) (he.i hz (hJ.vals 3 (hd 3 (by kernel_rfl))) (j := 3) (d := 22) rfl (by decide)))) (rmirror_is _ _ _ _ _ _ _ _ _ W) (fun e W' h => ⟨_, h.1, hJ.go 0 rfl hdi (by decide) (fun j h => by omega) rfl (hS.next h.2)⟩)
  · refine KStep.plain rfl fun ρ d u W he hc hdi hd hJ => ?_
    have hS : Ch3 _ _ _ _ _ _ _ W := hJ.at_ 1 rfl hdi (fun j h => by cases h; exact ⟨4, rfl, hd 4 (by kernel_rfl)⟩)
    exact swp_skip (run_store (he.o h8 rfl) (he.i hz (hJ.vals 0 (hd 0 (by kernel_rfl))) (j := 0) (d := 19) rfl (by decide)) (store_ch hS.e)) (hJ.go 1 rfl hdi (by decide) (fun j h => by cases h; exact ⟨4, rfl, hd 4 (by kernel_rfl)⟩) trivial (hS.setE _ _ _ _ _ _))
  · refine KStep.plain rfl fun ρ d u W he hc hdi hd hJ => ?_
    have hS : Ch3 _ _ _ _ _ _ _ W := hJ.at_ 2 rfl hdi (fun j h => by cases h; exact ⟨5, rfl, hd 5 (by kernel_rfl)⟩)
    exact swp_skip (run_store (he.o h9 rfl) (he.i hz (hJ.vals 4 (hd 4 (by kernel_rfl))) (j := 4) (d := 23) rfl (by decide)) (store_ch hS.m)) (hJ.go 2 rfl hdi (by decide) (fun j h => by cases h; exact ⟨5, rfl, hd 5 (by kernel_rfl)⟩) trivial (hS.setM _ _ _ _ _ _))
  · exact KStep.plain rfl fun ρ d u W he hc hdi hd hJ => swp_val (run_assign (he.const _)) (hJ.pure 7 rfl rfl)
set_option maxHeartbeats 1000000 in
theorem rack_no (own : Int) (st0 : Int) (o : Bool) (lk pr : Int) (p q : ByteArray) (pl : Int) (peer : Int) (w : World) (h : st0 ≠ 1) :
    Calls Tryd.prog 56 #[.int .u64 own, .agg #[.int .i64 st0, .bool o, .int .u64 lk, .int .u64 pr, .string p, .string q], .int .u64 pl, .int .u64 peer] w fun e w' => e = .returned (.tuple #[.agg #[.int .i64 0, .bool false, .int .u64 0, .int .u64 0, .string ⟨#[]⟩, .string ⟨#[]⟩], .agg #[.int .i64 0, .bool false, .int .u64 0, .int .u64 0, .string ⟨#[]⟩, .string ⟨#[]⟩], .int .i64 180]) ∧ Below w.heap.size w w' := by
  have t0 : (st0 != 1) = true := by simp [h]
  clear h
  go_enter Tryd.func56, Tryd.ntmps56
  go_wp2_with fail
  refine bodyPost_ret (v := .tuple #[.agg #[.int .i64 0, .bool false, .int .u64 0, .int .u64 0, .string ⟨#[]⟩, .string ⟨#[]⟩], .agg #[.int .i64 0, .bool false, .int .u64 0, .int .u64 0, .string ⟨#[]⟩, .string ⟨#[]⟩], .int .i64 180]) (by simp [results, Tryd.results56, go_sem]) rfl ⟨rfl, ?_⟩
  exact balloc (balloc (balloc (Below.refl _ w) _) _) _
def rchConfirmV (N : Nat) (o : Bool) (lk pr pl own peer : Int) (p q : ByteArray) (i : Nat) (v : Value) : Prop := match i with
  | 0 => v = .agg #[.int .i64 3, .bool o, .int .u64 lk, .int .u64 pr, .string p, .string q]
  | 1 => v = .agg #[.int .i64 3, .bool o, .int .u64 lk, .int .u64 pr, .string p, .string q]
  | 2 => v = .int .u64 pl
  | 3 => v = .int .u64 own
  | 4 => v = .agg #[.int .i64 3, .bool o, .int .u64 pl, .int .u64 own, .string q, .string p]
  | 7 => v = .int .i64 0
  | _ => True
def rchConfirmO (N : Nat) (o : Bool) (lk pr pl own peer : Int) (p q : ByteArray) (i : Nat) (v : Value) : Prop := match i with
  | _ => True
set_option maxRecDepth 100000 in
set_option maxHeartbeats 1000000 in
theorem rconfirm_yes (own : Int) (st0 : Int) (o : Bool) (lk pr : Int) (p q : ByteArray) (pl : Int) (w : World) (h : st0 = 2) :
    Calls Tryd.prog 57 #[.int .u64 own, .agg #[.int .i64 st0, .bool o, .int .u64 lk, .int .u64 pr, .string p, .string q], .int .u64 pl] w fun e w' => e = .returned (.tuple #[.agg #[.int .i64 3, .bool o, .int .u64 lk, .int .u64 pr, .string p, .string q], .agg #[.int .i64 3, .bool o, .int .u64 pl, .int .u64 own, .string q, .string p], .int .i64 0]) ∧ Below w.heap.size w w' := by
  have t0 : (st0 != 2) = false := by simp [h]
  clear h
  go_enter Tryd.func57, Tryd.ntmps57
  go_upto_region 4 with fail
  have HC3 := Lib.hid (ch3_new w #[.int .i64 3, .bool o, .int .u64 lk, .int .u64 pr, .string p, .string q])
  change Code.wp _ _ _ _ (((w.alloc (.cells #[.int .i64 3, .bool o, .int .u64 lk, .int .u64 pr, .string p, .string q] 57)).alloc (.cells #[.int .i64 0, .bool false, .int .u64 0, .int .u64 0, .string ⟨#[]⟩, .string ⟨#[]⟩] 57)).alloc (.cells #[.int .i64 0, .bool false, .int .u64 0, .int .u64 0, .string ⟨#[]⟩, .string ⟨#[]⟩] 57))
  generalize (((w.alloc (.cells #[.int .i64 3, .bool o, .int .u64 lk, .int .u64 pr, .string p, .string q] 57)).alloc (.cells #[.int .i64 0, .bool false, .int .u64 0, .int .u64 0, .string ⟨#[]⟩, .string ⟨#[]⟩] 57)).alloc (.cells #[.int .i64 0, .bool false, .int .u64 0, .int .u64 0, .string ⟨#[]⟩, .string ⟨#[]⟩] 57)) = W0 at HC3 ⊢
  obtain ⟨N, hN⟩ : ∃ N, w.heap.size = N := ⟨_, rfl⟩
  rw [hN] at HC3 ⊢
  clear hN
  refine wp_abs fun a0 hA => ?_
  have h0 : a0.eval (.tmp 0) = .int .u64 own := by rw [hA]; rfl
  have h2 : a0.eval (.tmp 2) = .int .u64 pl := by rw [hA]; rfl
  have h4 : a0.eval (.tmp 4) = .pointer (some ⟨N, 0, none⟩) := by rw [hA]; rfl
  have h6 : a0.eval (.tmp 6) = .pointer (some ⟨(N + 1), 0, none⟩) := by rw [hA]; rfl
  have h7 : a0.eval (.tmp 7) = .pointer (some ⟨(N + 1 + 1), 0, none⟩) := by rw [hA]; rfl
  have hz : a0.tmps.size = 20 := by rw [hA]; rfl
  refine wp_region_K [some 15, some 16, some 17, some 18, some 19, none, none, some 8] 20 (CJ (rchConfirmV N o lk pr pl own 0 p q) (rchConfirmO N o lk pr pl own 0 p q) [4, 5, 6] (ChS w N (N + 1) (N + 1 + 1) #[.int .i64 3, .bool o, .int .u64 lk, .int .u64 pr, .string p, .string q] #[.int .i64 3, .bool o, .int .u64 lk, .int .u64 pr, .string p, .string q] #[.int .i64 3, .bool o, .int .u64 pl, .int .u64 own, .string q, .string p] #[.int .i64 0, .bool false, .int .u64 0, .int .u64 0, .string ⟨#[]⟩, .string ⟨#[]⟩])) (by kernel_rfl) (by kernel_rfl) (by kernel_rfl) rfl (by kernel_rfl) hz (CJ.start (fun i => trivial) (HC3.out.next (Below.refl _ _).drew)) ?_ ⟨?_, ?_, ?_, ?_, ?_, ?_, ?_, ?_, trivial⟩
  · intro d u W hd hJ
    have HS : Hid (Ch3 w N (N + 1) (N + 1 + 1) _ _ _ W) := Lib.hid (hJ.fin 3 rfl (fun k hk => by simp at hk; rcases hk with rfl | rfl | rfl <;> exact hd _ (by decide)) ChS_le)
    have he := hJ.vals 7 (hd 7 (by decide))
    change u 7 = .int .i64 0 at he
    rw [hA]
    simp only [putAll, Act.put, List.setIfInBounds_toArray, List.set_cons_zero, List.set_cons_succ]
    clear hJ hd h0 h2 h4 h6 h7 hz hA
    clear a0
    rw [he]
    clear he
    go_wp2_with fail
    have d0 : W.cell? ⟨N + 1, 0, none⟩ = some (.int .i64 3) := HS.out.e.cell 0
    have d1 : W.cell? ⟨N + 1, 1, none⟩ = some (.bool o) := HS.out.e.cell 1
    have d2 : W.cell? ⟨N + 1, 2, none⟩ = some (.int .u64 lk) := HS.out.e.cell 2
    have d3 : W.cell? ⟨N + 1, 3, none⟩ = some (.int .u64 pr) := HS.out.e.cell 3
    have d4 : W.cell? ⟨N + 1, 4, none⟩ = some (.string p) := HS.out.e.cell 4
    have d5 : W.cell? ⟨N + 1, 5, none⟩ = some (.string q) := HS.out.e.cell 5
    have e0 : W.cell? ⟨N + 1 + 1, 0, none⟩ = some (.int .i64 3) := HS.out.m.cell 0
    have e1 : W.cell? ⟨N + 1 + 1, 1, none⟩ = some (.bool o) := HS.out.m.cell 1
    have e2 : W.cell? ⟨N + 1 + 1, 2, none⟩ = some (.int .u64 pl) := HS.out.m.cell 2
    have e3 : W.cell? ⟨N + 1 + 1, 3, none⟩ = some (.int .u64 own) := HS.out.m.cell 3
    have e4 : W.cell? ⟨N + 1 + 1, 4, none⟩ = some (.string q) := HS.out.m.cell 4
    have e5 : W.cell? ⟨N + 1 + 1, 5, none⟩ = some (.string p) := HS.out.m.cell 5
    exact bodyPost_ret (v := .tuple #[.agg #[.int .i64 3, .bool o, .int .u64 lk, .int .u64 pr, .string p, .string q], .agg #[.int .i64 3, .bool o, .int .u64 pl, .int .u64 own, .string q, .string p], .int .i64 0]) (by simp [results, Tryd.results57, go_sem, d0, d1, d2, d3, d4, d5, e0, e1, e2, e3, e4, e5]) rfl ⟨rfl, HS.out.bel⟩
  · exact KStep.plain rfl fun ρ d u W he hc hdi hd hJ => swp_val (run_load (he.o h4 rfl) (load_ch (hJ.inv ChS_c))) (hJ.pure 0 rfl rfl)
  · exact KStep.plain rfl fun ρ d u W he hc hdi hd hJ => swp_val (run_load (he.o h4 rfl) (load_ch (hJ.inv ChS_c))) (hJ.pure 1 rfl rfl)
  · exact KStep.plain rfl fun ρ d u W he hc hdi hd hJ => swp_val (run_move (he.o h2 rfl)) (hJ.pure 2 rfl rfl)
  · exact KStep.plain rfl fun ρ d u W he hc hdi hd hJ => swp_val (run_move (he.o h0 rfl)) (hJ.pure 3 rfl rfl)
  · refine KStep.plain rfl fun ρ d u W he hc hdi hd hJ => ?_
    have hS : Ch3 _ _ _ _ _ _ _ W := hJ.at_ 0 rfl hdi (fun j h => by omega)
    exact swp_call (run_call #[.agg #[.int .i64 3, .bool o, .int .u64 lk, .int .u64 pr, .string p, .string q], .int .i64 3, .int .u64 pl, .int .u64 own] (he.func _) (by kernel_rfl) (map4 (he.i hz (hJ.vals 1 (hd 1 (by kernel_rfl))) (j := 1) (d := 16) rfl (by decide)) (he.const _) (he.i hz (hJ.vals 2 (hd 2 (by kernel_rfl))) (j := 2) (d := 17) rfl (by decide)) (he.i hz (hJ.vals 3 (hd 3 (by kernel_rfl))) (j := 3) (d := 18) rfl (by decide)))) (rmirror_is _ _ _ _ _ _ _ _ _ W) (fun e W' h => ⟨_, h.1, hJ.go 0 rfl hdi (by decide) (fun j h => by omega) rfl (hS.next h.2)⟩)
  · refine KStep.plain rfl fun ρ d u W he hc hdi hd hJ => ?_
    have hS : Ch3 _ _ _ _ _ _ _ W := hJ.at_ 1 rfl hdi (fun j h => by cases h; exact ⟨4, rfl, hd 4 (by kernel_rfl)⟩)
    exact swp_skip (run_store (he.o h6 rfl) (he.i hz (hJ.vals 0 (hd 0 (by kernel_rfl))) (j := 0) (d := 15) rfl (by decide)) (store_ch hS.e)) (hJ.go 1 rfl hdi (by decide) (fun j h => by cases h; exact ⟨4, rfl, hd 4 (by kernel_rfl)⟩) trivial (hS.setE _ _ _ _ _ _))
  · refine KStep.plain rfl fun ρ d u W he hc hdi hd hJ => ?_
    have hS : Ch3 _ _ _ _ _ _ _ W := hJ.at_ 2 rfl hdi (fun j h => by cases h; exact ⟨5, rfl, hd 5 (by kernel_rfl)⟩)
    exact swp_skip (run_store (he.o h7 rfl) (he.i hz (hJ.vals 4 (hd 4 (by kernel_rfl))) (j := 4) (d := 19) rfl (by decide)) (store_ch hS.m)) (hJ.go 2 rfl hdi (by decide) (fun j h => by cases h; exact ⟨5, rfl, hd 5 (by kernel_rfl)⟩) trivial (hS.setM _ _ _ _ _ _))
  · exact KStep.plain rfl fun ρ d u W he hc hdi hd hJ => swp_val (run_assign (he.const _)) (hJ.pure 7 rfl rfl)
set_option maxHeartbeats 1000000 in
theorem rconfirm_no (own : Int) (st0 : Int) (o : Bool) (lk pr : Int) (p q : ByteArray) (pl : Int) (w : World) (h : st0 ≠ 2) :
    Calls Tryd.prog 57 #[.int .u64 own, .agg #[.int .i64 st0, .bool o, .int .u64 lk, .int .u64 pr, .string p, .string q], .int .u64 pl] w fun e w' => e = .returned (.tuple #[.agg #[.int .i64 0, .bool false, .int .u64 0, .int .u64 0, .string ⟨#[]⟩, .string ⟨#[]⟩], .agg #[.int .i64 0, .bool false, .int .u64 0, .int .u64 0, .string ⟨#[]⟩, .string ⟨#[]⟩], .int .i64 180]) ∧ Below w.heap.size w w' := by
  have t0 : (st0 != 2) = true := by simp [h]
  clear h
  go_enter Tryd.func57, Tryd.ntmps57
  go_wp2_with fail
  refine bodyPost_ret (v := .tuple #[.agg #[.int .i64 0, .bool false, .int .u64 0, .int .u64 0, .string ⟨#[]⟩, .string ⟨#[]⟩], .agg #[.int .i64 0, .bool false, .int .u64 0, .int .u64 0, .string ⟨#[]⟩, .string ⟨#[]⟩], .int .i64 180]) (by simp [results, Tryd.results57, go_sem]) rfl ⟨rfl, ?_⟩
  exact balloc (balloc (balloc (Below.refl _ w) _) _) _
def rchClosedV (N : Nat) (o : Bool) (lk pr pl own peer : Int) (p q : ByteArray) (i : Nat) (v : Value) : Prop := match i with
  | 0 => v = .agg #[.int .i64 4, .bool o, .int .u64 lk, .int .u64 pr, .string p, .string q]
  | 1 => v = .agg #[.int .i64 4, .bool o, .int .u64 lk, .int .u64 pr, .string p, .string q]
  | 2 => v = .int .u64 pl
  | 3 => v = .int .u64 own
  | 4 => v = .agg #[.int .i64 4, .bool o, .int .u64 pl, .int .u64 own, .string q, .string p]
  | 7 => v = .int .i64 0
  | _ => True
def rchClosedO (N : Nat) (o : Bool) (lk pr pl own peer : Int) (p q : ByteArray) (i : Nat) (v : Value) : Prop := match i with
  | _ => True
set_option maxRecDepth 100000 in
set_option maxHeartbeats 1000000 in
theorem rclosed_yes (own : Int) (st0 : Int) (o : Bool) (lk pr : Int) (p q : ByteArray) (pl : Int) (w : World) (h : st0 = 3) :
    Calls Tryd.prog 59 #[.int .u64 own, .agg #[.int .i64 st0, .bool o, .int .u64 lk, .int .u64 pr, .string p, .string q], .int .u64 pl] w fun e w' => e = .returned (.tuple #[.agg #[.int .i64 4, .bool o, .int .u64 lk, .int .u64 pr, .string p, .string q], .agg #[.int .i64 4, .bool o, .int .u64 pl, .int .u64 own, .string q, .string p], .int .i64 0]) ∧ Below w.heap.size w w' := by
  have t0 : (st0 != 3) = false := by simp [h]
  clear h
  go_enter Tryd.func59, Tryd.ntmps59
  go_upto_region 4 with fail
  have HC3 := Lib.hid (ch3_new w #[.int .i64 4, .bool o, .int .u64 lk, .int .u64 pr, .string p, .string q])
  change Code.wp _ _ _ _ (((w.alloc (.cells #[.int .i64 4, .bool o, .int .u64 lk, .int .u64 pr, .string p, .string q] 57)).alloc (.cells #[.int .i64 0, .bool false, .int .u64 0, .int .u64 0, .string ⟨#[]⟩, .string ⟨#[]⟩] 57)).alloc (.cells #[.int .i64 0, .bool false, .int .u64 0, .int .u64 0, .string ⟨#[]⟩, .string ⟨#[]⟩] 57))
  generalize (((w.alloc (.cells #[.int .i64 4, .bool o, .int .u64 lk, .int .u64 pr, .string p, .string q] 57)).alloc (.cells #[.int .i64 0, .bool false, .int .u64 0, .int .u64 0, .string ⟨#[]⟩, .string ⟨#[]⟩] 57)).alloc (.cells #[.int .i64 0, .bool false, .int .u64 0, .int .u64 0, .string ⟨#[]⟩, .string ⟨#[]⟩] 57)) = W0 at HC3 ⊢
  obtain ⟨N, hN⟩ : ∃ N, w.heap.size = N := ⟨_, rfl⟩
  rw [hN] at HC3 ⊢
  clear hN
  refine wp_abs fun a0 hA => ?_
  have h0 : a0.eval (.tmp 0) = .int .u64 own := by rw [hA]; rfl
  have h2 : a0.eval (.tmp 2) = .int .u64 pl := by rw [hA]; rfl
  have h4 : a0.eval (.tmp 4) = .pointer (some ⟨N, 0, none⟩) := by rw [hA]; rfl
  have h6 : a0.eval (.tmp 6) = .pointer (some ⟨(N + 1), 0, none⟩) := by rw [hA]; rfl
  have h7 : a0.eval (.tmp 7) = .pointer (some ⟨(N + 1 + 1), 0, none⟩) := by rw [hA]; rfl
  have hz : a0.tmps.size = 20 := by rw [hA]; rfl
  refine wp_region_K [some 15, some 16, some 17, some 18, some 19, none, none, some 8] 20 (CJ (rchClosedV N o lk pr pl own 0 p q) (rchClosedO N o lk pr pl own 0 p q) [4, 5, 6] (ChS w N (N + 1) (N + 1 + 1) #[.int .i64 4, .bool o, .int .u64 lk, .int .u64 pr, .string p, .string q] #[.int .i64 4, .bool o, .int .u64 lk, .int .u64 pr, .string p, .string q] #[.int .i64 4, .bool o, .int .u64 pl, .int .u64 own, .string q, .string p] #[.int .i64 0, .bool false, .int .u64 0, .int .u64 0, .string ⟨#[]⟩, .string ⟨#[]⟩])) (by kernel_rfl) (by kernel_rfl) (by kernel_rfl) rfl (by kernel_rfl) hz (CJ.start (fun i => trivial) (HC3.out.next (Below.refl _ _).drew)) ?_ ⟨?_, ?_, ?_, ?_, ?_, ?_, ?_, ?_, trivial⟩
  · intro d u W hd hJ
    have HS : Hid (Ch3 w N (N + 1) (N + 1 + 1) _ _ _ W) := Lib.hid (hJ.fin 3 rfl (fun k hk => by simp at hk; rcases hk with rfl | rfl | rfl <;> exact hd _ (by decide)) ChS_le)
    have he := hJ.vals 7 (hd 7 (by decide))
    change u 7 = .int .i64 0 at he
    rw [hA]
    simp only [putAll, Act.put, List.setIfInBounds_toArray, List.set_cons_zero, List.set_cons_succ]
    clear hJ hd h0 h2 h4 h6 h7 hz hA
    clear a0
    rw [he]
    clear he
    go_wp2_with fail
    have d0 : W.cell? ⟨N + 1, 0, none⟩ = some (.int .i64 4) := HS.out.e.cell 0
    have d1 : W.cell? ⟨N + 1, 1, none⟩ = some (.bool o) := HS.out.e.cell 1
    have d2 : W.cell? ⟨N + 1, 2, none⟩ = some (.int .u64 lk) := HS.out.e.cell 2
    have d3 : W.cell? ⟨N + 1, 3, none⟩ = some (.int .u64 pr) := HS.out.e.cell 3
    have d4 : W.cell? ⟨N + 1, 4, none⟩ = some (.string p) := HS.out.e.cell 4
    have d5 : W.cell? ⟨N + 1, 5, none⟩ = some (.string q) := HS.out.e.cell 5
    have e0 : W.cell? ⟨N + 1 + 1, 0, none⟩ = some (.int .i64 4) := HS.out.m.cell 0
    have e1 : W.cell? ⟨N + 1 + 1, 1, none⟩ = some (.bool o) := HS.out.m.cell 1
    have e2 : W.cell? ⟨N + 1 + 1, 2, none⟩ = some (.int .u64 pl) := HS.out.m.cell 2
    have e3 : W.cell? ⟨N + 1 + 1, 3, none⟩ = some (.int .u64 own) := HS.out.m.cell 3
    have e4 : W.cell? ⟨N + 1 + 1, 4, none⟩ = some (.string q) := HS.out.m.cell 4
    have e5 : W.cell? ⟨N + 1 + 1, 5, none⟩ = some (.string p) := HS.out.m.cell 5
    exact bodyPost_ret (v := .tuple #[.agg #[.int .i64 4, .bool o, .int .u64 lk, .int .u64 pr, .string p, .string q], .agg #[.int .i64 4, .bool o, .int .u64 pl, .int .u64 own, .string q, .string p], .int .i64 0]) (by simp [results, Tryd.results59, go_sem, d0, d1, d2, d3, d4, d5, e0, e1, e2, e3, e4, e5]) rfl ⟨rfl, HS.out.bel⟩
  · exact KStep.plain rfl fun ρ d u W he hc hdi hd hJ => swp_val (run_load (he.o h4 rfl) (load_ch (hJ.inv ChS_c))) (hJ.pure 0 rfl rfl)
  · exact KStep.plain rfl fun ρ d u W he hc hdi hd hJ => swp_val (run_load (he.o h4 rfl) (load_ch (hJ.inv ChS_c))) (hJ.pure 1 rfl rfl)
  · exact KStep.plain rfl fun ρ d u W he hc hdi hd hJ => swp_val (run_move (he.o h2 rfl)) (hJ.pure 2 rfl rfl)
  · exact KStep.plain rfl fun ρ d u W he hc hdi hd hJ => swp_val (run_move (he.o h0 rfl)) (hJ.pure 3 rfl rfl)
  · refine KStep.plain rfl fun ρ d u W he hc hdi hd hJ => ?_
    have hS : Ch3 _ _ _ _ _ _ _ W := hJ.at_ 0 rfl hdi (fun j h => by omega)
    exact swp_call (run_call #[.agg #[.int .i64 4, .bool o, .int .u64 lk, .int .u64 pr, .string p, .string q], .int .i64 4, .int .u64 pl, .int .u64 own] (he.func _) (by kernel_rfl) (map4 (he.i hz (hJ.vals 1 (hd 1 (by kernel_rfl))) (j := 1) (d := 16) rfl (by decide)) (he.const _) (he.i hz (hJ.vals 2 (hd 2 (by kernel_rfl))) (j := 2) (d := 17) rfl (by decide)) (he.i hz (hJ.vals 3 (hd 3 (by kernel_rfl))) (j := 3) (d := 18) rfl (by decide)))) (rmirror_is _ _ _ _ _ _ _ _ _ W) (fun e W' h => ⟨_, h.1, hJ.go 0 rfl hdi (by decide) (fun j h => by omega) rfl (hS.next h.2)⟩)
  · refine KStep.plain rfl fun ρ d u W he hc hdi hd hJ => ?_
    have hS : Ch3 _ _ _ _ _ _ _ W := hJ.at_ 1 rfl hdi (fun j h => by cases h; exact ⟨4, rfl, hd 4 (by kernel_rfl)⟩)
    exact swp_skip (run_store (he.o h6 rfl) (he.i hz (hJ.vals 0 (hd 0 (by kernel_rfl))) (j := 0) (d := 15) rfl (by decide)) (store_ch hS.e)) (hJ.go 1 rfl hdi (by decide) (fun j h => by cases h; exact ⟨4, rfl, hd 4 (by kernel_rfl)⟩) trivial (hS.setE _ _ _ _ _ _))
  · refine KStep.plain rfl fun ρ d u W he hc hdi hd hJ => ?_
    have hS : Ch3 _ _ _ _ _ _ _ W := hJ.at_ 2 rfl hdi (fun j h => by cases h; exact ⟨5, rfl, hd 5 (by kernel_rfl)⟩)
    exact swp_skip (run_store (he.o h7 rfl) (he.i hz (hJ.vals 4 (hd 4 (by kernel_rfl))) (j := 4) (d := 19) rfl (by decide)) (store_ch hS.m)) (hJ.go 2 rfl hdi (by decide) (fun j h => by cases h; exact ⟨5, rfl, hd 5 (by kernel_rfl)⟩) trivial (hS.setM _ _ _ _ _ _))
  · exact KStep.plain rfl fun ρ d u W he hc hdi hd hJ => swp_val (run_assign (he.const _)) (hJ.pure 7 rfl rfl)
set_option maxHeartbeats 1000000 in
theorem rclosed_no (own : Int) (st0 : Int) (o : Bool) (lk pr : Int) (p q : ByteArray) (pl : Int) (w : World) (h : st0 ≠ 3) :
    Calls Tryd.prog 59 #[.int .u64 own, .agg #[.int .i64 st0, .bool o, .int .u64 lk, .int .u64 pr, .string p, .string q], .int .u64 pl] w fun e w' => e = .returned (.tuple #[.agg #[.int .i64 0, .bool false, .int .u64 0, .int .u64 0, .string ⟨#[]⟩, .string ⟨#[]⟩], .agg #[.int .i64 0, .bool false, .int .u64 0, .int .u64 0, .string ⟨#[]⟩, .string ⟨#[]⟩], .int .i64 180]) ∧ Below w.heap.size w w' := by
  have t0 : (st0 != 3) = true := by simp [h]
  clear h
  go_enter Tryd.func59, Tryd.ntmps59
  go_wp2_with fail
  refine bodyPost_ret (v := .tuple #[.agg #[.int .i64 0, .bool false, .int .u64 0, .int .u64 0, .string ⟨#[]⟩, .string ⟨#[]⟩], .agg #[.int .i64 0, .bool false, .int .u64 0, .int .u64 0, .string ⟨#[]⟩, .string ⟨#[]⟩], .int .i64 180]) (by simp [results, Tryd.results59, go_sem]) rfl ⟨rfl, ?_⟩
  exact balloc (balloc (balloc (Below.refl _ w) _) _) _
set_option maxHeartbeats 1000000 in
theorem rclose_yes (st0 : Int) (o : Bool) (lk pr : Int) (p q : ByteArray) (w : World) (h : st0 = 3) :
    Calls Tryd.prog 58 #[.agg #[.int .i64 st0, .bool o, .int .u64 lk, .int .u64 pr, .string p, .string q]] w fun e w' => e = .returned (.tuple #[.agg #[.int .i64 4, .bool o, .int .u64 lk, .int .u64 pr, .string p, .string q], .int .i64 0]) ∧ Below w.heap.size w w' := by
  have t0 : (st0 != 3) = false := by simp [h]
  clear h
  go_enter Tryd.func58, Tryd.ntmps58
  go_wp2_with fail
  refine bodyPost_ret (v := .tuple #[.agg #[.int .i64 4, .bool o, .int .u64 lk, .int .u64 pr, .string p, .string q], .int .i64 0]) (by simp [results, Tryd.results58, go_sem]) rfl ⟨rfl, ?_⟩
  exact balloc (balloc (Below.refl _ w) _) _
set_option maxHeartbeats 1000000 in
theorem rclose_no (st0 : Int) (o : Bool) (lk pr : Int) (p q : ByteArray) (w : World) (h : st0 ≠ 3) :
    Calls Tryd.prog 58 #[.agg #[.int .i64 st0, .bool o, .int .u64 lk, .int .u64 pr, .string p, .string q]] w fun e w' => e = .returned (.tuple #[.agg #[.int .i64 0, .bool false, .int .u64 0, .int .u64 0, .string ⟨#[]⟩, .string ⟨#[]⟩], .int .i64 180]) ∧ Below w.heap.size w w' := by
  have t0 : (st0 != 3) = true := by simp [h]
  clear h
  go_enter Tryd.func58, Tryd.ntmps58
  go_wp2_with fail
  refine bodyPost_ret (v := .tuple #[.agg #[.int .i64 0, .bool false, .int .u64 0, .int .u64 0, .string ⟨#[]⟩, .string ⟨#[]⟩], .int .i64 180]) (by simp [results, Tryd.results58, go_sem]) rfl ⟨rfl, ?_⟩
  exact balloc (balloc (Below.refl _ w) _) _
def rchTryV (N : Nat) (o : Bool) (lk pl peer : Int) (p q : ByteArray) (i : Nat) (v : Value) : Prop := match i with
  | 0 => v = .agg #[.int .i64 2, .bool o, .int .u64 lk, .int .u64 peer, .string p, .string q]
  | 1 => v = .agg #[.int .i64 2, .bool o, .int .u64 lk, .int .u64 peer, .string p, .string q]
  | 2 => v = .int .u64 pl
  | 3 => v = .agg #[.int .i64 1, .bool o, .int .u64 pl, .int .u64 0, .string q, .string p]
  | _ => True
def rchTryO (N : Nat) (o : Bool) (lk pl peer : Int) (p q : ByteArray) (i : Nat) (v : Value) : Prop := match i with
  | _ => True
set_option maxRecDepth 100000 in
set_option maxHeartbeats 1000000 in
theorem rtry_is (o : Bool) (lk pl : Int) (p q : ByteArray) (peer : Int) (w : World) :
    Calls Tryd.prog 55 #[.bool o, .int .u64 lk, .int .u64 pl, .string p, .string q, .int .u64 peer] w fun e w' => e = .returned (.tuple #[.agg #[.int .i64 2, .bool o, .int .u64 lk, .int .u64 peer, .string p, .string q], .agg #[.int .i64 1, .bool o, .int .u64 pl, .int .u64 0, .string q, .string p]]) ∧ Below w.heap.size w w' := by
  go_enter Tryd.func55, Tryd.ntmps55
  go_upto_region 2 with fail
  have HC3 := Lib.hid (ch3_try w #[.int .i64 2, .bool o, .int .u64 lk, .int .u64 peer, .string p, .string q])
  change Code.wp _ _ _ _ (((w.alloc (.cells #[.int .i64 0, .bool false, .int .u64 0, .int .u64 0, .string ⟨#[]⟩, .string ⟨#[]⟩] 57)).alloc (.cells #[.int .i64 0, .bool false, .int .u64 0, .int .u64 0, .string ⟨#[]⟩, .string ⟨#[]⟩] 57)).alloc (.cells #[.int .i64 2, .bool o, .int .u64 lk, .int .u64 peer, .string p, .string q] 57))
  generalize (((w.alloc (.cells #[.int .i64 0, .bool false, .int .u64 0, .int .u64 0, .string ⟨#[]⟩, .string ⟨#[]⟩] 57)).alloc (.cells #[.int .i64 0, .bool false, .int .u64 0, .int .u64 0, .string ⟨#[]⟩, .string ⟨#[]⟩] 57)).alloc (.cells #[.int .i64 2, .bool o, .int .u64 lk, .int .u64 peer, .string p, .string q] 57)) = W0 at HC3 ⊢
  obtain ⟨N, hN⟩ : ∃ N, w.heap.size = N := ⟨_, rfl⟩
  rw [hN] at HC3 ⊢
  clear hN
  refine wp_abs fun a0 hA => ?_
  have h2 : a0.eval (.tmp 2) = .int .u64 pl := by rw [hA]; rfl
  have h12 : a0.eval (.tmp 12) = .pointer (some ⟨N, 0, none⟩) := by rw [hA]; rfl
  have h13 : a0.eval (.tmp 13) = .pointer (some ⟨(N + 1), 0, none⟩) := by rw [hA]; rfl
  have h14 : a0.eval (.tmp 14) = .pointer (some ⟨(N + 1 + 1), 0, none⟩) := by rw [hA]; rfl
  have hz : a0.tmps.size = 25 := by rw [hA]; rfl
  refine wp_region_K [some 21, some 22, some 23, some 24, none, none] 25 (CJ (rchTryV N o lk pl peer p q) (rchTryO N o lk pl peer p q) [3, 4, 5] (ChS w (N + 1 + 1) N (N + 1) #[.int .i64 2, .bool o, .int .u64 lk, .int .u64 peer, .string p, .string q] #[.int .i64 2, .bool o, .int .u64 lk, .int .u64 peer, .string p, .string q] #[.int .i64 1, .bool o, .int .u64 pl, .int .u64 0, .string q, .string p] #[.int .i64 0, .bool false, .int .u64 0, .int .u64 0, .string ⟨#[]⟩, .string ⟨#[]⟩])) (by kernel_rfl) (by kernel_rfl) (by kernel_rfl) rfl (by kernel_rfl) hz (CJ.start (fun i => trivial) (HC3.out.next (Below.refl _ _).drew)) ?_ ⟨?_, ?_, ?_, ?_, ?_, ?_, trivial⟩
  · intro d u W hd hJ
    have HS : Hid (Ch3 w (N + 1 + 1) N (N + 1) _ _ _ W) := Lib.hid (hJ.fin 3 rfl (fun k hk => by simp at hk; rcases hk with rfl | rfl | rfl <;> exact hd _ (by decide)) ChS_le)
    rw [hA]
    simp only [putAll, Act.put, List.setIfInBounds_toArray, List.set_cons_zero, List.set_cons_succ]
    clear hJ hd h2 h12 h13 h14 hz hA
    clear a0
    go_wp2_with fail
    have d0 : W.cell? ⟨N, 0, none⟩ = some (.int .i64 2) := HS.out.e.cell 0
    have d1 : W.cell? ⟨N, 1, none⟩ = some (.bool o) := HS.out.e.cell 1
    have d2 : W.cell? ⟨N, 2, none⟩ = some (.int .u64 lk) := HS.out.e.cell 2
    have d3 : W.cell? ⟨N, 3, none⟩ = some (.int .u64 peer) := HS.out.e.cell 3
    have d4 : W.cell? ⟨N, 4, none⟩ = some (.string p) := HS.out.e.cell 4
    have d5 : W.cell? ⟨N, 5, none⟩ = some (.string q) := HS.out.e.cell 5
    have e0 : W.cell? ⟨N + 1, 0, none⟩ = some (.int .i64 1) := HS.out.m.cell 0
    have e1 : W.cell? ⟨N + 1, 1, none⟩ = some (.bool o) := HS.out.m.cell 1
    have e2 : W.cell? ⟨N + 1, 2, none⟩ = some (.int .u64 pl) := HS.out.m.cell 2
    have e3 : W.cell? ⟨N + 1, 3, none⟩ = some (.int .u64 0) := HS.out.m.cell 3
    have e4 : W.cell? ⟨N + 1, 4, none⟩ = some (.string q) := HS.out.m.cell 4
    have e5 : W.cell? ⟨N + 1, 5, none⟩ = some (.string p) := HS.out.m.cell 5
    exact bodyPost_ret (v := .tuple #[.agg #[.int .i64 2, .bool o, .int .u64 lk, .int .u64 peer, .string p, .string q], .agg #[.int .i64 1, .bool o, .int .u64 pl, .int .u64 0, .string q, .string p]]) (by simp [results, Tryd.results55, go_sem, d0, d1, d2, d3, d4, d5, e0, e1, e2, e3, e4, e5]) rfl ⟨rfl, HS.out.bel⟩
  · exact KStep.plain rfl fun ρ d u W he hc hdi hd hJ => swp_val (run_load (he.o h14 rfl) (load_ch (hJ.inv ChS_c))) (hJ.pure 0 rfl rfl)
  · exact KStep.plain rfl fun ρ d u W he hc hdi hd hJ => swp_val (run_load (he.o h14 rfl) (load_ch (hJ.inv ChS_c))) (hJ.pure 1 rfl rfl)
  · exact KStep.plain rfl fun ρ d u W he hc hdi hd hJ => swp_val (run_move (he.o h2 rfl)) (hJ.pure 2 rfl rfl)
  · refine KStep.plain rfl fun ρ d u W he hc hdi hd hJ => ?_
    have hS : Ch3 _ _ _ _ _ _ _ W := hJ.at_ 0 rfl hdi (fun j h => by omega)
    exact swp_call (run_call #[.agg #[.int .i64 2, .bool o, .int .u64 lk, .int .u64 peer, .string p, .string q], .int .i64 1, .int .u64 pl, .int .u64 0] (he.func _) (by kernel_rfl) (map4 (he.i hz (hJ.vals 1 (hd 1 (by kernel_rfl))) (j := 1) (d := 22) rfl (by decide)) (he.const _) (he.i hz (hJ.vals 2 (hd 2 (by kernel_rfl))) (j := 2) (d := 23) rfl (by decide)) (he.const _))) (rmirror_is _ _ _ _ _ _ _ _ _ W) (fun e W' h => ⟨_, h.1, hJ.go 0 rfl hdi (by decide) (fun j h => by omega) rfl (hS.next h.2)⟩)
  · refine KStep.plain rfl fun ρ d u W he hc hdi hd hJ => ?_
    have hS : Ch3 _ _ _ _ _ _ _ W := hJ.at_ 1 rfl hdi (fun j h => by cases h; exact ⟨3, rfl, hd 3 (by kernel_rfl)⟩)
    exact swp_skip (run_store (he.o h12 rfl) (he.i hz (hJ.vals 0 (hd 0 (by kernel_rfl))) (j := 0) (d := 21) rfl (by decide)) (store_ch hS.e)) (hJ.go 1 rfl hdi (by decide) (fun j h => by cases h; exact ⟨3, rfl, hd 3 (by kernel_rfl)⟩) trivial (hS.setE _ _ _ _ _ _))
  · refine KStep.plain rfl fun ρ d u W he hc hdi hd hJ => ?_
    have hS : Ch3 _ _ _ _ _ _ _ W := hJ.at_ 2 rfl hdi (fun j h => by cases h; exact ⟨4, rfl, hd 4 (by kernel_rfl)⟩)
    exact swp_skip (run_store (he.o h13 rfl) (he.i hz (hJ.vals 3 (hd 3 (by kernel_rfl))) (j := 3) (d := 24) rfl (by decide)) (store_ch hS.m)) (hJ.go 2 rfl hdi (by decide) (fun j h => by cases h; exact ⟨4, rfl, hd 4 (by kernel_rfl)⟩) trivial (hS.setM _ _ _ _ _ _))
end Go.Proofs.YtpekbnkmnellpaaDoor
namespace Go.Proofs.YtpekbnkmnellpaaDoor
open Go.RowKit
set_option linter.unusedVariables false

structure RLs (c : Ch) (w : World) (N g : Nat) (l : List UInt8) (W : World) : Prop where
  wr : Blk W g 126 #[.string ⟨l.toArray⟩]
  blk : Blk W N 57 c.cs
  bel : Below w.heap.size w W
  n : w.heap.size ≤ N
  ng : N < g
theorem RLs.step {c : Ch} {w : World} {N g : Nat} {l l' : List UInt8} {W W' : World} (h : RLs c w N g l W) (hw : Blk W' g 126 #[.string ⟨l'.toArray⟩]) (ho : Only [g] W W') : RLs c w N g l' W' :=
  ⟨hw, h.blk.only ho (by have := h.ng; simp; omega), h.bel.trans (ho.below (B := w.heap.size) (by have := h.ng; have := h.n; simp; omega) h.bel.size), h.n, h.ng⟩
set_option maxRecDepth 100000 in
set_option maxHeartbeats 4000000 in
theorem rlay_is (c : Ch) (w : World) (hc : c.ok) :
    Calls Tryd.prog 50 #[c.v] w fun e w' => e = .returned (.tuple #[.string c.layV, .int .i64 c.layE]) ∧ Below w.heap.size w w' := by
  obtain ⟨R, hR⟩ : ∃ R, c.rightB = R := ⟨_, rfl⟩
  have HV : Hid (c.layV = (if R then ⟨c.layL.toArray⟩ else ⟨#[]⟩) ∧ c.layE = if R then 0 else 181) := Lib.hid (by unfold Ch.layV Ch.layE; rw [hR]; exact ⟨rfl, rfl⟩)
  have HRb := Lib.hid hR
  clear hR
  obtain ⟨st, o, lk, pr, p, q⟩ := c
  have HC := Lib.hid hc
  have st0 := hc.state.1
  have st1 := hc.state.2
  have hps : p.size ≤ 140737488351232 := hc.port
  have hqs : q.size ≤ 140737488351232 := hc.pport
  clear hc
  show Calls Tryd.prog 50 #[.agg #[.int .i64 st, .bool o, .int .u64 lk, .int .u64 pr, .string p, .string q]] w _
  go_enter Tryd.func50, Tryd.ntmps50
  go_upto_region 1 with fail
  have hB := Blk.new w 57 #[.int .i64 st, .bool o, .int .u64 lk, .int .u64 pr, .string p, .string q]
  have hL := balloc (Below.refl _ w) (.cells #[.int .i64 st, .bool o, .int .u64 lk, .int .u64 pr, .string p, .string q] 57)
  generalize w.alloc (.cells #[.int .i64 st, .bool o, .int .u64 lk, .int .u64 pr, .string p, .string q] 57) = w1 at hB hL ⊢
  have HB := Lib.hid hB
  have HL := Lib.hid hL
  have c0 : w1.cell? ⟨w.heap.size, 0, none⟩ = some (.int .i64 st) := hB.cell 0
  have c3 : w1.cell? ⟨w.heap.size, 3, none⟩ = some (.int .u64 pr) := hB.cell 3
  have c4 : w1.cell? ⟨w.heap.size, 4, none⟩ = some (.string p) := hB.cell 4
  have c5 : w1.cell? ⟨w.heap.size, 5, none⟩ = some (.string q) := hB.cell 5
  clear hB hL
  go_cut [34] (fun v wx => v = .bool (!R) ∧ w1 = wx)
  case first =>
    have hrb := HRb.out
    simp only [Ch.rightB] at hrb
    by_cases h1 : st < 1
    · have : R = false := by rw [← hrb]; simp; omega
      subst this
      clear hrb
      go_wp2_with fail
      go_meet
      case rel => exact ⟨rfl, rfl⟩
    · by_cases h2 : 4 < st
      · have : R = false := by rw [← hrb]; simp; omega
        subst this
        clear hrb
        go_wp2_with fail
        go_meet
        case rel => exact ⟨rfl, rfl⟩
      · by_cases h3 : 16 < p.size
        · have : R = false := by rw [← hrb]; simp; omega
          subst this
          clear hrb
          go_wp2_with fail
          go_meet
          case rel => exact ⟨rfl, rfl⟩
        · by_cases h4 : 16 < q.size
          · have : R = false := by rw [← hrb]; simp; omega
            subst this
            clear hrb
            go_wp2_with fail
            go_meet
            case rel => exact ⟨rfl, rfl⟩
          · by_cases h5 : st = 1
            · subst h5
              by_cases h6 : pr = 0
              · have : R = true := by rw [← hrb]; simp [h6]; omega
                subst this
                subst h6
                clear hrb
                go_wp2_with fail
                go_meet
                case rel => exact ⟨by simp; omega, rfl⟩
              · have : R = false := by rw [← hrb]; simp [h6]
                subst this
                have h6' : (pr != 0) = true := by simp [h6]
                clear hrb
                go_wp2_with fail
                go_meet
                case rel => exact ⟨by simp, rfl⟩
            · have : R = true := by rw [← hrb]; simp [h5]; omega
              subst this
              have h5' : (st == 1) = false := by simp [h5]
              clear hrb
              go_wp2_with fail
              go_meet
              case rel => exact ⟨by simp; omega, rfl⟩
  case rest =>
    obtain ⟨rfl, rfl⟩ := hcut
    clear c0 c3 c4 c5
    cases R with
    | false =>
      go_wp2_with fail
      go_ret2
      exact ⟨by rw [HV.out.1, HV.out.2]; rfl, HL.out⟩
    | true =>
      have hrb := HRb.out
      simp only [Ch.rightB, Bool.and_eq_true, decide_eq_true_eq] at hrb
      obtain ⟨⟨⟨⟨hs1, hs4⟩, hp16⟩, hq16⟩, _⟩ := hrb
      clear HRb
      go_wp2_with fail
      refine (rnewwriter_is w1).mono ?_
      rintro e w3 ⟨rfl, rfl⟩
      have HS : Hid (RLs ⟨st, o, lk, pr, p, q⟩ w w.heap.size w1.heap.size [] (w1.alloc (.cells #[.string ⟨#[]⟩] 126))) := Lib.hid ⟨Blk.new w1 _ _, HB.out.alloc _, balloc HL.out _, Nat.le_refl _, HB.out.lt⟩
      clear HB HL
      generalize w1.alloc (.cells #[.string ⟨#[]⟩] 126) = w3 at HS ⊢
      generalize w1.heap.size = g at HS ⊢
      have c0 : w3.cell? ⟨w.heap.size, 0, none⟩ = some (.int .i64 st) := HS.out.blk.cell 0
      go_wp2_with fail
      refine (rnum_is w3 g [] st HS.out.wr (by simp) ⟨by omega, by omega⟩).mono ?_
      rintro e w4 ⟨rfl, hw4, ho4⟩
      rw [List.nil_append] at hw4
      have HS4 := Lib.hid (HS.out.step hw4 ho4)
      clear hw4 ho4 c0 HS
      have c1 : w4.cell? ⟨w.heap.size, 1, none⟩ = some (.bool o) := HS4.out.blk.cell 1
      have hoi : (o = true ∧ ordI o = 1) ∨ (o = false ∧ ordI o = 0) := by cases o <;> simp [ordI]
      have HLy : Hid (Ch.layL ⟨st, o, lk, pr, p, q⟩ = nB st 8 ++ nB (ordI o) 8 ++ nB lk 8 ++ nB pr 8 ++ nB (p.size : Int) 4 ++ p.data.toList ++ nB (q.size : Int) 4 ++ q.data.toList) := Lib.hid (by simp [Ch.layL, numsL])
      obtain ⟨oi, ho2⟩ : ∃ x, ordI o = x := ⟨_, rfl⟩
      rw [ho2] at hoi HLy
      clear ho2
      rcases hoi with ⟨rfl, rfl⟩ | ⟨rfl, rfl⟩
      all_goals
        go_wp2_with fail
        refine (rnum_is w4 g _ _ HS4.out.wr (by simp [nB_len]) ⟨by decide, by decide⟩).mono ?_
        rintro e w5 ⟨rfl, hw5, ho5⟩
        have HS5 := Lib.hid (HS4.out.step hw5 ho5)
        clear hw5 ho5 c1 HS4
        have c2 : w5.cell? ⟨w.heap.size, 2, none⟩ = some (.int .u64 lk) := HS5.out.blk.cell 2
        go_wp2_with fail
        refine (rnum_is w5 g _ lk HS5.out.wr (by simp [nB_len]) HC.out.link).mono ?_
        rintro e w6 ⟨rfl, hw6, ho6⟩
        have HS6 := Lib.hid (HS5.out.step hw6 ho6)
        clear hw6 ho6 c2 HS5
        have c3 : w6.cell? ⟨w.heap.size, 3, none⟩ = some (.int .u64 pr) := HS6.out.blk.cell 3
        go_wp2_with fail
        refine (rnum_is w6 g _ pr HS6.out.wr (by simp [nB_len]) HC.out.peer).mono ?_
        rintro e w7 ⟨rfl, hw7, ho7⟩
        have HS7 := Lib.hid (HS6.out.step hw7 ho7)
        clear hw7 ho7 c3 HS6
        have c4 : w7.cell? ⟨w.heap.size, 4, none⟩ = some (.string p) := HS7.out.blk.cell 4
        go_wp2_with fail
        refine (rwtext_is w7 g _ p HS7.out.wr (by simp [nB_len]) (by omega)).mono ?_
        rintro e w8 ⟨rfl, hw8, ho8⟩
        have HS8 := Lib.hid (HS7.out.step hw8 ho8)
        clear hw8 ho8 c4 HS7
        have c5 : w8.cell? ⟨w.heap.size, 5, none⟩ = some (.string q) := HS8.out.blk.cell 5
        go_wp2_with fail
        refine (rwtext_is w8 g _ q HS8.out.wr (by simp [nB_len]; omega) (by omega)).mono ?_
        rintro e w9 ⟨rfl, hw9, ho9⟩
        have HS9 := Lib.hid (HS8.out.step hw9 ho9)
        clear hw9 ho9 c5 HS8
        rw [← HLy.out] at HS9
        clear HLy
        generalize Ch.layL ⟨st, _, lk, pr, p, q⟩ = ly at HS9 HV
        go_wp2_with fail
        refine (rbytes_is w9 g _ HS9.out.wr).mono ?_
        rintro e w10 ⟨rfl, rfl⟩
        go_wp2_with fail
        go_ret2
        exact ⟨by rw [HV.out.1, HV.out.2]; rfl, HS9.out.bel⟩
structure TkR (w : World) (N M g : Nat) (cs : Array Value) (r : RS) (W : World) : Prop where
  res : Blk W N 57 #[.int .i64 0, .bool false, .int .u64 0, .int .u64 0, .string ⟨#[]⟩, .string ⟨#[]⟩]
  blk : Blk W M 57 cs
  rd : Rd2 W g r.rest r.bad
  bel : Below w.heap.size w W
  n : w.heap.size ≤ N
  ng : N < g
  gm : g < M
section
variable {w : World} {N M g : Nat} {cs : Array Value} {r r' : RS} {W W' : World}
theorem TkR.step (h : TkR w N M g cs r W) (hr : Rd2 W' g r'.rest r'.bad) (ho : Only [g] W W') : TkR w N M g cs r' W' :=
  ⟨h.res.only ho (by have := h.ng; simp; omega), h.blk.only ho (by have := h.gm; simp; omega), hr, h.bel.trans (ho.below (B := w.heap.size) (by have := h.n; have := h.ng; simp; omega) h.bel.size), h.n, h.ng, h.gm⟩
theorem TkR.store (h : TkR w N M g cs r W) (i : Nat) (u : Value) : TkR w N M g (cs.setIfInBounds i u) r (W.setCell ⟨M, i, none⟩ u) :=
  ⟨h.res.other M i u (by have := h.ng; have := h.gm; omega), h.blk.set_ i u, Blk.other h.rd M i u (by have := h.gm; omega), h.bel.setCell (p := ⟨M, i, none⟩) (by have := h.n; have := h.ng; have := h.gm; simp; omega) u, h.n, h.ng, h.gm⟩
end
theorem take_test (s : ByteArray) (st od pr : Nat) (e : Bool) (hst : (tk0 s).numV = st) (hod : (tk1 s).numV = od) (hpr : (tk3 s).numV = pr) (he : (tk6 s).endB = e) :
    takeB s = (e && decide (1 ≤ st) && decide (st ≤ 4) && decide (od ≤ 1) && (decide (st ≠ 1) || decide (pr = 0))) := by
  have h1 := (tk4 s).textV_le 16
  have h2 := (tk5 s).textV_le 16
  unfold takeB Ch.rightB takeRaw
  simp only [hst, hod, hpr, he]
  rw [Bool.eq_iff_iff]
  cases e
  · simp
  · simp
    omega
theorem takeC_yes (s : ByteArray) (h : takeB s = true) : takeC s = ⟨((tk0 s).numV : Int), ((tk1 s).numV : Int) == 1, (tk2 s).numV, (tk3 s).numV, (tk4 s).textV 16, (tk5 s).textV 16⟩ ∧ takeE s = 0 := by
  have ht := take_test s _ _ _ _ rfl rfl rfl rfl
  rw [h] at ht
  have h4 : (tk0 s).numV ≤ 4 := by
    have := ht.symm
    simp at this
    omega
  unfold takeC takeE
  rw [h]
  refine ⟨?_, rfl⟩
  simp only [if_true]
  unfold takeRaw
  congr 1
  omega
set_option maxRecDepth 100000 in
set_option maxHeartbeats 4000000 in
theorem rtakec_is (s : ByteArray) (w : World) (hs : s.size ≤ 140737488355328) :
    Calls Tryd.prog 51 #[.string s] w fun e w' => e = .returned (.tuple #[(takeC s).v, .int .i64 (takeE s)]) ∧ Below w.heap.size w w' := by
  have k1 : (tk1 s).rest.size ≤ s.size := RS.cut_le _ _
  have k2 : (tk2 s).rest.size ≤ s.size := Nat.le_trans (RS.cut_le _ _) k1
  have k3 : (tk3 s).rest.size ≤ s.size := Nat.le_trans (RS.cut_le _ _) k2
  have k4 : (tk4 s).rest.size ≤ s.size := Nat.le_trans (RS.cut_le _ _) k3
  have k5 : (tk5 s).rest.size ≤ s.size := Nat.le_trans (RS.text_le _ _) k4
  have n0 := (tk0 s).numV_le
  have n1 := (tk1 s).numV_le
  have n3 := (tk3 s).numV_le
  have HYes := Lib.hid (takeC_yes s)
  have HTest := Lib.hid (take_test s _ _ _ _ rfl rfl rfl rfl)
  have HNo : Hid (takeB s = false → takeC s = Ch.zero ∧ takeE s = 181) := Lib.hid (fun h => by unfold takeC takeE; rw [h]; exact ⟨rfl, rfl⟩)
  generalize takeC s = tc at HYes HNo ⊢
  generalize takeE s = te at HYes HNo ⊢
  generalize takeB s = tb at HYes HNo HTest
  go_enter Tryd.func51, Tryd.ntmps51
  go_wp2_with fail
  have hB := Blk.new w 57 #[.int .i64 0, .bool false, .int .u64 0, .int .u64 0, .string ⟨#[]⟩, .string ⟨#[]⟩]
  have hL := balloc (Below.refl _ w) (.cells #[.int .i64 0, .bool false, .int .u64 0, .int .u64 0, .string ⟨#[]⟩, .string ⟨#[]⟩] 57)
  generalize w.alloc (.cells #[.int .i64 0, .bool false, .int .u64 0, .int .u64 0, .string ⟨#[]⟩, .string ⟨#[]⟩] 57) = w1 at hB hL ⊢
  refine (rnewreader_is s w1).mono ?_
  rintro e w2 ⟨rfl, rfl⟩
  have HR0 : Hid (Rd2 (w1.alloc (.cells #[.string s, .bool false] 133)) w1.heap.size (tk0 s).rest (tk0 s).bad ∧ Blk (w1.alloc (.cells #[.string s, .bool false] 133)) w.heap.size 57 #[.int .i64 0, .bool false, .int .u64 0, .int .u64 0, .string ⟨#[]⟩, .string ⟨#[]⟩] ∧ Below w.heap.size w (w1.alloc (.cells #[.string s, .bool false] 133)) ∧ w.heap.size < w1.heap.size) := Lib.hid ⟨Blk.new w1 _ _, hB.alloc _, balloc hL _, hB.lt⟩
  clear hB hL
  generalize w1.alloc (.cells #[.string s, .bool false] 133) = w2 at HR0 ⊢
  generalize w1.heap.size = g at HR0 ⊢
  go_wp2_with fail
  refine (rrnum_is w2 g (tk0 s) HR0.out.1 (by show s.size ≤ _; omega)).mono ?_
  rintro e w3 ⟨rfl, hr3, ho3⟩
  have HR1 : Hid (Rd2 w3 g (tk1 s).rest (tk1 s).bad ∧ Blk w3 w.heap.size 57 #[.int .i64 0, .bool false, .int .u64 0, .int .u64 0, .string ⟨#[]⟩, .string ⟨#[]⟩] ∧ Below w.heap.size w w3 ∧ w.heap.size < g) := Lib.hid ⟨hr3, HR0.out.2.1.only ho3 (by have := HR0.out.2.2.2; simp; omega), HR0.out.2.2.1.trans (ho3.below (B := w.heap.size) (by have := HR0.out.2.2.2; simp; omega) HR0.out.2.2.1.size), HR0.out.2.2.2⟩
  clear hr3 ho3 HR0
  go_wp2_with fail
  refine (rrnum_is w3 g (tk1 s) HR1.out.1 (by omega)).mono ?_
  rintro e w4 ⟨rfl, hr4, ho4⟩
  have hb4 := HR1.out.2.1.only ho4 (by have := HR1.out.2.2.2; simp; omega)
  have hl4 := HR1.out.2.2.1.trans (ho4.below (B := w.heap.size) (by have := HR1.out.2.2.2; simp; omega) HR1.out.2.2.1.size)
  have HS2 : Hid (TkR w w.heap.size w4.heap.size g #[.int .i64 0, .bool false, .int .u64 0, .int .u64 0, .string ⟨#[]⟩, .string ⟨#[]⟩] (tk2 s) (w4.alloc (.cells #[.int .i64 0, .bool false, .int .u64 0, .int .u64 0, .string ⟨#[]⟩, .string ⟨#[]⟩] 57))) := Lib.hid ⟨hb4.alloc _, Blk.new w4 _ _, Blk.alloc hr4 _, balloc hl4 _, Nat.le_refl _, HR1.out.2.2.2, Blk.lt hr4⟩
  clear hr4 ho4 hb4 hl4 HR1
  go_upto_region 5 with fail
  change Code.wp _ _ _ _ (w4.alloc (.cells #[.int .i64 0, .bool false, .int .u64 0, .int .u64 0, .string ⟨#[]⟩, .string ⟨#[]⟩] 57))
  generalize w4.alloc (.cells #[.int .i64 0, .bool false, .int .u64 0, .int .u64 0, .string ⟨#[]⟩, .string ⟨#[]⟩] 57) = w5 at HS2 ⊢
  generalize w4.heap.size = M at HS2 ⊢
  go_wp2_with fail
  refine (rrnum_is w5 g (tk2 s) HS2.out.rd (by omega)).mono ?_
  rintro e w6 ⟨rfl, hr6, ho6⟩
  have HS3 := Lib.hid (HS2.out.step (r' := tk3 s) hr6 ho6)
  clear hr6 ho6 HS2
  have d2 : w6.cell? ⟨M, 2, none⟩ = some (.int .u64 0) := HS3.out.blk.cell 2
  have f2 := HS3.out.blk.frozen 2
  generalize (tk2 s).numV = lk at HYes ⊢
  go_upto_region 6 with fail
  have HS4 := Lib.hid (HS3.out.store 2 (.int .u64 lk))
  clear d2 f2 HS3
  generalize w6.setCell ⟨M, 2, none⟩ (.int .u64 lk) = w7 at HS4 ⊢
  go_wp2_with fail
  refine (rrnum_is w7 g (tk3 s) HS4.out.rd (by omega)).mono ?_
  rintro e w8 ⟨rfl, hr8, ho8⟩
  have HS5 := Lib.hid (HS4.out.step (r' := tk4 s) hr8 ho8)
  clear hr8 ho8 HS4
  have d3 : w8.cell? ⟨M, 3, none⟩ = some (.int .u64 0) := HS5.out.blk.cell 3
  have f3 := HS5.out.blk.frozen 3
  generalize (tk3 s).numV = pr at HYes HTest n3 ⊢
  go_upto_region 7 with fail
  have HS6 := Lib.hid (HS5.out.store 3 (.int .u64 pr))
  clear d3 f3 HS5
  generalize w8.setCell ⟨M, 3, none⟩ (.int .u64 pr) = w9 at HS6 ⊢
  have ht1 : Calls Tryd.prog 88 #[.pointer (some ⟨g, 0, none⟩), .int .i64 16] w9 _ := rrtext_is w9 g (tk4 s) 16 HS6.out.rd (by omega) (by omega)
  have HT1 := Lib.hid ht1
  clear ht1
  go_wp2_with fail
  refine HT1.out.mono ?_
  rintro e w10 ⟨rfl, hr10, ho10⟩
  have HS7 := Lib.hid (HS6.out.step (r' := tk5 s) hr10 ho10)
  clear hr10 ho10 HS6 HT1
  have d4 : w10.cell? ⟨M, 4, none⟩ = some (.string ⟨#[]⟩) := HS7.out.blk.cell 4
  have f4 := HS7.out.blk.frozen 4
  generalize (tk4 s).textV 16 = p at HYes ⊢
  go_upto_region 8 with fail
  have HS8 := Lib.hid (HS7.out.store 4 (.string p))
  clear d4 f4 HS7
  generalize w10.setCell ⟨M, 4, none⟩ (.string p) = w11 at HS8 ⊢
  have ht2 : Calls Tryd.prog 88 #[.pointer (some ⟨g, 0, none⟩), .int .i64 16] w11 _ := rrtext_is w11 g (tk5 s) 16 HS8.out.rd (by omega) (by omega)
  have HT2 := Lib.hid ht2
  clear ht2
  go_wp2_with fail
  refine HT2.out.mono ?_
  rintro e w12 ⟨rfl, hr12, ho12⟩
  have HS9 := Lib.hid (HS8.out.step (r' := tk6 s) hr12 ho12)
  clear hr12 ho12 HS8 HT2
  have d5 : w12.cell? ⟨M, 5, none⟩ = some (.string ⟨#[]⟩) := HS9.out.blk.cell 5
  have f5 := HS9.out.blk.frozen 5
  generalize (tk5 s).textV 16 = q at HYes ⊢
  go_upto_region 9 with fail
  have HS10 : Hid (TkR w w.heap.size M g #[.int .i64 0, .bool false, .int .u64 lk, .int .u64 pr, .string p, .string q] (tk6 s) (w12.setCell ⟨M, 5, none⟩ (.string q))) := Lib.hid (HS9.out.store 5 (.string q))
  clear d5 f5 HS9
  generalize w12.setCell ⟨M, 5, none⟩ (.string q) = w13 at HS10 ⊢
  go_wp2_with fail
  refine (rrend_is w13 g (tk6 s) HS10.out.rd).mono ?_
  rintro e w14 ⟨rfl, rfl⟩
  generalize (tk0 s).numV = st at HYes HTest n0 ⊢
  generalize (tk1 s).numV = od at HYes HTest n1 ⊢
  generalize (tk6 s).endB = eb at HTest ⊢
  have d3 : w13.cell? ⟨M, 3, none⟩ = some (.int .u64 pr) := HS10.out.blk.cell 3
  clear k1 k2 k3 k4 k5
  go_upto_region 10 with fail
  go_cut [51] (fun v wx => v = .bool (!tb) ∧ w13 = wx)
  case first =>
    have ht := HTest.out
    cases eb with
    | false =>
      have : tb = false := by rw [ht]; simp
      subst this
      clear ht
      go_wp2_with fail
      go_meet
      case rel => exact ⟨by simp, rfl⟩
    | true =>
      by_cases h1 : st < 1
      · have : tb = false := by rw [ht]; simp; omega
        subst this
        clear ht
        go_wp2_with fail
        go_meet
        case rel => exact ⟨by simp, rfl⟩
      · by_cases h2 : 4 < st
        · have : tb = false := by rw [ht]; simp; omega
          subst this
          clear ht
          go_wp2_with fail
          go_meet
          case rel => exact ⟨by simp, rfl⟩
        · by_cases h3 : 1 < od
          · have : tb = false := by rw [ht]; simp; omega
            subst this
            clear ht
            go_wp2_with fail
            go_meet
            case rel => exact ⟨by simp, rfl⟩
          · by_cases h5 : st = 1
            · subst h5
              by_cases h6 : pr = 0
              · have : tb = true := by rw [ht]; simp [h6]; omega
                subst this
                subst h6
                clear ht
                go_wp2_with fail
                go_meet
                case rel => exact ⟨by simp; try omega, rfl⟩
              · have : tb = false := by rw [ht]; simp [h6]
                subst this
                have h6' : ((pr : Int) != 0) = true := by simp [h6]
                clear ht
                go_wp2_with fail
                go_meet
                case rel => exact ⟨by simp; try omega, rfl⟩
            · have : tb = true := by rw [ht]; simp [h5]; omega
              subst this
              have h5' : ((st : Int) == 1) = false := by simp; omega
              clear ht
              go_wp2_with fail
              go_meet
              case rel => exact ⟨by simp; try omega, rfl⟩
  case rest =>
    obtain ⟨rfl, rfl⟩ := hcut
    cases tb with
    | false =>
      obtain ⟨rfl, rfl⟩ := HNo.out rfl
      have r0 : w13.cell? ⟨w.heap.size, 0, none⟩ = some (.int .i64 0) := HS10.out.res.cell 0
      have r1 : w13.cell? ⟨w.heap.size, 1, none⟩ = some (.bool false) := HS10.out.res.cell 1
      have r2 : w13.cell? ⟨w.heap.size, 2, none⟩ = some (.int .u64 0) := HS10.out.res.cell 2
      have r3 : w13.cell? ⟨w.heap.size, 3, none⟩ = some (.int .u64 0) := HS10.out.res.cell 3
      have r4 : w13.cell? ⟨w.heap.size, 4, none⟩ = some (.string ⟨#[]⟩) := HS10.out.res.cell 4
      have r5 : w13.cell? ⟨w.heap.size, 5, none⟩ = some (.string ⟨#[]⟩) := HS10.out.res.cell 5
      have f0 := HS10.out.res.frozen 0
      have f1 := HS10.out.res.frozen 1
      have f2 := HS10.out.res.frozen 2
      have f3 := HS10.out.res.frozen 3
      have f4 := HS10.out.res.frozen 4
      have f5 := HS10.out.res.frozen 5
      clear d3 HYes HTest HNo
      go_wp2_with fail
      have HRs := Lib.hid (HS10.out.res.set6 (.int .i64 0) (.bool false) (.int .u64 0) (.int .u64 0) (.string ⟨#[]⟩) (.string ⟨#[]⟩))
      have HBl := Lib.hid (below_set6 HS10.out.bel w.heap.size (Nat.le_refl _) (.int .i64 0) (.bool false) (.int .u64 0) (.int .u64 0) (.string ⟨#[]⟩) (.string ⟨#[]⟩))
      simp only [setC6] at HRs HBl
      generalize (((((w13.setCell ⟨w.heap.size, 0, none⟩ (.int .i64 0)).setCell ⟨w.heap.size, 1, none⟩ (.bool false)).setCell ⟨w.heap.size, 2, none⟩ (.int .u64 0)).setCell ⟨w.heap.size, 3, none⟩ (.int .u64 0)).setCell ⟨w.heap.size, 4, none⟩ (.string ⟨#[]⟩)).setCell ⟨w.heap.size, 5, none⟩ (.string ⟨#[]⟩) = w15 at HRs HBl ⊢
      clear r0 r1 r2 r3 r4 r5 f0 f1 f2 f3 f4 f5
      have x0 : w15.cell? ⟨w.heap.size, 0, none⟩ = some (.int .i64 0) := HRs.out.cell 0
      have x1 : w15.cell? ⟨w.heap.size, 1, none⟩ = some (.bool false) := HRs.out.cell 1
      have x2 : w15.cell? ⟨w.heap.size, 2, none⟩ = some (.int .u64 0) := HRs.out.cell 2
      have x3 : w15.cell? ⟨w.heap.size, 3, none⟩ = some (.int .u64 0) := HRs.out.cell 3
      have x4 : w15.cell? ⟨w.heap.size, 4, none⟩ = some (.string ⟨#[]⟩) := HRs.out.cell 4
      have x5 : w15.cell? ⟨w.heap.size, 5, none⟩ = some (.string ⟨#[]⟩) := HRs.out.cell 5
      exact bodyPost_ret (v := .tuple #[.agg #[.int .i64 0, .bool false, .int .u64 0, .int .u64 0, .string ⟨#[]⟩, .string ⟨#[]⟩], .int .i64 181]) (by simp [results, Tryd.results51, go_sem, x0, x1, x2, x3, x4, x5]) rfl ⟨rfl, HBl.out⟩
    | true =>
      obtain ⟨rfl, rfl⟩ := HYes.out rfl
      have ht := HTest.out
      simp at ht
      have hst : st ≤ 4 := by omega
      have hst2 : IntKind.i64.wrap (st : Int) = (st : Int) := IntWalk.i64_in _ (by omega)
      have m0 : w13.cell? ⟨M, 0, none⟩ = some (.int .i64 0) := HS10.out.blk.cell 0
      have m1 : w13.cell? ⟨M, 1, none⟩ = some (.bool false) := HS10.out.blk.cell 1
      have g0 := HS10.out.blk.frozen 0
      have g1 := HS10.out.blk.frozen 1
      clear ht HYes HTest HNo d3
      have HS11 : Hid (TkR w w.heap.size M g #[.int .i64 (st : Int), .bool ((od : Int) == 1), .int .u64 lk, .int .u64 pr, .string p, .string q] (tk6 s) ((w13.setCell ⟨M, 0, none⟩ (.int .i64 (st : Int))).setCell ⟨M, 1, none⟩ (.bool ((od : Int) == 1)))) := Lib.hid ((HS10.out.store 0 (.int .i64 (st : Int))).store 1 (.bool ((od : Int) == 1)))
      clear HS10
      go_upto_region 14 with fail
      clear m0 m1 g0 g1
      generalize (w13.setCell ⟨M, 0, none⟩ (.int .i64 (st : Int))).setCell ⟨M, 1, none⟩ (.bool ((od : Int) == 1)) = w14 at HS11 ⊢
      have y0 : w14.cell? ⟨M, 0, none⟩ = some (.int .i64 (st : Int)) := HS11.out.blk.cell 0
      have y1 : w14.cell? ⟨M, 1, none⟩ = some (.bool ((od : Int) == 1)) := HS11.out.blk.cell 1
      have y2 : w14.cell? ⟨M, 2, none⟩ = some (.int .u64 lk) := HS11.out.blk.cell 2
      have y3 : w14.cell? ⟨M, 3, none⟩ = some (.int .u64 pr) := HS11.out.blk.cell 3
      have y4 : w14.cell? ⟨M, 4, none⟩ = some (.string p) := HS11.out.blk.cell 4
      have y5 : w14.cell? ⟨M, 5, none⟩ = some (.string q) := HS11.out.blk.cell 5
      have r0 : w14.cell? ⟨w.heap.size, 0, none⟩ = some (.int .i64 0) := HS11.out.res.cell 0
      have r1 : w14.cell? ⟨w.heap.size, 1, none⟩ = some (.bool false) := HS11.out.res.cell 1
      have r2 : w14.cell? ⟨w.heap.size, 2, none⟩ = some (.int .u64 0) := HS11.out.res.cell 2
      have r3 : w14.cell? ⟨w.heap.size, 3, none⟩ = some (.int .u64 0) := HS11.out.res.cell 3
      have r4 : w14.cell? ⟨w.heap.size, 4, none⟩ = some (.string ⟨#[]⟩) := HS11.out.res.cell 4
      have r5 : w14.cell? ⟨w.heap.size, 5, none⟩ = some (.string ⟨#[]⟩) := HS11.out.res.cell 5
      have f0 := HS11.out.res.frozen 0
      have f1 := HS11.out.res.frozen 1
      have f2 := HS11.out.res.frozen 2
      have f3 := HS11.out.res.frozen 3
      have f4 := HS11.out.res.frozen 4
      have f5 := HS11.out.res.frozen 5
      go_wp2_with fail
      have HRs := Lib.hid (HS11.out.res.set6 (.int .i64 (st : Int)) (.bool ((od : Int) == 1)) (.int .u64 lk) (.int .u64 pr) (.string p) (.string q))
      have HBl := Lib.hid (below_set6 HS11.out.bel w.heap.size (Nat.le_refl _) (.int .i64 (st : Int)) (.bool ((od : Int) == 1)) (.int .u64 lk) (.int .u64 pr) (.string p) (.string q))
      simp only [setC6] at HRs HBl
      generalize (((((w14.setCell ⟨w.heap.size, 0, none⟩ (.int .i64 (st : Int))).setCell ⟨w.heap.size, 1, none⟩ (.bool ((od : Int) == 1))).setCell ⟨w.heap.size, 2, none⟩ (.int .u64 lk)).setCell ⟨w.heap.size, 3, none⟩ (.int .u64 pr)).setCell ⟨w.heap.size, 4, none⟩ (.string p)).setCell ⟨w.heap.size, 5, none⟩ (.string q) = w15 at HRs HBl ⊢
      clear r0 r1 r2 r3 r4 r5 f0 f1 f2 f3 f4 f5 y0 y1 y2 y3 y4 y5
      have x0 : w15.cell? ⟨w.heap.size, 0, none⟩ = some (.int .i64 (st : Int)) := HRs.out.cell 0
      have x1 : w15.cell? ⟨w.heap.size, 1, none⟩ = some (.bool ((od : Int) == 1)) := HRs.out.cell 1
      have x2 : w15.cell? ⟨w.heap.size, 2, none⟩ = some (.int .u64 lk) := HRs.out.cell 2
      have x3 : w15.cell? ⟨w.heap.size, 3, none⟩ = some (.int .u64 pr) := HRs.out.cell 3
      have x4 : w15.cell? ⟨w.heap.size, 4, none⟩ = some (.string p) := HRs.out.cell 4
      have x5 : w15.cell? ⟨w.heap.size, 5, none⟩ = some (.string q) := HRs.out.cell 5
      exact bodyPost_ret (v := .tuple #[.agg #[.int .i64 (st : Int), .bool ((od : Int) == 1), .int .u64 lk, .int .u64 pr, .string p, .string q], .int .i64 0]) (by simp [results, Tryd.results51, go_sem, x0, x1, x2, x3, x4, x5]) rfl ⟨rfl, HBl.out⟩
end Go.Proofs.YtpekbnkmnellpaaDoor
