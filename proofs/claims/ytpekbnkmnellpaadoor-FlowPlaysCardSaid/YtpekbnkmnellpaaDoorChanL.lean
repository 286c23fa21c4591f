/-
  The walks of codec's Writer.Text, of channel's right and Lay.
-/
import Derived.Test.YtpekbnkmnellpaaDoorCodecT
import Derived.Test.YtpekbnkmnellpaaDoorOpenA
namespace Go.Proofs.YtpekbnkmnellpaaDoor
open Go.RowKit
set_option linter.unusedVariables false

theorem wr_store' {w w1 : World} {B g : Nat} {u v v' : Value} {l l' : List UInt8} (hB : B ≤ g) (hBw : B ≤ w.heap.size) (hk : Blk w g 120 #[u]) (hy : Byt w B v l) (hy' : Byt w1 B v' l') (hg : w.grownBy w1 v.ownBlock) :
    Wr (w1.setCell ⟨g, 0, none⟩ v') B g l' ∧ Below B w (w1.setCell ⟨g, 0, none⟩ v') ∧ Keeps g w (w1.setCell ⟨g, 0, none⟩ v') := by
  have hne := own_ne hy hk (by decide)
  have hk1 : Blk w1 g 120 #[u] := by unfold Blk; rw [hg.block g hk.lt hne]; exact hk
  refine ⟨⟨hB, v', hk1.set_ 0 v', ?_⟩, ((Below.refl B w).grown hg hBw (fun k hk => (hy.lt k hk).1)).setCell (p := ⟨g, 0, none⟩) hB _, fun k t cs hb ht hi => ?_⟩
  · have hne' := own_ne hy' hk1 (by decide)
    refine ⟨hy'.1, ?_⟩
    rcases hy'.2 with hn | ⟨r, cap, cur, hv, hbg, hgg, rest⟩
    · exact .inl hn
    · refine .inr ⟨r, cap, cur, hv, hbg, ?_, rest⟩
      have hr : g ≠ r := fun e => hne' (by rw [hv]; simp [Value.ownBlock, e])
      exact (show Blk w1 r 5 cur from hgg).other g 0 v' hr
  · have hn2 := own_ne hy hb ht
    have : Blk w1 k t cs := by unfold Blk; rw [hg.block k hb.lt hn2]; exact hb
    exact this.other g 0 v' (fun e => hi e.symm)
theorem keeps_grown {w w1 : World} {B g : Nat} {v : Value} {l : List UInt8} (hy : Byt w B v l) (hg : w.grownBy w1 v.ownBlock) : Keeps g w w1 := fun k t cs hb ht hi => by
  unfold Blk
  rw [hg.block k hb.lt (own_ne hy hb ht)]
  exact hb
set_option maxRecDepth 100000 in
set_option maxHeartbeats 1000000 in
theorem text_is (w : World) (B g : Nat) (l : List UInt8) (s : ByteArray) (h : Wr w B g l) (hBw : B ≤ w.heap.size) (hl : l.length + 4 + s.size ≤ 140737488355328) :
    Calls Tryd.prog 80 #[.pointer (some ⟨g, 0, none⟩), .string s] w fun e w' => e = .returned (.tuple #[]) ∧ Wr w' B g (l ++ nB s.size 4 ++ s.data.toList) ∧ Below B w w' ∧ Keeps g w w' := by
  obtain ⟨i0, hi, hz0, hz1, hz2⟩ := info_parts info_u8
  have HI := Lib.hid (And.intro hi (And.intro hz0 (And.intro hz1 hz2)))
  clear hi hz0 hz1 hz2
  obtain ⟨hB, v, hk, hy⟩ := h
  have c0 : w.cell? ⟨g, 0, none⟩ = some v := hk.cell 0
  have HK := Lib.hid hk
  have HY := Lib.hid hy
  clear hk hy
  go_enter Tryd.func80, Tryd.ntmps80
  go_wp2_with fail
  refine (clay_is B v l s.size 4 w HY.out (by omega) hBw (by omega) (by omega) (by omega)).mono ?_
  rintro e w1 ⟨v', rfl, hy', hg'⟩
  have hk1 : Blk w1 g 120 #[v] := by unfold Blk; rw [hg'.block g HK.out.lt (own_ne HY.out HK.out (by decide))]; exact HK.out
  have HK1 := Lib.hid hk1
  have HY1 := Lib.hid hy'
  have HKp := Lib.hid (keeps_grown (g := g) HY.out hg')
  have HBl := Lib.hid ((Below.refl B w).grown hg' hBw (fun k hk => (HY.out.lt k hk).1))
  have hB1 : B ≤ w1.heap.size := Nat.le_trans hBw hg'.size
  have HLn : Hid ((l ++ nB s.size 4).length = l.length + 4) := Lib.hid (by rw [List.length_append, nB_len])
  have HO : Hid (w1.ownsRow B 5 1 v' (l ++ nB s.size 4).length (bC (l ++ nB s.size 4))) := Lib.hid hy'
  clear hk1 hy' hg' c0
  go_wp2_with (at_builtin; refine Lib.wpList_append_own_string _ rfl _ _ 89 9 rfl B 5 i0 Tryd.underlying89 Tryd.underlying9 HI.out.1 HI.out.2.1 HI.out.2.2.1 HI.out.2.2.2 _ _ _ rfl HO.out s rfl ?c3 ?c4 hB1 ?_)
  case c3 => rw [HLn.out]; unfold maxLen; omega
  case c4 => rw [HLn.out]; omega
  intro v2 w2 hown' hgrow _
  have hy2 : Byt w2 B v2 (l ++ nB s.size 4 ++ s.data.toList) := by
    unfold Byt
    rw [bC_app, List.length_append, List.length_append, len_data]
    exact hown'
  have HR := Lib.hid (wr_store' hB hB1 HK1.out HY1.out hy2 hgrow)
  have hk2 : Blk w2 g 120 #[v] := by unfold Blk; rw [hgrow.block g HK1.out.lt (own_ne HY1.out HK1.out (by decide))]; exact HK1.out
  have c2 : w2.cell? ⟨g, 0, none⟩ = some v := hk2.cell 0
  have f2 := hk2.frozen 0
  obtain ⟨ao, n', cap', rfl⟩ : ∃ ao n' cap', v2 = .slice ao n' cap' := by
    rcases hy2.2 with ⟨hv, _⟩ | ⟨g, cap, cur, hv, _⟩
    · exact ⟨_, _, _, hv⟩
    · exact ⟨_, _, _, hv⟩
  clear hy2 hgrow hk2 hown'
  go_wp2_with fail
  go_end0
  exact ⟨rfl, HR.out.1, HBl.out.trans HR.out.2.1, HKp.out.trans HR.out.2.2⟩
/-- an end of a channel -/
structure Ch where
  state : Int
  ordered : Bool
  (link peer : Int)
  (port pport : ByteArray)
def Ch.cs (c : Ch) : Array Value := #[.int .i64 c.state, .bool c.ordered, .int .u64 c.link, .int .u64 c.peer, .string c.port, .string c.pport]
def Ch.v (c : Ch) : Value := .agg #[.int .i64 c.state, .bool c.ordered, .int .u64 c.link, .int .u64 c.peer, .string c.port, .string c.pport]
structure Ch.ok (c : Ch) : Prop where
  state : i64r c.state
  link : u64r c.link
  peer : u64r c.peer
  port : c.port.size ≤ 140737488351232
  pport : c.pport.size ≤ 140737488351232
def Ch.rightB (c : Ch) : Bool := decide (1 ≤ c.state) && decide (c.state ≤ 4) && decide (c.port.size ≤ 16) && decide (c.pport.size ≤ 16) && (c.state != 1 || c.peer == 0)
set_option maxRecDepth 100000 in
set_option maxHeartbeats 1000000 in
theorem cright_is (c : Ch) (w : World) (hc : c.ok) :
    Calls Tryd.prog 79 #[c.v] w fun e w' => e = .returned (.bool c.rightB) ∧ Below w.heap.size w w' := by
  obtain ⟨st, o, lk, pr, p, q⟩ := c
  have hs1 : -9223372036854775808 ≤ st := hc.state.1
  have hs2 : st ≤ 9223372036854775807 := hc.state.2
  have hp : p.size ≤ 140737488351232 := hc.port
  have hq : q.size ≤ 140737488351232 := hc.pport
  clear hc
  show Calls Tryd.prog 79 #[.agg #[.int .i64 st, .bool o, .int .u64 lk, .int .u64 pr, .string p, .string q]] w _
  obtain ⟨R, hR⟩ : ∃ R, Ch.rightB ⟨st, o, lk, pr, p, q⟩ = R := ⟨_, rfl⟩
  rw [hR]
  have hR' : R = (decide (1 ≤ st) && decide (st ≤ 4) && decide (p.size ≤ 16) && decide (q.size ≤ 16) && (st != 1 || pr == 0)) := hR.symm
  have HR := Lib.hid hR'
  clear hR hR'
  by_cases h1 : 1 ≤ st
  · by_cases h2 : st ≤ 4
    · by_cases h3 : p.size ≤ 16
      · by_cases h4 : q.size ≤ 16
        · by_cases h5 : st = 1
          · have t5 : (st != 1) = false := by simp [h5]
            obtain ⟨t6, ht6⟩ : ∃ t, (pr == 0) = t := ⟨_, rfl⟩
            have HE : Hid (R = t6) := Lib.hid (by rw [HR.out, t5, ht6]; simp [h1, h2, h3, h4])
            clear HR h5
            go_enter Tryd.func79, Tryd.ntmps79
            go_wp2_with fail
            go_ret
            exact ⟨by rw [HE.out]; rfl, balloc (Below.refl _ w) _⟩
          · have t5 : (st != 1) = true := by simp [h5]
            have HE : Hid (R = true) := Lib.hid (by rw [HR.out, t5]; simp [h1, h2, h3, h4])
            clear HR h5
            go_enter Tryd.func79, Tryd.ntmps79
            go_wp2_with fail
            go_ret
            exact ⟨by rw [HE.out]; rfl, balloc (Below.refl _ w) _⟩
        · have HE : Hid (R = false) := Lib.hid (by rw [HR.out]; simp [h4])
          clear HR
          go_enter Tryd.func79, Tryd.ntmps79
          go_wp2_with fail
          go_ret
          exact ⟨by rw [HE.out]; rfl, balloc (Below.refl _ w) _⟩
      · have HE : Hid (R = false) := Lib.hid (by rw [HR.out]; simp [h3])
        clear HR
        go_enter Tryd.func79, Tryd.ntmps79
        go_wp2_with fail
        go_ret
        exact ⟨by rw [HE.out]; rfl, balloc (Below.refl _ w) _⟩
    · have HE : Hid (R = false) := Lib.hid (by rw [HR.out]; simp [h2])
      clear HR
      go_enter Tryd.func79, Tryd.ntmps79
      go_wp2_with fail
      go_ret
      exact ⟨by rw [HE.out]; rfl, balloc (Below.refl _ w) _⟩
  · have HE : Hid (R = false) := Lib.hid (by rw [HR.out]; simp [h1])
    clear HR
    go_enter Tryd.func79, Tryd.ntmps79
    go_wp2_with fail
    go_ret
    exact ⟨by rw [HE.out]; rfl, balloc (Below.refl _ w) _⟩
end Go.Proofs.YtpekbnkmnellpaaDoor
