/-
  The walk of channel's Recv.
-/
import Derived.Test.YtpekbnkmnellpaaDoorFlow
namespace Go.Proofs.YtpekbnkmnellpaaDoor
open Go.RowKit Go.Maps
set_option linter.unusedVariables false

def lateB (p : Pk) (h : Int) : Bool := (p.timeout != 0) && decide (p.timeout ≤ h)
def Fl.took (s : Fl) (k : Int) : Fl := if s.ordered then { s with recv := IntKind.u64.wrap (s.recv + 1) } else { s with got := upd s.got k true }
def Pk.cs (p : Pk) : Array Value := #[.int .u64 p.seq, .int .u64 p.src, .int .u64 p.dst, .string p.data, .int .u64 p.timeout]
theorem below_drewN' {B : Nat} {a w : World} (h : Below B a w) (n : Nat) : Below B a (w.drewN n) := ⟨h.os, h.tape, h.output, h.size, h.block⟩
set_option maxHeartbeats 1000000 in
theorem recv_late (w : World) (B : FB) (n : Nat) (s : Fl) (p : Pk) (h : Int) (F : FlowAt w B n s) (hl : lateB p h = true) :
    Calls Tryd.prog 21 #[.pointer (some ⟨B.f, 0, none⟩), p.v, .int .u64 h] w fun e w' => e = .returned (.int .i64 182) ∧ Below w.heap.size w w' := by
  obtain ⟨sq, fr, to_, dt, tm⟩ := p
  simp only [lateB, Bool.and_eq_true] at hl
  obtain ⟨t0, t1⟩ := hl
  have HF := Lib.hid F
  clear F
  show Calls Tryd.prog 21 #[.pointer (some ⟨B.f, 0, none⟩), .agg #[.int .u64 sq, .int .u64 fr, .int .u64 to_, .string dt, .int .u64 tm], .int .u64 h] w _
  go_enter Tryd.func21, Tryd.ntmps21
  go_wp2_with fail
  go_ret
  exact ⟨rfl, balloc (Below.refl _ w) _⟩
theorem wrap_r (n : Int) : u64r (IntKind.u64.wrap n) := by
  rw [IntKind.wrap_u64]
  exact ⟨by omega, by omega⟩
theorem set_block {w : World} {g k i : Nat} {u : Value} (h : g ≠ k) : (w.setCell ⟨g, i, none⟩ u).heap[k]? = w.heap[k]? := by
  simp [World.setCell, Array.getElem?_modify, h]
theorem flow_set {w : World} {B : FB} {n i : Nat} {s : Fl} {u : Value} (F : FlowAt w B n s) (s' : Fl) (hc : (fcells B s).setIfInBounds i u = fcells B s') (h1 : s'.sent = s.sent) (h2 : s'.written = s.written) (h3 : s'.got = s.got) (h4 : u64r s'.send) (h5 : u64r s'.recv) (h6 : u64r s'.ack) :
    FlowAt (w.setCell ⟨B.f, i, none⟩ u) B n s' :=
  { F with
    blk := hc ▸ F.blk.set_ i u
    ms := h1 ▸ F.ms.of_block (set_block F.fms)
    mw := h2 ▸ F.mw.of_block (set_block F.fmw)
    mg := h3 ▸ F.mg.of_block (set_block F.fmg)
    send := h4
    recv := h5
    ack := h6 }
theorem FlowAt.drewN {w : World} {B : FB} {n : Nat} {s : Fl} (h : FlowAt w B n s) (m : Nat) : FlowAt (w.drewN m) B n s := h.below (below_drewN' (Below.refl _ w) m)
theorem Only.drewN {S : List Nat} {w w' : World} (h : Only S w w') (n : Nat) : Only S w (w'.drewN n) := ⟨h.os, h.tape, h.output, h.size, h.block⟩
theorem turned_other {w w' : World} {b k : Nat} (h : w.mapTurned w' b) (hk : k < w.heap.size) (hne : k ≠ b) : w'.heap[k]? = w.heap[k]? := h.grown.block k hk (fun e => hne (by cases e; rfl))
theorem flow_got {w w' : World} {B : FB} {n : Nat} {s : Fl} (F : FlowAt w B n s) (ht : w.mapTurned w' B.mg) (g : Int → Bool) (hm : MapB w' B.mg (n + 1) g) : FlowAt w' B (n + 1) { s with got := g } :=
  { F with
    blk := (turned_other ht F.blk.lt F.fmg).trans F.blk
    ms := (F.ms.of_block (turned_other ht F.ms.lt F.sg)).mono (Nat.le_succ _)
    mw := (F.mw.of_block (turned_other ht F.mw.lt F.wg)).mono (Nat.le_succ _)
    mg := hm }
theorem flow_sent {w w' : World} {B : FB} {n m : Nat} {s : Fl} (F : FlowAt w B n s) (ht : w.mapTurned w' B.ms) (g : Int → Option ByteArray) (hm : MapS w' B.ms m g) (hn : n ≤ m) : FlowAt w' B m { s with sent := g } :=
  { F with
    blk := (turned_other ht F.blk.lt F.fms).trans F.blk
    ms := hm
    mw := (F.mw.of_block (turned_other ht F.mw.lt F.sw.symm)).mono hn
    mg := (F.mg.of_block (turned_other ht F.mg.lt F.sg.symm)).mono hn }
theorem not_late {p : Pk} {h : Int} (hl : lateB p h = false) : (p.timeout != 0) = false ∨ ((p.timeout != 0) = true ∧ decide (p.timeout ≤ h) = false) := by
  simp only [lateB] at hl
  cases ht : (p.timeout != 0)
  · exact .inl rfl
  · rw [ht] at hl; exact .inr ⟨rfl, by simpa using hl⟩
set_option maxRecDepth 100000 in
set_option maxHeartbeats 2000000 in
theorem recv_ord (w : World) (f ms mw mg n : Nat) (sd rv ak : Int) (st wt : Int → Option ByteArray) (gt : Int → Bool) (p : Pk) (h : Int) (F : FlowAt w ⟨f, ms, mw, mg⟩ n ⟨true, sd, rv, ak, st, wt, gt⟩) (hl : lateB p h = false) (hk : p.seq = rv) :
    Calls Tryd.prog 21 #[.pointer (some ⟨f, 0, none⟩), p.v, .int .u64 h] w fun e w' => e = .returned (.int .i64 0) ∧ FlowAt w' ⟨f, ms, mw, mg⟩ n ⟨true, sd, IntKind.u64.wrap (rv + 1), ak, st, wt, gt⟩ ∧ Only [f, ms, mw, mg] w w' := by
  obtain ⟨sq, fr, to_, dt, tm⟩ := p
  have hk' : sq = rv := hk
  have HK := Lib.hid hk'
  clear hk hk'
  have hL : (tm != 0) = false ∨ ((tm != 0) = true ∧ decide (tm ≤ h) = false) := not_late hl
  clear hl
  have HF := Lib.hid F
  have hf := F.blk.lt
  have HF1 := Lib.hid (F.alloc (.cells #[.int .u64 sq, .int .u64 fr, .int .u64 to_, .string dt, .int .u64 tm] 24))
  clear F
  have hrS := HF.out.send
  have hrW := wrap_r (rv + 1)
  have hrA := HF.out.ack
  show Calls Tryd.prog 21 #[.pointer (some ⟨f, 0, none⟩), .agg #[.int .u64 sq, .int .u64 fr, .int .u64 to_, .string dt, .int .u64 tm], .int .u64 h] w _
  rcases hL with t0 | ⟨t0, t1⟩
  all_goals
    go_enter Tryd.func21, Tryd.ntmps21
    go_upto_region 3 with fail
    have hP := Blk.new w 24 #[.int .u64 sq, .int .u64 fr, .int .u64 to_, .string dt, .int .u64 tm]
    have HL1 := Lib.hid (balloc (Below.refl _ w) (.cells #[.int .u64 sq, .int .u64 fr, .int .u64 to_, .string dt, .int .u64 tm] 24))
    generalize w.alloc (.cells #[.int .u64 sq, .int .u64 fr, .int .u64 to_, .string dt, .int .u64 tm] 24) = w1 at HF1 hP HL1 ⊢
    have HP := Lib.hid hP
    have p0 : w1.cell? ⟨w.heap.size, 0, none⟩ = some (.int .u64 sq) := hP.cell 0
    have c0 : w1.cell? ⟨f, 0, none⟩ = some (.func (.func 68) #[] #[]) := HF1.out.blk.cell 0
    have c4 : w1.cell? ⟨f, 4, none⟩ = some (.int .u64 rv) := HF1.out.blk.cell 4
    have c2 : w1.cell? ⟨f, 2, none⟩ = some (.bool true) := HF1.out.blk.cell 2
    have f4 := HF1.out.blk.frozen 4
    clear hP
    go_quiet ((go_at_call 68; exact Calls.quiet_of_same (inturn_is _ f rv sq 0 (by exact c4) (by rw [if_pos HK.out]))))
    have HR := Lib.hid (flow_set (i := 4) (u := .int .u64 (IntKind.u64.wrap (rv + 1))) (HF1.out.drewN nq) ⟨true, sd, IntKind.u64.wrap (rv + 1), ak, st, wt, gt⟩ rfl rfl rfl rfl hrS hrW hrA)
    have HO := Lib.hid (((Only.of_below (S := [f, ms, mw, mg]) HL1.out).drewN nq).set_ (g := f) (i := 4) (by simp) (.int .u64 (IntKind.u64.wrap (rv + 1))))
    go_wp2_with fail
    go_ret
    exact ⟨rfl, HR.out, HO.out⟩
set_option maxRecDepth 100000 in
set_option maxHeartbeats 2000000 in
theorem recv_ordno (w : World) (f ms mw mg n : Nat) (sd rv ak : Int) (st wt : Int → Option ByteArray) (gt : Int → Bool) (p : Pk) (h : Int) (F : FlowAt w ⟨f, ms, mw, mg⟩ n ⟨true, sd, rv, ak, st, wt, gt⟩) (hl : lateB p h = false) (hk : p.seq ≠ rv) :
    Calls Tryd.prog 21 #[.pointer (some ⟨f, 0, none⟩), p.v, .int .u64 h] w fun e w' => e = .returned (.int .i64 183) ∧ Below w.heap.size w w' := by
  obtain ⟨sq, fr, to_, dt, tm⟩ := p
  have hk' : sq ≠ rv := hk
  have HK := Lib.hid hk'
  clear hk hk'
  have hL : (tm != 0) = false ∨ ((tm != 0) = true ∧ decide (tm ≤ h) = false) := not_late hl
  clear hl
  have HF := Lib.hid F
  have hf := F.blk.lt
  have HF1 := Lib.hid (F.alloc (.cells #[.int .u64 sq, .int .u64 fr, .int .u64 to_, .string dt, .int .u64 tm] 24))
  clear F
  show Calls Tryd.prog 21 #[.pointer (some ⟨f, 0, none⟩), .agg #[.int .u64 sq, .int .u64 fr, .int .u64 to_, .string dt, .int .u64 tm], .int .u64 h] w _
  rcases hL with t0 | ⟨t0, t1⟩
  all_goals
    go_enter Tryd.func21, Tryd.ntmps21
    go_upto_region 3 with fail
    have hP := Blk.new w 24 #[.int .u64 sq, .int .u64 fr, .int .u64 to_, .string dt, .int .u64 tm]
    have HL1 := Lib.hid (balloc (Below.refl _ w) (.cells #[.int .u64 sq, .int .u64 fr, .int .u64 to_, .string dt, .int .u64 tm] 24))
    generalize w.alloc (.cells #[.int .u64 sq, .int .u64 fr, .int .u64 to_, .string dt, .int .u64 tm] 24) = w1 at HF1 hP HL1 ⊢
    have HP := Lib.hid hP
    have p0 : w1.cell? ⟨w.heap.size, 0, none⟩ = some (.int .u64 sq) := hP.cell 0
    have c0 : w1.cell? ⟨f, 0, none⟩ = some (.func (.func 68) #[] #[]) := HF1.out.blk.cell 0
    have c4 : w1.cell? ⟨f, 4, none⟩ = some (.int .u64 rv) := HF1.out.blk.cell 4
    have c2 : w1.cell? ⟨f, 2, none⟩ = some (.bool true) := HF1.out.blk.cell 2
    have f4 := HF1.out.blk.frozen 4
    clear hP
    go_quiet ((go_at_call 68; exact Calls.quiet_of_same (inturn_is _ f rv sq 183 (by exact c4) (by rw [if_neg HK.out]))))
    go_wp2_with fail
    go_ret
    exact ⟨rfl, below_drewN' HL1.out nq⟩
set_option maxRecDepth 100000 in
set_option maxHeartbeats 2000000 in
theorem recv_unno (w : World) (f ms mw mg n : Nat) (sd rv ak : Int) (st wt : Int → Option ByteArray) (gt : Int → Bool) (p : Pk) (h : Int) (F : FlowAt w ⟨f, ms, mw, mg⟩ n ⟨false, sd, rv, ak, st, wt, gt⟩) (hl : lateB p h = false) (hq : u64r p.seq) (hk : p.seq = 0 ∨ gt p.seq = true) :
    Calls Tryd.prog 21 #[.pointer (some ⟨f, 0, none⟩), p.v, .int .u64 h] w fun e w' => e = .returned (.int .i64 184) ∧ Below w.heap.size w w' := by
  obtain ⟨sq, fr, to_, dt, tm⟩ := p
  have hk' : sq = 0 ∨ gt sq = true := hk
  have hq' : u64r sq := hq
  clear hq
  have HK := Lib.hid hk'
  clear hk hk'
  have hL : (tm != 0) = false ∨ ((tm != 0) = true ∧ decide (tm ≤ h) = false) := not_late hl
  clear hl
  have HF := Lib.hid F
  have hf := F.blk.lt
  have HF1 := Lib.hid (F.alloc (.cells #[.int .u64 sq, .int .u64 fr, .int .u64 to_, .string dt, .int .u64 tm] 24))
  clear F
  show Calls Tryd.prog 21 #[.pointer (some ⟨f, 0, none⟩), .agg #[.int .u64 sq, .int .u64 fr, .int .u64 to_, .string dt, .int .u64 tm], .int .u64 h] w _
  rcases hL with t0 | ⟨t0, t1⟩
  all_goals
    go_enter Tryd.func21, Tryd.ntmps21
    go_upto_region 3 with fail
    have hP := Blk.new w 24 #[.int .u64 sq, .int .u64 fr, .int .u64 to_, .string dt, .int .u64 tm]
    have HL1 := Lib.hid (balloc (Below.refl _ w) (.cells #[.int .u64 sq, .int .u64 fr, .int .u64 to_, .string dt, .int .u64 tm] 24))
    generalize w.alloc (.cells #[.int .u64 sq, .int .u64 fr, .int .u64 to_, .string dt, .int .u64 tm] 24) = w1 at HF1 hP HL1 ⊢
    have HP := Lib.hid hP
    have p0 : w1.cell? ⟨w.heap.size, 0, none⟩ = some (.int .u64 sq) := hP.cell 0
    have c0 : w1.cell? ⟨f, 0, none⟩ = some (.func (.func 70) #[] #[]) := HF1.out.blk.cell 0
    have c8 : w1.cell? ⟨f, 8, none⟩ = some (.map (some mg)) := HF1.out.blk.cell 8
    have c2 : w1.cell? ⟨f, 2, none⟩ = some (.bool false) := HF1.out.blk.cell 2
    have f4 := HF1.out.blk.frozen 4
    clear hP
    go_quiet ((go_at_call 70; exact Calls.quiet_of_same (once_is _ f mg n gt sq 184 hq' (by exact c8) (by exact HF1.out.mg) (by rw [if_pos HK.out]))))
    go_wp2_with fail
    go_ret
    exact ⟨rfl, below_drewN' HL1.out nq⟩
set_option maxRecDepth 100000 in
set_option maxHeartbeats 2000000 in
theorem recv_un (w : World) (f ms mw mg n : Nat) (sd rv ak : Int) (st wt : Int → Option ByteArray) (gt : Int → Bool) (p : Pk) (h : Int) (F : FlowAt w ⟨f, ms, mw, mg⟩ n ⟨false, sd, rv, ak, st, wt, gt⟩) (hl : lateB p h = false) (hq : u64r p.seq) (hk : ¬ (p.seq = 0 ∨ gt p.seq = true)) (hn : n < maxLen) :
    Calls Tryd.prog 21 #[.pointer (some ⟨f, 0, none⟩), p.v, .int .u64 h] w fun e w' => e = .returned (.int .i64 0) ∧ FlowAt w' ⟨f, ms, mw, mg⟩ (n + 1) ⟨false, sd, rv, ak, st, wt, upd gt p.seq true⟩ ∧ Only [f, ms, mw, mg] w w' := by
  obtain ⟨sq, fr, to_, dt, tm⟩ := p
  have hk' : ¬ (sq = 0 ∨ gt sq = true) := hk
  have hq' : u64r sq := hq
  clear hq
  have HK := Lib.hid hk'
  clear hk hk'
  have hL : (tm != 0) = false ∨ ((tm != 0) = true ∧ decide (tm ≤ h) = false) := not_late hl
  clear hl
  have HF := Lib.hid F
  have hf := F.blk.lt
  have HF1 := Lib.hid (F.alloc (.cells #[.int .u64 sq, .int .u64 fr, .int .u64 to_, .string dt, .int .u64 tm] 24))
  clear F
  show Calls Tryd.prog 21 #[.pointer (some ⟨f, 0, none⟩), .agg #[.int .u64 sq, .int .u64 fr, .int .u64 to_, .string dt, .int .u64 tm], .int .u64 h] w _
  rcases hL with t0 | ⟨t0, t1⟩
  all_goals
    go_enter Tryd.func21, Tryd.ntmps21
    go_upto_region 3 with fail
    have hP := Blk.new w 24 #[.int .u64 sq, .int .u64 fr, .int .u64 to_, .string dt, .int .u64 tm]
    have HL1 := Lib.hid (balloc (Below.refl _ w) (.cells #[.int .u64 sq, .int .u64 fr, .int .u64 to_, .string dt, .int .u64 tm] 24))
    generalize w.alloc (.cells #[.int .u64 sq, .int .u64 fr, .int .u64 to_, .string dt, .int .u64 tm] 24) = w1 at HF1 hP HL1 ⊢
    have HP := Lib.hid hP
    have p0 : w1.cell? ⟨w.heap.size, 0, none⟩ = some (.int .u64 sq) := hP.cell 0
    have c0 : w1.cell? ⟨f, 0, none⟩ = some (.func (.func 70) #[] #[]) := HF1.out.blk.cell 0
    have c8 : w1.cell? ⟨f, 8, none⟩ = some (.map (some mg)) := HF1.out.blk.cell 8
    have c2 : w1.cell? ⟨f, 2, none⟩ = some (.bool false) := HF1.out.blk.cell 2
    have f4 := HF1.out.blk.frozen 4
    clear hP
    go_quiet ((go_at_call 70; exact Calls.quiet_of_same (once_is _ f mg n gt sq 0 hq' (by exact c8) (by exact HF1.out.mg) (by rw [if_neg HK.out]))))
    have HF2 := Lib.hid (HF1.out.drewN nq)
    have hP2 : Blk (w1.drewN nq) w.heap.size 24 #[.int .u64 sq, .int .u64 fr, .int .u64 to_, .string dt, .int .u64 tm] := HP.out
    have HO2 := Lib.hid ((Only.of_below (S := [f, ms, mw, mg]) HL1.out).drewN nq)
    clear p0 c0 c8 c2 f4 HF1 HP
    generalize w1.drewN nq = w2 at HF2 hP2 HO2 ⊢
    have c2 : w2.cell? ⟨f, 2, none⟩ = some (.bool false) := HF2.out.blk.cell 2
    have p0 : w2.cell? ⟨w.heap.size, 0, none⟩ = some (.int .u64 sq) := hP2.cell 0
    have c8 : w2.cell? ⟨f, 8, none⟩ = some (.map (some mg)) := HF2.out.blk.cell 8
    clear hP2
    obtain ⟨w4, hrun, hm4, ht4⟩ := HF2.out.drew.mg.store hq' true hn
    have HR := Lib.hid (flow_got HF2.out.drew ht4 _ hm4)
    have HO := Lib.hid (HO2.out.drew.turned ht4 (by simp))
    clear hm4 ht4 HF2 HO2
    go_upto_region 8 with fail
    go_region
    go_wp2_with fail
    go_ret
    exact ⟨rfl, HR.out, HO.out⟩
end Go.Proofs.YtpekbnkmnellpaaDoor
