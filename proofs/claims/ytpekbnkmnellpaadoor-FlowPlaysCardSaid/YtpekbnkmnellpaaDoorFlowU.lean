/-
  One contract for each of a flow's methods, whatever the state: the flow as a plain machine.
-/
import Derived.Test.YtpekbnkmnellpaaDoorFlowW
import Derived.Test.YtpekbnkmnellpaaDoorRegAll
namespace Go.Proofs.YtpekbnkmnellpaaDoor
open Go.RowKit Go.Maps
set_option linter.unusedVariables false

def pickI (c n : Int) : Int := (if c < 0 then -(c + 1) else c) % n
theorem pickI_r (c n : Int) (hn : 0 < n) : 0 ≤ pickI c n ∧ pickI c n < n := ⟨Int.emod_nonneg _ (by omega), Int.emod_lt_of_pos _ hn⟩
set_option maxHeartbeats 1000000 in
theorem pick_is (c n : Int) (w : World) (h1 : -9223372036854775808 ≤ c) (h2 : c ≤ 9223372036854775807) (hn : 0 < n) (hn2 : n ≤ 4611686018427387904) :
    Calls Tryd.prog 20 #[.int .i64 c, .int .i64 n] w fun e w' => e = .returned (.int .i64 (pickI c n)) ∧ w = w' := by
  by_cases hc : c < 0
  · have HP : Hid (pickI c n = -(c + 1).tmod n) := Lib.hid (by unfold pickI; rw [if_pos hc, ← Int.neg_tmod, Int.tmod_eq_emod_of_nonneg (by omega)])
    go_enter Tryd.func20, Tryd.ntmps20
    go_wp2_with fail
    go_ret
    exact ⟨by rw [HP.out]; rfl, rfl⟩
  · have HP : Hid (pickI c n = c % n) := Lib.hid (by unfold pickI; rw [if_neg hc])
    go_enter Tryd.func20, Tryd.ntmps20
    go_wp2_with fail
    go_ret
    exact ⟨by rw [HP.out]; rfl, rfl⟩
/-- is a packet under way? -/
def Fl.keptB (s : Fl) (p : Pk) : Bool := match s.sent p.seq with
  | some c => c.toList == p.comm.toList
  | none => false
set_option maxRecDepth 100000 in
set_option maxHeartbeats 1000000 in
theorem kept_is (w : World) (G : Glob w) (B : FB) (n : Nat) (s : Fl) (p : Pk) (F : FlowAt w B n s) (hp : p.ok) :
    Calls Tryd.prog 72 #[.pointer (some ⟨B.f, 0, none⟩), p.v] w fun e w' => e = .returned (.bool (s.keptB p)) ∧ Below w.heap.size w w' := by
  obtain ⟨kb, hkb⟩ : ∃ kb, s.keptB p = kb := ⟨_, rfl⟩
  rw [hkb]
  have HKB := Lib.hid hkb
  clear hkb
  obtain ⟨sq, fr, to_, dt, tm⟩ := p
  have HG := Lib.hid G
  have HF := Lib.hid F
  have HP := Lib.hid hp
  have hq : u64r sq := hp.seq
  have hb := balloc (Below.refl _ w) (.cells #[.int .u64 sq, .int .u64 fr, .int .u64 to_, .string dt, .int .u64 tm] 24)
  have hB := Blk.new w 24 #[.int .u64 sq, .int .u64 fr, .int .u64 to_, .string dt, .int .u64 tm]
  have F1 := F.alloc (.cells #[.int .u64 sq, .int .u64 fr, .int .u64 to_, .string dt, .int .u64 tm] 24)
  have G1 := G.alloc (.cells #[.int .u64 sq, .int .u64 fr, .int .u64 to_, .string dt, .int .u64 tm] 24)
  clear G F hp
  show Calls Tryd.prog 72 #[.pointer (some ⟨B.f, 0, none⟩), .agg #[.int .u64 sq, .int .u64 fr, .int .u64 to_, .string dt, .int .u64 tm]] w _
  go_enter Tryd.func72, Tryd.ntmps72
  go_wp2_with fail
  generalize w.alloc (.cells #[.int .u64 sq, .int .u64 fr, .int .u64 to_, .string dt, .int .u64 tm] 24) = w1 at hb hB F1 G1 ⊢
  have c6 : w1.cell? ⟨B.f, 6, none⟩ = some (.map (some B.ms)) := F1.blk.cell 6
  have p0 : w1.cell? ⟨w.heap.size, 0, none⟩ = some (.int .u64 sq) := hB.cell 0
  have HF1 := Lib.hid F1
  have HG1 := Lib.hid G1
  have HB := Lib.hid hB
  have HL := Lib.hid hb
  clear F1 G1 hB hb
  obtain ⟨o, ho⟩ : ∃ o, s.sent sq = o := ⟨_, rfl⟩
  have hl : ∀ m : Nat, (Instr.lookup 91 (.map (some B.ms)) (.int .u64 sq) true).run Tryd.prog (w1.drewN m) = .ok (.tuple #[.string (o.getD ByteArray.empty), .bool o.isSome]) (w1.drewN m) := fun m => by
    rw [← ho]
    exact (HF1.out.drewN m).ms.look hq
  have HO := Lib.hid ho
  clear ho
  go_quiet (fail)
  clear hl c6 p0
  have HL2 := Lib.hid (below_drewN' HL.out nq)
  have HB2 : Hid (Blk (w1.drewN nq) w.heap.size 24 #[.int .u64 sq, .int .u64 fr, .int .u64 to_, .string dt, .int .u64 tm]) := Lib.hid HB.out
  have HG2 : Hid (Glob (w1.drewN nq)) := Lib.hid ⟨HG1.out.k, HG1.out.first⟩
  clear HL HB HG1 HF1
  generalize w1.drewN nq = w2 at HL2 HB2 HG2 ⊢
  have p0 : w2.cell? ⟨w.heap.size, 0, none⟩ = some (.int .u64 sq) := HB2.out.cell 0
  have p1 : w2.cell? ⟨w.heap.size, 1, none⟩ = some (.int .u64 fr) := HB2.out.cell 1
  have p2 : w2.cell? ⟨w.heap.size, 2, none⟩ = some (.int .u64 to_) := HB2.out.cell 2
  have p3 : w2.cell? ⟨w.heap.size, 3, none⟩ = some (.string dt) := HB2.out.cell 3
  have p4 : w2.cell? ⟨w.heap.size, 4, none⟩ = some (.int .u64 tm) := HB2.out.cell 4
  cases o with
  | none =>
    have HK2 : Hid (kb = false) := Lib.hid (by rw [← HKB.out]; unfold Fl.keptB; rw [show s.sent (Pk.mk sq fr to_ dt tm).seq = none from HO.out])
    simp only [Option.getD_none, Option.isSome_none]
    go_wp2_with fail
    go_ret
    exact ⟨by rw [HK2.out]; rfl, HL2.out⟩
  | some c =>
    have HK2 : Hid (kb = (c.toList == (Pk.mk sq fr to_ dt tm).comm.toList)) := Lib.hid (by rw [← HKB.out]; unfold Fl.keptB; rw [show s.sent (Pk.mk sq fr to_ dt tm).seq = some c from HO.out])
    simp only [Option.getD_some, Option.isSome_some]
    go_wp2_with fail
    refine (commitment_is ⟨sq, fr, to_, dt, tm⟩ w2 HG2.out HP.out).mono ?_
    rintro e w3 ⟨rfl, hb3⟩
    have HL3 := Lib.hid (bstep HL2.out hb3)
    clear hb3 p0 p1 p2 p3 p4
    generalize (Pk.mk sq fr to_ dt tm).comm = cm at HK2 ⊢
    go_wp2_with fail
    go_ret
    exact ⟨by rw [HK2.out]; rfl, HL3.out⟩
/-- a flow without a packet -/
def Fl.drops (s : Fl) (k : Int) : Fl := { s with sent := upd s.sent k none }
set_option maxRecDepth 100000 in
set_option maxHeartbeats 1000000 in
theorem timeout_is (w : World) (G : Glob w) (B : FB) (n : Nat) (s : Fl) (p : Pk) (F : FlowAt w B n s) (hp : p.ok) (kb : Bool) (hkb : s.keptB p = kb) :
    Calls Tryd.prog 26 #[.pointer (some ⟨B.f, 0, none⟩), p.v] w fun e w' => e = .returned (.int .i64 (if kb then 0 else 185)) ∧ FlowAt w' B n (if kb then s.drops p.seq else s) ∧ Only B.l w w' := by
  have HKB := Lib.hid hkb
  clear hkb
  obtain ⟨sq, fr, to_, dt, tm⟩ := p
  have HG := Lib.hid G
  have HF := Lib.hid F
  have HP := Lib.hid hp
  have hq : u64r sq := hp.seq
  have hb := balloc (Below.refl _ w) (.cells #[.int .u64 sq, .int .u64 fr, .int .u64 to_, .string dt, .int .u64 tm] 24)
  have hB := Blk.new w 24 #[.int .u64 sq, .int .u64 fr, .int .u64 to_, .string dt, .int .u64 tm]
  have F1 := F.alloc (.cells #[.int .u64 sq, .int .u64 fr, .int .u64 to_, .string dt, .int .u64 tm] 24)
  have G1 := G.alloc (.cells #[.int .u64 sq, .int .u64 fr, .int .u64 to_, .string dt, .int .u64 tm] 24)
  clear G F hp
  show Calls Tryd.prog 26 #[.pointer (some ⟨B.f, 0, none⟩), .agg #[.int .u64 sq, .int .u64 fr, .int .u64 to_, .string dt, .int .u64 tm]] w fun e w' => e = .returned (.int .i64 (if kb then 0 else 185)) ∧ FlowAt w' B n (if kb then s.drops sq else s) ∧ Only B.l w w'
  go_enter Tryd.func26, Tryd.ntmps26
  go_wp2_with fail
  generalize w.alloc (.cells #[.int .u64 sq, .int .u64 fr, .int .u64 to_, .string dt, .int .u64 tm] 24) = w1 at hb hB F1 G1 ⊢
  have p0 : w1.cell? ⟨w.heap.size, 0, none⟩ = some (.int .u64 sq) := hB.cell 0
  have p1 : w1.cell? ⟨w.heap.size, 1, none⟩ = some (.int .u64 fr) := hB.cell 1
  have p2 : w1.cell? ⟨w.heap.size, 2, none⟩ = some (.int .u64 to_) := hB.cell 2
  have p3 : w1.cell? ⟨w.heap.size, 3, none⟩ = some (.string dt) := hB.cell 3
  have p4 : w1.cell? ⟨w.heap.size, 4, none⟩ = some (.int .u64 tm) := hB.cell 4
  have HF1 := Lib.hid F1
  have HG1 := Lib.hid G1
  have HB := Lib.hid hB
  have HL := Lib.hid hb
  clear F1 G1 hB hb
  go_wp2_with fail
  refine (kept_is w1 HG1.out B n s ⟨sq, fr, to_, dt, tm⟩ HF1.out HP.out).mono ?_
  rw [HKB.out]
  rintro e w2 ⟨rfl, hb2⟩
  have HF2 := Lib.hid (HF1.out.below hb2)
  have HB2 := Lib.hid (HB.out.below hb2)
  have HL2 := Lib.hid (bstep HL.out hb2)
  clear hb2 p0 p1 p2 p3 p4 HF1 HG1 HB HL
  cases kb with
  | false =>
    go_wp2_with fail
    go_ret
    exact ⟨rfl, HF2.out, Only.of_below HL2.out⟩
  | true =>
    have c6 : w2.cell? ⟨B.f, 6, none⟩ = some (.map (some B.ms)) := HF2.out.blk.cell 6
    have p0 : w2.cell? ⟨w.heap.size, 0, none⟩ = some (.int .u64 sq) := HB2.out.cell 0
    obtain ⟨w4, hrun, hm4, ht4⟩ := HF2.out.drew.ms.drop hq 0
    have HR := Lib.hid (flow_sent HF2.out.drew ht4 _ hm4 (Nat.le_refl _))
    have HO := Lib.hid ((Only.of_below (S := B.l) HL2.out).drew.turned ht4 (by simp [FB.l]))
    clear hm4 ht4 HF2 HL2 HB2
    go_upto_region 3 with fail
    go_region
    go_wp2_with fail
    go_ret
    exact ⟨rfl, HR.out, HO.out⟩
end Go.Proofs.YtpekbnkmnellpaaDoor
