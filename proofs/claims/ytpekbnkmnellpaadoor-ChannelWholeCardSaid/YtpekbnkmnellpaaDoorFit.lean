/-
  The walk of voussoirlaw18.fit.
-/
import Derived.Test.YtpekbnkmnellpaaDoorChanP
import Derived.Test.YtpekbnkmnellpaaDoorFlowU
import Derived.Test.YtpekbnkmnellpaaDoorAwakeW
namespace Go.Proofs.YtpekbnkmnellpaaDoor
open Go.RowKit
set_option linter.unusedVariables false

def p16 (p : ByteArray) : ByteArray := p.extract 0 (min (p.size : Int) 16).toNat
theorem p16_le (p : ByteArray) : (p16 p).size ≤ 16 := by
  unfold p16
  have := ext_size p (min (p.size : Int) 16).toNat
  omega
def Ch.fit (c : Ch) : Ch := ⟨1 + pickI c.state 4, c.ordered, c.link, if 1 + pickI c.state 4 = 1 then 0 else c.peer, p16 c.port, p16 c.pport⟩
theorem fit_ok (c : Ch) (h : c.ok) : c.fit.ok := by
  have hp := pickI_r c.state 4 (by omega)
  refine ⟨⟨?_, ?_⟩, h.link, ?_, Nat.le_trans (p16_le _) (by omega), Nat.le_trans (p16_le _) (by omega)⟩
  · show -9223372036854775808 ≤ 1 + pickI c.state 4; omega
  · show 1 + pickI c.state 4 ≤ 9223372036854775807; omega
  · show u64r (if 1 + pickI c.state 4 = 1 then 0 else c.peer)
    split
    · exact ⟨by omega, by omega⟩
    · exact h.peer
theorem fit_right (c : Ch) : c.fit.rightB = true := by
  have hp := pickI_r c.state 4 (by omega)
  have h1 := p16_le c.port
  have h2 := p16_le c.pport
  have e1 : decide (1 ≤ 1 + pickI c.state 4) = true := by simp; omega
  have e2 : decide (1 + pickI c.state 4 ≤ 4) = true := by simp; omega
  show (decide (1 ≤ 1 + pickI c.state 4) && decide (1 + pickI c.state 4 ≤ 4) && decide ((p16 c.port).size ≤ 16) && decide ((p16 c.pport).size ≤ 16) && (1 + pickI c.state 4 != 1 || (if 1 + pickI c.state 4 = 1 then (0 : Int) else c.peer) == 0)) = true
  rw [e1, e2, decide_eq_true h1, decide_eq_true h2]
  by_cases e : 1 + pickI c.state 4 = 1
  · rw [if_pos e]; simp
  · have : (1 + pickI c.state 4 != 1) = true := by simpa using e
    rw [this]; rfl
set_option maxRecDepth 100000 in
set_option maxHeartbeats 1000000 in
theorem fit_is (c : Ch) (w : World) (hc : c.ok) :
    Calls Tryd.prog 47 #[c.v] w fun e w' => e = .returned c.fit.v ∧ Below w.heap.size w w' := by
  have HV : Hid (c.fit.v = .agg #[.int .i64 (1 + pickI c.state 4), .bool c.ordered, .int .u64 c.link, .int .u64 (if 1 + pickI c.state 4 = 1 then 0 else c.peer), .string (p16 c.port), .string (p16 c.pport)]) := Lib.hid rfl
  obtain ⟨st, o, lk, pr, p, q⟩ := c
  have hs1 : -9223372036854775808 ≤ st := hc.state.1
  have hs2 : st ≤ 9223372036854775807 := hc.state.2
  have hp : p.size ≤ 140737488351232 := hc.port
  have hq : q.size ≤ 140737488351232 := hc.pport
  clear hc
  have hpk := pickI_r st 4 (by omega)
  have HPk := Lib.hid (fun W => pick_is st 4 W hs1 hs2 (by omega) (by omega))
  show Calls Tryd.prog 47 #[.agg #[.int .i64 st, .bool o, .int .u64 lk, .int .u64 pr, .string p, .string q]] w _
  generalize pickI st 4 = k at hpk HPk HV
  have hk0 := hpk.1
  have hk4 : k < 4 := hpk.2
  clear hpk
  by_cases h1 : k = 0
  · have HV2 : Hid ((Ch.fit ⟨st, o, lk, pr, p, q⟩).v = .agg #[.int .i64 (1 + k), .bool o, .int .u64 lk, .int .u64 0, .string (p.extract 0 (min (p.size : Int) 16).toNat), .string (q.extract 0 (min (q.size : Int) 16).toNat)]) := Lib.hid (by rw [HV.out, if_pos (by omega)]; rfl)
    have t1 : ((1 + k) == 1) = true := by simp [h1]
    clear HV h1
    go_enter Tryd.func47, Tryd.ntmps47
    go_wp2_with fail
    refine (HPk.out _).mono ?_
    rintro e w' ⟨rfl, rfl⟩
    go_wp2_with fail
    refine bodyPost_ret (v := .agg #[.int .i64 (1 + k), .bool o, .int .u64 lk, .int .u64 0, .string (p.extract 0 (min (p.size : Int) 16).toNat), .string (q.extract 0 (min (q.size : Int) 16).toNat)]) (by simp [results, Tryd.results47, go_sem]) rfl ⟨by rw [HV2.out], ?_⟩
    exact balloc (balloc (Below.refl _ w) _) _
  · have HV2 : Hid ((Ch.fit ⟨st, o, lk, pr, p, q⟩).v = .agg #[.int .i64 (1 + k), .bool o, .int .u64 lk, .int .u64 pr, .string (p.extract 0 (min (p.size : Int) 16).toNat), .string (q.extract 0 (min (q.size : Int) 16).toNat)]) := Lib.hid (by rw [HV.out, if_neg (by omega)]; rfl)
    have t1 : ((1 + k) == 1) = false := by simp; omega
    clear HV
    go_enter Tryd.func47, Tryd.ntmps47
    go_wp2_with fail
    refine (HPk.out _).mono ?_
    rintro e w' ⟨rfl, rfl⟩
    go_wp2_with fail
    refine bodyPost_ret (v := .agg #[.int .i64 (1 + k), .bool o, .int .u64 lk, .int .u64 pr, .string (p.extract 0 (min (p.size : Int) 16).toNat), .string (q.extract 0 (min (q.size : Int) 16).toNat)]) (by simp [results, Tryd.results47, go_sem]) rfl ⟨by rw [HV2.out], ?_⟩
    exact balloc (balloc (Below.refl _ w) _) _
end Go.Proofs.YtpekbnkmnellpaaDoor
