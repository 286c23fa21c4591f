/-
  The walks of codec's value and Reader.
-/
import Derived.Test.YtpekbnkmnellpaaDoorCodecMath
import Derived.Test.YtpekbnkmnellpaaDoorFlowR
import Derived.Laws.IdiomStrings
import Derived.Laws.BitsAllLaws
namespace Go.Proofs.YtpekbnkmnellpaaDoor
open Go.RowKit
set_option linter.unusedVariables false

theorem valF_snoc (l : List UInt8) (b : UInt8) : valF 0 (l ++ [b]) = valF 0 l * 256 + b.toNat := by simp [valF]
theorem valF_lt' : ∀ (l : List UInt8) (a : Nat), valF a l < (a + 1) * 256 ^ l.length
  | [], a => by simp [valF]
  | b :: l, a => by
    have ih := valF_lt' l (a * 256 + b.toNat)
    have hb := b.toNat_lt
    show valF (a * 256 + b.toNat) l < (a + 1) * 256 ^ (l.length + 1)
    have : (a * 256 + b.toNat + 1) * 256 ^ l.length ≤ (a + 1) * 256 * 256 ^ l.length := Nat.mul_le_mul_right _ (by omega)
    rw [Nat.pow_succ, Nat.mul_comm (256 ^ l.length) 256, ← Nat.mul_assoc]
    omega
theorem valF_lt (l : List UInt8) : valF 0 l < 256 ^ l.length := by simpa using valF_lt' l 0
theorem or_low (N c : Nat) (hc : c < 256) (hN : N < 72057594037927936) : bits .or .u64 ((N * 256 : Nat) : Int) (c : Int) = ((N * 256 + c : Nat) : Int) := by
  rw [u64_or_nat _ _ (by omega) (by omega)]
  congr 1
  have := Nat.two_pow_add_eq_or_of_lt (i := 8) (b := c) (by simpa using hc) N
  rw [Nat.mul_comm N 256]
  simpa using this.symm
set_option maxRecDepth 100000 in
set_option maxHeartbeats 1000000 in
theorem value_is (s : ByteArray) (hs : s.size ≤ 8) (w : World) :
    Calls Tryd.prog 100 #[.string s] w fun e w' => e = .returned (.int .u64 (valF 0 s.data.toList : Nat)) ∧ Below w.heap.size w w' := by
  have hcv := fun W => run_bytes_of_string (P := Tryd.prog) W 9 89 5 s Tryd.underlying9 Tryd.underlying89 Tryd.underlying5
  go_enter Tryd.func100, Tryd.ntmps100
  go_wp2_with fail
  clear hcv
  have hL : Below w.heap.size w (w.alloc (.cells (bytesRow s (grownCap w s.size 0 5)) 5 ((bytesRow s (grownCap w s.size 0 5)).size, (bytesRow s (grownCap w s.size 0 5)).size + 1))).drew := (balloc (Below.refl _ w) _).drew
  have hC : ∀ j (h : j < s.size), ((w.alloc (.cells (bytesRow s (grownCap w s.size 0 5)) 5 ((bytesRow s (grownCap w s.size 0 5)).size, (bytesRow s (grownCap w s.size 0 5)).size + 1))).drew).cell? ⟨w.heap.size, j, none⟩ = some (.int .u8 (s.data[j].toNat : Int)) := fun j h => by
    have hb := heap_alloc_new w (.cells (bytesRow s (grownCap w s.size 0 5)) 5 ((bytesRow s (grownCap w s.size 0 5)).size, (bytesRow s (grownCap w s.size 0 5)).size + 1))
    show World.cell? (w.alloc _) ⟨w.heap.size, j, none⟩ = _
    rw [cell_of_row _ w.heap.size j _ _ _ hb]
    exact bytesRow_at s _ j h
  generalize grownCap w s.size 0 5 = cap at hL hC ⊢
  have HL := Lib.hid hL
  have HC := Lib.hid hC
  clear hL hC
  generalize (w.alloc (.cells (bytesRow s cap) 5 ((bytesRow s cap).size, (bytesRow s cap).size + 1))).drew = w1 at HL HC ⊢
  generalize w.heap.size = g at HC ⊢
  go_loopg [2, 8] s.size (fun c n i wr => ∃ j : Nat, j ≤ s.size ∧ c = s.size - j ∧ i = .int .i64 j ∧ n = .int .u64 (valF 0 (s.data.toList.take j) : Nat) ∧ wr = w1)
  case atStart => exact ⟨0, by omega, rfl, rfl, rfl, rfl⟩
  case round =>
    obtain ⟨j, hj, hk, rfl, rfl, rfl⟩ := hrel
    have HK := Lib.hid hk
    clear hk
    by_cases hlt : j < s.size
    · have hc := HC.out j hlt
      have hv := valF_lt (s.data.toList.take j)
      have hlen : (s.data.toList.take j).length = j := by rw [List.length_take, len_data]; omega
      rw [hlen] at hv
      have hpow : (256 : Nat) ^ j ≤ 256 ^ 7 := Nat.pow_le_pow_right (by omega) (by omega)
      have HT : Hid (valF 0 (s.data.toList.take (j + 1)) = valF 0 (s.data.toList.take j) * 256 + s.data[j].toNat) := Lib.hid (by
        rw [List.take_succ_eq_append_getElem (by rw [len_data]; exact hlt), valF_snoc]; rfl)
      have hcb := (s.data[j]).toNat_lt
      obtain ⟨c, hcc⟩ : ∃ c, (s.data[j]).toNat = c := ⟨_, rfl⟩
      rw [hcc] at hc HT hcb
      clear hcc hlen
      generalize valF 0 (s.data.toList.take j) = V at hv HT ⊢
      have hV : V < 72057594037927936 := by omega
      clear hv hpow
      have HO : Hid (bits .or .u64 ((V : Int) * 256) (c : Int) = ((V * 256 + c : Nat) : Int)) := Lib.hid (by
        have := or_low V c (by omega) hV
        rw [Int.natCast_mul] at this
        exact this)
      go_wp2_with fail
      go_roundg (s.size - (j + 1))
      case measure => rw [HK.out]; omega
      case rel => exact ⟨j + 1, by omega, rfl, by go_num, by rw [HT.out, HO.out], rfl⟩
    · go_wp2_with fail
      go_ret
      have e : j = s.size := by omega
      exact ⟨by rw [e, List.take_of_length_le (by rw [len_data]; omega)]; rfl, HL.out⟩
/-- the reader in block g: what is left, is it bad? -/
def Rd (w : World) (g : Nat) (s : ByteArray) (b : Bool) : Prop := Blk w g 130 #[.string s, .bool b]
/-- a reader's state -/
structure RS where
  rest : ByteArray
  bad : Bool
def RS.cutBad (r : RS) (n : Nat) : Bool := r.bad || decide (r.rest.size < n)
def RS.cutV (r : RS) (n : Nat) : ByteArray := if r.cutBad n then ⟨#[]⟩ else r.rest.extract 0 n
def RS.cut (r : RS) (n : Nat) : RS := ⟨if r.cutBad n then r.rest else r.rest.extract n r.rest.size, r.cutBad n⟩
set_option maxRecDepth 100000 in
set_option maxHeartbeats 1000000 in
theorem cut_is (w : World) (g : Nat) (r : RS) (n : Nat) (h : Rd w g r.rest r.bad) (hs : r.rest.size ≤ 140737488355328) (hn : n ≤ 4294967296) :
    Calls Tryd.prog 99 #[.pointer (some ⟨g, 0, none⟩), .int .i64 n] w fun e w' => e = .returned (.string (r.cutV n)) ∧ Rd w' g (r.cut n).rest (r.cut n).bad ∧ Only [g] w w' := by
  obtain ⟨s, b⟩ := r
  have HB : Hid (Blk w g 130 #[.string s, .bool b]) := Lib.hid h
  have hs' : s.size ≤ 140737488355328 := hs
  clear h hs
  have c0 : w.cell? ⟨g, 0, none⟩ = some (.string s) := HB.out.cell 0
  have c1 : w.cell? ⟨g, 1, none⟩ = some (.bool b) := HB.out.cell 1
  have f0 := HB.out.frozen 0
  have f1 := HB.out.frozen 1
  show Calls Tryd.prog 99 #[.pointer (some ⟨g, 0, none⟩), .int .i64 n] w _
  cases b with
  | true =>
    have HV : Hid (RS.cutV ⟨s, true⟩ n = ⟨#[]⟩ ∧ (RS.cut ⟨s, true⟩ n).rest = s ∧ (RS.cut ⟨s, true⟩ n).bad = true) := Lib.hid ⟨rfl, rfl, rfl⟩
    have HR := Lib.hid (HB.out.set_ 1 (.bool true))
    go_enter Tryd.func99, Tryd.ntmps99
    go_wp2_with fail
    go_ret
    exact ⟨by rw [HV.out.1]; rfl, by rw [HV.out.2.1, HV.out.2.2]; exact HR.out, (Only.refl [g] w).set_ (by simp) _⟩
  | false =>
    by_cases hlt : s.size < n
    · have HE : Hid (RS.cutBad ⟨s, false⟩ n = true) := Lib.hid (by simp [RS.cutBad, hlt])
      have HV : Hid (RS.cutV ⟨s, false⟩ n = ⟨#[]⟩ ∧ (RS.cut ⟨s, false⟩ n).rest = s ∧ (RS.cut ⟨s, false⟩ n).bad = true) := Lib.hid (by unfold RS.cutV RS.cut; rw [HE.out]; exact ⟨rfl, rfl, rfl⟩)
      have HR := Lib.hid (HB.out.set_ 1 (.bool true))
      go_enter Tryd.func99, Tryd.ntmps99
      go_wp2_with fail
      go_ret
      exact ⟨by rw [HV.out.1]; rfl, by rw [HV.out.2.1, HV.out.2.2]; exact HR.out, (Only.refl [g] w).set_ (by simp) _⟩
    · have HE : Hid (RS.cutBad ⟨s, false⟩ n = false) := Lib.hid (by simp [RS.cutBad, hlt])
      have HV : Hid (RS.cutV ⟨s, false⟩ n = s.extract 0 n ∧ (RS.cut ⟨s, false⟩ n).rest = s.extract n s.size ∧ (RS.cut ⟨s, false⟩ n).bad = false) := Lib.hid (by unfold RS.cutV RS.cut; rw [HE.out]; exact ⟨rfl, rfl, rfl⟩)
      have HR := Lib.hid ((HB.out.set_ 1 (.bool false)).set_ 0 (.string (s.extract n s.size)))
      go_enter Tryd.func99, Tryd.ntmps99
      go_wp2_with fail
      go_ret
      exact ⟨by rw [HV.out.1]; rfl, by rw [HV.out.2.1, HV.out.2.2]; exact HR.out, ((Only.refl [g] w).set_ (by simp) _).set_ (by simp) _⟩
end Go.Proofs.YtpekbnkmnellpaaDoor
