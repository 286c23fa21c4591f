/-
  A raw path made right; the store in memory: the trie now, and the past ones.
-/
import Derived.Test.YtichklplcpkjdaaDoorStoA
namespace Go.Proofs.YtichklplcpkjdaaDoor
open Go.RowKit
set_option linter.unusedVariables false

/-- a path: its kind, its numbers -/
structure Pa where
  k : Nat
  a : Nat
  b : Nat
def Pa.v (p : Pa) : Value := .agg #[.int .i64 (p.k : Int), .int .u64 (p.a : Int), .int .u64 (p.b : Int)]
def Pa.ok (p : Pa) : Prop := Pth.Right p.k p.a p.b
def Pa.key (p : Pa) : ByteArray := ⟨(Pth.text p.k p.a p.b).toArray⟩
/-- a raw path made right; of few -/
def fitP (c a b : Int) : Pa := ⟨1 + pickN c 8, (a % 3).toNat, fitB (1 + pickN c 8) (b % 3).toNat⟩
theorem fitP_ok (c a b : Int) (a0 : 0 ≤ a) (b0 : 0 ≤ b) : (fitP c a b).ok := fit_right c (a % 3).toNat (b % 3).toNat (by omega) (by omega)
theorem Pa.key_size {p : Pa} (h : p.ok) : p.key.size ≤ 83 := by
  have := Pth.text_len h
  simpa [Pa.key, ByteArray.size] using this
theorem Pa.key_inj {p q : Pa} (hp : p.ok) (hq : q.ok) (h : p.key = q.key) : p = q := by
  have e : Pth.text p.k p.a p.b = Pth.text q.k q.a q.b := by
    have := congrArg (fun x => x.data.toList) h
    simpa [Pa.key] using this
  obtain ⟨h1, h2, h3⟩ := Pth.text_inj hp hq e
  cases p; cases q; simp_all
set_option maxHeartbeats 1000000 in
theorem path9_is (c a b : Int) (h0 : -9223372036854775808 ≤ c) (h1 : c ≤ 9223372036854775807) (a0 : 0 ≤ a) (a1 : a ≤ 18446744073709551615) (b0 : 0 ≤ b) (b1 : b ≤ 18446744073709551615) (w : World) :
    Calls Tryd.prog 11 #[.agg #[.int .i64 c, .int .u64 a, .int .u64 b]] w fun e w' => e = .returned (fitP c a b).v ∧ Below w.heap.size w w' := by
  have ha : (((a % 3).toNat : Nat) : Int) = a % 3 := by omega
  have hb : (((b % 3).toNat : Nat) : Int) = b % 3 := by omega
  have hf : ∀ W, Calls Tryd.prog 27 #[.agg #[.int .i64 c, .int .u64 (a % 3), .int .u64 (b % 3)]] W fun e w' => e = .returned (fitP c a b).v ∧ Below W.heap.size W w' := fun W => by
    have := fit_is c (a % 3).toNat (b % 3).toNat h0 h1 W
    rw [ha, hb] at this
    refine this.mono ?_
    rintro e w' ⟨he, hw⟩
    refine ⟨?_, hw⟩
    rw [he]
    simp only [fitP, Pa.v, ha]
  have HF := Lib.hid hf
  generalize fitP c a b = q at HF ⊢
  obtain ⟨qk, qa, qb⟩ := q
  simp only [Pa.v] at HF ⊢
  clear hf ha hb
  have ta : a.tmod 3 = a % 3 := Int.tmod_eq_emod_of_nonneg a0
  have tb : b.tmod 3 = b % 3 := Int.tmod_eq_emod_of_nonneg b0
  go_enter Tryd.func11, Tryd.ntmps11
  go_wp2_with fail
  refine (HF.out _).mono ?_
  rintro e w1 ⟨rfl, hb1⟩
  have HB := Lib.hid (bstep (balloc (balloc (Below.refl _ w) (.cells #[.int .i64 c, .int .u64 a, .int .u64 b] 25)) (.cells #[.int .i64 0, .int .u64 0, .int .u64 0] 25)) hb1)
  have HBl : Hid (Blk w1 (w.heap.size + 1) 25 #[.int .i64 0, .int .u64 0, .int .u64 0]) := Lib.hid (by
    have := (Blk.new (w.alloc (.cells #[.int .i64 c, .int .u64 a, .int .u64 b] 25)) 25 #[.int .i64 0, .int .u64 0, .int .u64 0]).below hb1
    simpa using this)
  clear hb1
  have c0 := HBl.out.cell 0
  have c1 := HBl.out.cell 1
  have c2 := HBl.out.cell 2
  have f0 := HBl.out.frozen 0
  have f1 := HBl.out.frozen 1
  have f2 := HBl.out.frozen 2
  go_wp2_with fail
  have HS : Hid (Blk (((w1.setCell ⟨w.heap.size + 1, 0, none⟩ (.int .i64 qk)).setCell ⟨w.heap.size + 1, 1, none⟩ (.int .u64 qa)).setCell ⟨w.heap.size + 1, 2, none⟩ (.int .u64 qb)) (w.heap.size + 1) 25 #[.int .i64 qk, .int .u64 qa, .int .u64 qb]) := Lib.hid (((HBl.out.set_ 0 _).set_ 1 _).set_ 2 _)
  have d0 := HS.out.cell 0
  have d1 := HS.out.cell 1
  have d2 := HS.out.cell 2
  refine bodyPost_ret (v := .agg #[.int .i64 qk, .int .u64 qa, .int .u64 qb]) ?_ rfl ⟨rfl, ((HB.out.setCell (by simp) _).setCell (by simp) _).setCell (by simp) _⟩
  simp [results, Tryd.results11, go_sem, d0, d1, d2]
end Go.Proofs.YtichklplcpkjdaaDoor
