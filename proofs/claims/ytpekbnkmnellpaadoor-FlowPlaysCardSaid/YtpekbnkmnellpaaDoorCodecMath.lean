/-
  Numbers as bytes, and back; what a packet's commitment sums tells the packet.
-/
import Derived.Test.YtpekbnkmnellpaaDoorCommit
namespace Go.Proofs.YtpekbnkmnellpaaDoor
open Go.RowKit
set_option linter.unusedVariables false

/-- the number of bytes, the highest first, behind a -/
def valF (a : Nat) (l : List UInt8) : Nat := l.foldl (fun x b => x * 256 + b.toNat) a
theorem nByte_nat (N k : Nat) : (nByte (N : Int) k).toNat = N / 256 ^ k % 256 := by
  have e : ((N : Int) / 2 ^ (8 * k) % 256).toNat = N / 256 ^ k % 256 := by
    have h0 : (2 : Nat) ^ (8 * k) = 256 ^ k := by rw [Nat.pow_mul]
    have h : (2 : Int) ^ (8 * k) = ((256 ^ k : Nat) : Int) := by rw [← h0]; simp
    rw [h]
    omega
  unfold nByte
  rw [e, UInt8.toNat_ofNat']
  omega
theorem valF_nB (N : Nat) : ∀ (k a : Nat), valF a (nB (N : Int) k) = a * 256 ^ k + N % 256 ^ k
  | 0, a => by simp [nB, valF, Nat.mod_one]
  | k + 1, a => by
    have ih := valF_nB N k (a * 256 + (nByte (N : Int) k).toNat)
    show valF (a * 256 + (nByte (N : Int) k).toNat) (nB (N : Int) k) = _
    rw [ih, nByte_nat, Nat.pow_succ, Nat.mod_mul, Nat.add_mul, Nat.mul_assoc, Nat.mul_comm 256 (256 ^ k), Nat.mul_comm (N / 256 ^ k % 256)]
    omega
theorem nB8_inj {n m : Int} (hn : u64r n) (hm : u64r m) (h : nB n 8 = nB m 8) : n = m := by
  obtain ⟨N, rfl⟩ := Int.eq_ofNat_of_zero_le hn.1
  obtain ⟨M, rfl⟩ := Int.eq_ofNat_of_zero_le hm.1
  have h1 := valF_nB N 8 0
  have h2 := valF_nB M 8 0
  rw [h, h2] at h1
  have := hn.2
  have := hm.2
  omega
theorem append_split {α : Type} {a b c d : List α} (hl : a.length = c.length) (h : a ++ b = c ++ d) : a = c ∧ b = d := List.append_inj h hl
theorem numsL_inj : ∀ (l m : List Int), l.length = m.length → (∀ x ∈ l, u64r x) → (∀ x ∈ m, u64r x) → numsL l = numsL m → l = m
  | [], [], _, _, _, _ => rfl
  | x :: l, y :: m, hl, hx, hy, h => by
    have h' : nB x 8 ++ numsL l = nB y 8 ++ numsL m := h
    obtain ⟨h1, h2⟩ := append_split (by rw [nB_len, nB_len]) h'
    rw [nB8_inj (hx x (by simp)) (hy y (by simp)) h1, numsL_inj l m (by simpa using hl) (fun z hz => hx z (by simp [hz])) (fun z hz => hy z (by simp [hz])) h2]
theorem partL_inj {s t : ByteArray} (h : partL s = partL t) : s = t := by
  obtain ⟨_, h2⟩ := append_split (by rw [w4_len, w4_len]) h
  exact str_ext h2
theorem inp14_inj {s t : ByteArray} (h : inpL 14 [s] = inpL 14 [t]) : s = t := by
  simp only [inpL, List.flatMap_cons, List.flatMap_nil, List.append_nil, List.cons.injEq, true_and] at h
  exact partL_inj h
theorem Pk.inp_inj {p q : Pk} (hp : p.ok) (hq : q.ok) (h : p.inp = q.inp) : p = q := by
  obtain ⟨a, b, c, d, e⟩ := p
  obtain ⟨a', b', c', d', e'⟩ := q
  simp only [Pk.inp, inpL, List.flatMap_cons, List.flatMap_nil, List.append_nil, List.cons.injEq, true_and] at h
  have hs : ∀ l : List Int, l.length = 4 → (⟨(numsL l).toArray⟩ : ByteArray).size = 32 := fun l hl => by
    show (numsL l).toArray.size = 32
    rw [List.size_toArray, numsL_len, hl]
  obtain ⟨h1, h2⟩ := append_split (by rw [partL_len, partL_len, hs _ rfl, hs _ rfl]) h
  have h3 := partL_inj h1
  have h4 := partL_inj h2
  have h5 : numsL [a, b, c, e] = numsL [a', b', c', e'] := by
    have := congrArg (fun s : ByteArray => s.data.toList) h3
    simpa using this
  have hx1 : ∀ x ∈ [a, b, c, e], u64r x := by
    intro x hx
    simp only [List.mem_cons, List.not_mem_nil, or_false] at hx
    rcases hx with rfl | rfl | rfl | rfl
    · exact hp.seq
    · exact hp.src
    · exact hp.dst
    · exact hp.timeout
  have hx2 : ∀ x ∈ [a', b', c', e'], u64r x := by
    intro x hx
    simp only [List.mem_cons, List.not_mem_nil, or_false] at hx
    rcases hx with rfl | rfl | rfl | rfl
    · exact hq.seq
    · exact hq.src
    · exact hq.dst
    · exact hq.timeout
  have h6 := numsL_inj [a, b, c, e] [a', b', c', e'] rfl hx1 hx2 h5
  simp only [List.cons.injEq, and_true] at h6
  obtain ⟨rfl, rfl, rfl, rfl⟩ := h6
  rw [h4]
end Go.Proofs.YtpekbnkmnellpaaDoor
