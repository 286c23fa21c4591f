/-
  Lay and Take as plain functions: Take undoes Lay, and takes up nothing else.
-/
import Derived.Test.YtpekbnkmnellpaaDoorChanT
namespace Go.Proofs.YtpekbnkmnellpaaDoor
open Go.RowKit
set_option linter.unusedVariables false

abbrev bl (s : ByteArray) : List UInt8 := s.data.toList
theorem bl_take (s : ByteArray) (n : Nat) : bl (s.extract 0 n) = (bl s).take n := by
  simp [bl]
theorem bl_drop (s : ByteArray) (n : Nat) : bl (s.extract n s.size) = (bl s).drop n := by
  show (s.extract n s.size).data.toList = s.data.toList.drop n
  rw [ByteArray.data_extract, Array.toList_extract, List.extract_eq_take_drop]
  exact List.take_of_length_le (by rw [List.length_drop, len_data]; omega)
theorem bl_mk (l : List UInt8) : bl ⟨l.toArray⟩ = l := by simp [bl]
theorem nByte_congr (N M k : Nat) (h : N % 256 ^ (k + 1) = M % 256 ^ (k + 1)) : nByte (N : Int) k = nByte (M : Int) k := by
  apply UInt8.toNat_inj.1
  rw [nByte_nat, nByte_nat]
  have e : ∀ x : Nat, x / 256 ^ k % 256 = x % 256 ^ (k + 1) / 256 ^ k := fun x => by
    rw [Nat.pow_succ, Nat.mod_mul, Nat.add_mul_div_left _ _ (Nat.pow_pos (by omega)), Nat.div_eq_of_lt (Nat.mod_lt _ (Nat.pow_pos (by omega)))]
    omega
  rw [e, e, h]
theorem nB_congr : ∀ (k N M : Nat), N % 256 ^ k = M % 256 ^ k → nB (N : Int) k = nB (M : Int) k
  | 0, _, _, _ => rfl
  | k + 1, N, M, h => by
    show nByte (N : Int) k :: nB (N : Int) k = nByte (M : Int) k :: nB (M : Int) k
    rw [nByte_congr N M k h, nB_congr k N M]
    have e : ∀ x : Nat, x % 256 ^ k = x % 256 ^ (k + 1) % 256 ^ k := fun x => by
      rw [Nat.mod_mod_of_dvd]
      exact Nat.pow_dvd_pow 256 (Nat.le_succ k)
    rw [e, e M, h]
theorem valF_cons (a : Nat) : ∀ (l : List UInt8), valF a l = a * 256 ^ l.length + valF 0 l
  | [] => by simp [valF]
  | b :: l => by
    show valF (a * 256 + b.toNat) l = a * 256 ^ (l.length + 1) + valF (0 * 256 + b.toNat) l
    rw [valF_cons _ l, valF_cons (0 * 256 + b.toNat) l, Nat.pow_succ, Nat.add_mul, Nat.zero_mul, Nat.zero_add, Nat.mul_comm (256 ^ l.length) 256, ← Nat.mul_assoc]
    omega
theorem nB_valF : ∀ l : List UInt8, nB (valF 0 l : Nat) l.length = l
  | [] => rfl
  | b :: l => by
    have hv := valF_lt l
    have e : valF 0 (b :: l) = b.toNat * 256 ^ l.length + valF 0 l := by
      show valF (0 * 256 + b.toNat) l = _
      rw [valF_cons, Nat.zero_mul, Nat.zero_add]
    show nByte (valF 0 (b :: l) : Nat) l.length :: nB (valF 0 (b :: l) : Nat) l.length = b :: l
    have h1 : nByte (valF 0 (b :: l) : Nat) l.length = b := by
      apply UInt8.toNat_inj.1
      rw [nByte_nat, e, Nat.add_comm, Nat.add_mul_div_right _ _ (Nat.pow_pos (by omega)), Nat.div_eq_of_lt hv, Nat.zero_add]
      exact Nat.mod_eq_of_lt b.toNat_lt
    have h2 : nB (valF 0 (b :: l) : Nat) l.length = nB (valF 0 l : Nat) l.length := nB_congr _ _ _ (by
      rw [e, Nat.add_comm, Nat.add_mul_mod_self_right])
    rw [h1, h2, nB_valF l]
theorem valF_nB0 (N k : Nat) (h : N < 256 ^ k) : valF 0 (nB (N : Int) k) = N := by
  rw [valF_nB, Nat.zero_mul, Nat.zero_add, Nat.mod_eq_of_lt h]
/-! ### Reading forth -/
theorem cut_ok (r : RS) (n : Nat) (hb : r.bad = false) (hn : n ≤ (bl r.rest).length) : r.cutBad n = false := by
  rw [len_data] at hn
  simp [RS.cutBad, hb, hn]
theorem cut_app (r : RS) (n : Nat) (X R : List UInt8) (hb : r.bad = false) (hr : bl r.rest = X ++ R) (hX : X.length = n) : (r.cut n).bad = false ∧ bl (r.cut n).rest = R ∧ bl (r.cutV n) = X := by
  have h := cut_ok r n hb (by rw [hr, List.length_append]; omega)
  unfold RS.cut RS.cutV
  rw [h]
  refine ⟨rfl, ?_, ?_⟩
  · show bl (r.rest.extract n r.rest.size) = R
    rw [bl_drop, hr, List.drop_left' hX]
  · show bl (r.rest.extract 0 n) = X
    rw [bl_take, hr, List.take_left' hX]
theorem num_app (r : RS) (N : Nat) (R : List UInt8) (hb : r.bad = false) (hr : bl r.rest = nB (N : Int) 8 ++ R) (hN : N ≤ 18446744073709551615) : (r.cut 8).bad = false ∧ bl (r.cut 8).rest = R ∧ r.numV = N := by
  obtain ⟨h1, h2, h3⟩ := cut_app r 8 _ R hb hr (nB_len _ _)
  have h := cut_ok r 8 hb (by rw [hr, List.length_append, nB_len]; omega)
  refine ⟨h1, h2, ?_⟩
  unfold RS.numV
  rw [h]
  show valF 0 (bl (r.rest.extract 0 8)) = N
  rw [bl_take, hr, List.take_left' (nB_len _ _), valF_nB0 N 8 (by omega)]
theorem text_app (r : RS) (s : ByteArray) (R : List UInt8) (hb : r.bad = false) (hr : bl r.rest = nB (s.size : Int) 4 ++ bl s ++ R) (hs : s.size ≤ 16) : (r.text 16).bad = false ∧ bl (r.text 16).rest = R ∧ r.textV 16 = s := by
  rw [List.append_assoc] at hr
  obtain ⟨h1, h2, h3⟩ := cut_app r 4 _ _ hb hr (nB_len _ _)
  have h := cut_ok r 4 hb (by rw [hr, List.length_append, nB_len]; omega)
  have hn : r.textN = s.size := by
    show valF 0 (bl (r.rest.extract 0 4)) = s.size
    rw [bl_take, hr, List.take_left' (nB_len _ _), valF_nB0 s.size 4 (by omega)]
  have hm : (r.marked 16).bad = false := by
    show decide (16 < r.textN) = false
    rw [hn]; simp; omega
  obtain ⟨g1, g2, g3⟩ := cut_app (r.marked 16) s.size (bl s) R hm h2 (len_data s)
  unfold RS.text RS.textV
  rw [h, hn]
  exact ⟨g1, g2, str_ext g3⟩
/-! ### Reading back -/
theorem cut_back (r : RS) (n : Nat) (h : (r.cut n).bad = false) : r.bad = false ∧ n ≤ (bl r.rest).length ∧ r.cutBad n = false ∧ bl r.rest = (bl r.rest).take n ++ bl (r.cut n).rest := by
  have hb : r.cutBad n = false := h
  have h2 : r.bad = false ∧ n ≤ r.rest.size := by simpa [RS.cutBad] using hb
  refine ⟨h2.1, by rw [len_data]; exact h2.2, hb, ?_⟩
  unfold RS.cut
  rw [hb]
  show _ = _ ++ bl (r.rest.extract n r.rest.size)
  rw [bl_drop, List.take_append_drop]
theorem num_back (r : RS) (h : (r.cut 8).bad = false) : r.bad = false ∧ bl r.rest = nB (r.numV : Int) 8 ++ bl (r.cut 8).rest := by
  obtain ⟨h1, h2, h3, h4⟩ := cut_back r 8 h
  refine ⟨h1, ?_⟩
  have e : nB (r.numV : Int) 8 = (bl r.rest).take 8 := by
    have hl : ((bl r.rest).take 8).length = 8 := by rw [List.length_take]; omega
    have := nB_valF ((bl r.rest).take 8)
    rw [hl] at this
    rw [← this]
    congr 2
    unfold RS.numV
    rw [h3]
    show valF 0 (bl (r.rest.extract 0 8)) = _
    rw [bl_take]
  rw [e]
  exact h4
theorem text_back (r : RS) (h : (r.text 16).bad = false) : r.bad = false ∧ (r.textV 16).size ≤ 16 ∧ bl r.rest = nB ((r.textV 16).size : Int) 4 ++ bl (r.textV 16) ++ bl (r.text 16).rest := by
  cases hc : r.cutBad 4 with
  | true =>
    have : (r.text 16).bad = true := by unfold RS.text; rw [hc]; exact hc
    rw [this] at h
    cases h
  | false =>
    have ht : r.text 16 = (r.marked 16).cut r.textN := by unfold RS.text; rw [hc]; rfl
    have hv : r.textV 16 = (r.marked 16).cutV r.textN := by unfold RS.textV; rw [hc]; rfl
    rw [ht] at h
    obtain ⟨h1, h2, h3, h4⟩ := cut_back (r.marked 16) r.textN h
    have h16 : r.textN ≤ 16 := by
      have : decide (16 < r.textN) = false := h1
      simpa using this
    obtain ⟨g1, g2, g3, g4⟩ := cut_back r 4 hc
    have hvv : bl (r.textV 16) = (bl (r.marked 16).rest).take r.textN := by
      rw [hv]
      unfold RS.cutV
      rw [h3]
      exact bl_take _ _
    have hvs : (r.textV 16).size = r.textN := by
      rw [← len_data]
      show (bl (r.textV 16)).length = _
      rw [hvv, List.length_take]; omega
    have e : nB (r.textN : Int) 4 = (bl r.rest).take 4 := by
      have hl : ((bl r.rest).take 4).length = 4 := by rw [List.length_take]; omega
      have := nB_valF ((bl r.rest).take 4)
      rw [hl] at this
      rw [← this]
      congr 2
      show valF 0 (bl (r.rest.extract 0 4)) = _
      rw [bl_take]
    refine ⟨g1, by omega, ?_⟩
    rw [hvs, e, hvv, ht, List.append_assoc, ← h4]
    exact g4
/-! ### The whole -/
theorem rightB_parts (c : Ch) (h : c.rightB = true) : 1 ≤ c.state ∧ c.state ≤ 4 ∧ c.port.size ≤ 16 ∧ c.pport.size ≤ 16 ∧ (c.state = 1 → c.peer = 0) := by
  simp only [Ch.rightB, Bool.and_eq_true, decide_eq_true_eq, Bool.or_eq_true, bne_iff_ne, beq_iff_eq] at h
  obtain ⟨⟨⟨⟨h1, h2⟩, h3⟩, h4⟩, h5⟩ := h
  exact ⟨h1, h2, h3, h4, fun e => h5.resolve_left (fun hn => hn e)⟩
theorem nat_of {n : Int} (h : 0 ≤ n) : ((n.toNat : Nat) : Int) = n := Int.toNat_of_nonneg h
theorem take_lay (c : Ch) (hc : c.ok) (hr : c.rightB = true) (s : ByteArray) (hs : bl s = c.layL) : takeB s = true ∧ takeRaw s = c := by
  obtain ⟨h1, h2, h3, h4, h5⟩ := rightB_parts c hr
  obtain ⟨st, o, lk, pr, p, q⟩ := c
  have h1 : 1 ≤ st := h1
  have h2 : st ≤ 4 := h2
  have hlk : u64r lk := hc.link
  have hpr : u64r pr := hc.peer
  have e0 : bl (tk0 s).rest = nB st 8 ++ (nB (ordI o) 8 ++ (nB lk 8 ++ (nB pr 8 ++ (nB p.size 4 ++ bl p ++ (nB q.size 4 ++ bl q ++ []))))) := by
    show bl s = _
    rw [hs]
    simp [Ch.layL, numsL, List.append_assoc, bl]
  have ho : 0 ≤ ordI o ∧ ordI o ≤ 1 := by cases o <;> decide
  rw [← nat_of (show 0 ≤ st by omega)] at e0
  obtain ⟨b1, e1, v0⟩ := num_app (tk0 s) st.toNat _ rfl e0 (by omega)
  have e1 : bl (tk1 s).rest = _ := e1
  rw [← nat_of ho.1] at e1
  obtain ⟨b2, e2, v1⟩ := num_app (tk1 s) (ordI o).toNat _ b1 e1 (by omega)
  have e2 : bl (tk2 s).rest = _ := e2
  rw [← nat_of hlk.1] at e2
  have hl2 := hlk.2
  have hl1 := hlk.1
  obtain ⟨b3, e3, v2⟩ := num_app (tk2 s) lk.toNat _ b2 e2 (by omega)
  have e3 : bl (tk3 s).rest = _ := e3
  rw [← nat_of hpr.1] at e3
  have hq2 := hpr.2
  have hq1 := hpr.1
  obtain ⟨b4, e4, v3⟩ := num_app (tk3 s) pr.toNat _ b3 e3 (by omega)
  obtain ⟨b5, e5, v4⟩ := text_app (tk4 s) p _ b4 e4 h3
  obtain ⟨b6, e6, v5⟩ := text_app (tk5 s) q _ b5 e5 h4
  have hraw : takeRaw s = ⟨st, o, lk, pr, p, q⟩ := by
    unfold takeRaw
    rw [v0, v1, v2, v3, v4, v5, nat_of (show 0 ≤ st by omega), nat_of ho.1, nat_of hl1, nat_of hq1]
    have : min st 5 = st := by omega
    rw [this]
    cases o <;> rfl
  refine ⟨?_, hraw⟩
  unfold takeB
  rw [hraw, hr, v1]
  have hend : (tk6 s).endB = true := by
    have hb6 : (tk6 s).bad = false := b6
    have he6 : bl (tk6 s).rest = [] := e6
    unfold RS.endB
    rw [hb6, ByteArray.toList_eq, show (tk6 s).rest.data.toList = [] from he6]
    rfl
  rw [hend]
  have : (ordI o).toNat ≤ 1 := by omega
  simp [this]
theorem take_only (s : ByteArray) (h : takeB s = true) : bl s = (takeRaw s).layL ∧ (takeRaw s).rightB = true := by
  simp only [takeB, Bool.and_eq_true, decide_eq_true_eq] at h
  obtain ⟨⟨he, ho⟩, hr⟩ := h
  refine ⟨?_, hr⟩
  have hend : (tk6 s).bad = false ∧ bl (tk6 s).rest = [] := by
    unfold RS.endB at he
    rw [ByteArray.toList_eq] at he
    simpa using he
  obtain ⟨b5, z5, e5⟩ := text_back (tk5 s) hend.1
  obtain ⟨b4, z4, e4⟩ := text_back (tk4 s) b5
  obtain ⟨b3, e3⟩ := num_back (tk3 s) b4
  obtain ⟨b2, e2⟩ := num_back (tk2 s) b3
  obtain ⟨b1, e1⟩ := num_back (tk1 s) b2
  obtain ⟨b0, e0⟩ := num_back (tk0 s) b1
  obtain ⟨r1, r2, r3, r4, r5⟩ := rightB_parts _ hr
  have r2' : min ((tk0 s).numV : Int) 5 ≤ 4 := r2
  have hst : min ((tk0 s).numV : Int) 5 = (tk0 s).numV := by omega
  have hord : ordI (((tk1 s).numV : Int) == 1) = (tk1 s).numV := by
    have : (tk1 s).numV = 0 ∨ (tk1 s).numV = 1 := by omega
    rcases this with e | e <;> rw [e] <;> rfl
  show bl (tk0 s).rest = _
  rw [e0]
  show _ ++ bl (tk1 s).rest = _
  rw [e1]
  show _ ++ (_ ++ bl (tk2 s).rest) = _
  rw [e2]
  show _ ++ (_ ++ (_ ++ bl (tk3 s).rest)) = _
  rw [e3]
  show _ ++ (_ ++ (_ ++ (_ ++ bl (tk4 s).rest))) = _
  rw [e4]
  show _ ++ (_ ++ (_ ++ (_ ++ (_ ++ bl (tk5 s).rest)))) = _
  rw [e5]
  show _ ++ (_ ++ (_ ++ (_ ++ (_ ++ (_ ++ bl (tk6 s).rest))))) = _
  rw [hend.2]
  simp only [Ch.layL, takeRaw, numsL, List.flatMap_cons, List.flatMap_nil, hst, hord, List.append_assoc, List.append_nil]
theorem lay_prefix (c d : Ch) (hc : c.ok) (hd : d.ok) (hcr : c.rightB = true) (hdr : d.rightB = true) (x y : List UInt8) (h : c.layL ++ x = d.layL ++ y) : c = d ∧ x = y := by
  obtain ⟨h1, h2, h3, h4, h5⟩ := rightB_parts c hcr
  obtain ⟨g1, g2, g3, g4, g5⟩ := rightB_parts d hdr
  obtain ⟨st, o, lk, pr, p, q⟩ := c
  obtain ⟨st', o', lk', pr', p', q'⟩ := d
  have h1 : 1 ≤ st := h1
  have h2 : st ≤ 4 := h2
  have g1 : 1 ≤ st' := g1
  have g2 : st' ≤ 4 := g2
  simp only [Ch.layL, numsL, List.flatMap_cons, List.flatMap_nil, List.append_assoc, List.append_nil] at h
  obtain ⟨e0, h⟩ := append_split (by rw [nB_len, nB_len]) h
  obtain ⟨e1, h⟩ := append_split (by rw [nB_len, nB_len]) h
  obtain ⟨e2, h⟩ := append_split (by rw [nB_len, nB_len]) h
  obtain ⟨e3, h⟩ := append_split (by rw [nB_len, nB_len]) h
  obtain ⟨e4, h⟩ := append_split (by rw [nB_len, nB_len]) h
  have s4 : p.size = p'.size := by
    have a := valF_nB0 p.size 4 (by have : p.size ≤ 16 := h3; omega)
    have b := valF_nB0 p'.size 4 (by have : p'.size ≤ 16 := g3; omega)
    rw [e4, b] at a
    exact a.symm
  obtain ⟨e5, h⟩ := append_split (by rw [len_data, len_data, s4]) h
  obtain ⟨e6, h⟩ := append_split (by rw [nB_len, nB_len]) h
  have s6 : q.size = q'.size := by
    have a := valF_nB0 q.size 4 (by have : q.size ≤ 16 := h4; omega)
    have b := valF_nB0 q'.size 4 (by have : q'.size ≤ 16 := g4; omega)
    rw [e6, b] at a
    exact a.symm
  obtain ⟨e7, h⟩ := append_split (by rw [len_data, len_data, s6]) h
  have f0 := nB8_inj ⟨by omega, by omega⟩ ⟨by omega, by omega⟩ e0
  have f1 := nB8_inj (ordI_r o) (ordI_r o') e1
  have f2 : lk = lk' := nB8_inj hc.link hd.link e2
  have f3 : pr = pr' := nB8_inj hc.peer hd.peer e3
  have f1' : o = o' := by cases o <;> cases o' <;> first | rfl | (exact absurd f1 (by decide))
  refine ⟨?_, h⟩
  rw [f0, f1', f2, f3, str_ext e5, str_ext e7]
end Go.Proofs.YtpekbnkmnellpaaDoor
