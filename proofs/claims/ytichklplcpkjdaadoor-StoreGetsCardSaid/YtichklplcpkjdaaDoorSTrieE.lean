/-
  The walks of the trie's Nothing, bit, halves.
-/
import Derived.Test.YtichklplcpkjdaaDoorSTrieD
import Derived.Test.YtichklplcpkjdaaDoorSHash
import Derived.Lib.RabinKarpLaws
namespace Go.Proofs.YtichklplcpkjdaaDoor
open Go.RowKit Go.Maps
set_option linter.unusedVariables false

set_option maxHeartbeats 1000000 in
theorem input_nil (c : UInt8) (w : World) :
    Calls Tryd.prog 46 #[.int .u8 (c.toNat : Int), .slice none 0 0] w fun e w' => e = .returned (.string ⟨(inpL c []).toArray⟩) ∧ Below w.heap.size w w' := by
  go_enter Tryd.func46, Tryd.ntmps46
  go_wp2_with fail
  refine (wbyte_is w c).mono ?_
  rintro e w1 ⟨rfl, hb1, hl1⟩
  have HB1 := Lib.hid hb1
  have HL1 := Lib.hid hl1
  clear hb1 hl1
  go_wp2_with fail
  go_loopg [12] 0 (fun k i wr => i = .int .i64 0 ∧ Bld wr w.heap.size w.heap.size (inpL c []) ∧ Below w.heap.size w wr)
  case atStart => exact ⟨rfl, HB1.out, HL1.out⟩
  case round =>
    obtain ⟨rfl, hbl, hbel⟩ := hrel
    have HB := Lib.hid hbl
    have HL := Lib.hid hbel
    clear hbl hbel HB1 HL1
    go_wp2_with fail
    refine (bstring_is wr _ _ _ HB.out HL.out.size).mono ?_
    rintro e w2 ⟨rfl, hb2⟩
    have HL2 := Lib.hid (HL.out.trans hb2)
    clear hb2
    go_wp2_with fail
    go_ret
    exact ⟨rfl, HL2.out⟩
set_option maxHeartbeats 1000000 in
theorem tnothing_is (w : World) (G : Glob w) : Calls Tryd.prog 47 #[] w fun e w' => e = .returned (.string nothingB) ∧ Below w.heap.size w w' := by
  have HG := Lib.hid G
  clear G
  have HT : ∀ W, Below w.heap.size w W → Calls Tryd.prog 37 #[.int .u8 9, .slice none 0 0] W fun e w' => e = .returned (.string nothingB) ∧ Below w.heap.size w w' := by
    intro W hW
    have HWl := Lib.hid hW
    clear hW
    go_enter Tryd.func37, Tryd.ntmps37
    go_wp2_with fail
    refine (input_nil 9 W).mono ?_
    rintro e w1 ⟨rfl, hb1⟩
    have HL1 := Lib.hid (bstep HWl.out hb1)
    clear hb1
    go_wp2_with fail
    refine (sum_is _ w1 (HG.out.below HL1.out HG.out.two) (by simp [ByteArray.size, inpL])).mono ?_
    rintro e w2 ⟨rfl, hb2⟩
    have HL2 := Lib.hid (bstep HL1.out hb2)
    clear hb2
    go_wp2_with fail
    go_ret
    exact ⟨rfl, HL2.out⟩
  have HTT := Lib.hid HT
  clear HT
  go_enter Tryd.func47, Tryd.ntmps47
  go_wp2_with fail
  refine (HTT.out _ (Below.refl _ _)).mono ?_
  rintro e w1 ⟨rfl, hb1⟩
  have HL1 := Lib.hid hb1
  clear hb1
  go_wp2_with fail
  go_ret
  exact ⟨rfl, HL1.out⟩
theorem and1_i64 (i : Nat) (hi : i < 9223372036854775808) : bits BinOp.and IntKind.i64 (i : Int) 1 = ((i % 2 : Nat) : Int) := Go.Proofs.and_one i hi
set_option maxHeartbeats 1000000 in
theorem bit_is (P : List UInt8) (hP : P.length = 32) (d : Nat) (hd : d < 256) (w : World) :
    Calls Tryd.prog 61 #[pv P, .int .i64 d] w fun e w' => e = .returned (.int .i64 (bitP P d : Nat)) ∧ Below w.heap.size w w' := by
  have hP' := hP
  obtain ⟨b, hb⟩ : ∃ b, P[d / 8]'(by omega) = b := ⟨_, rfl⟩
  have hbit : bitP P d = b.toNat / 2 ^ (7 - d % 8) % 2 := by rw [bitP_byte hP hd, hb]
  have hblt : b.toNat < 256 := b.toNat_lt
  have HX : Hid (b.toNat / 2 ^ (7 - d % 8) < 256) := Lib.hid (Nat.lt_of_le_of_lt (Nat.div_le_self _ _) hblt)
  rw [hbit]
  have HD := Lib.hid hd
  go_enter Tryd.func61, Tryd.ntmps61
  go_upto_region 1 with fail
  have hB := Blk.new w 74 (bC P).toArray
  have HBel := Lib.hid (balloc (Below.refl w.heap.size w) (.cells (bC P).toArray 74))
  have hcell : (w.alloc (.cells (bC P).toArray 74)).cell? ⟨w.heap.size, d / 8, none⟩ = some (.int .u8 (b.toNat : Int)) := by
    rw [hB.cell (d / 8)]
    simp only [bC, List.getElem?_toArray, List.getElem?_map]
    rw [List.getElem?_eq_getElem (by omega), hb]
    rfl
  have hq : IntKind.i64.wrap ((d : Int) / 8) = ((d / 8 : Nat) : Int) := by rw [IntKind.wrap_i64]; omega
  have hr : IntKind.i64.wrap (7 - (d : Int) % 8) = ((7 - d % 8 : Nat) : Int) := by rw [IntKind.wrap_i64]; omega
  have hI : 7 - d % 8 < 8 := by omega
  have hK : d / 8 < 32 := by omega
  clear hB hb hbit hblt hP hP'
  generalize w.alloc (.cells (bC P).toArray 74) = W1 at HBel hcell ⊢
  go_wp2_with fail
  go_ret
  refine ⟨?_, HBel.out⟩
  have hX := HX.out
  have hb : wrap64 (b.toNat : Int) = (b.toNat : Int) := by have := b.toNat_lt; unfold wrap64; omega
  rw [hb]
  have e : (b.toNat : Int) / 2 ^ (7 - d % 8) = ((b.toNat / 2 ^ (7 - d % 8) : Nat) : Int) := by simp
  rw [e, and1_i64 _ (by omega)]
  rfl
theorem cnt_lt {d : Nat} : ∀ {l : List Pl} {n : Nat}, n < cntP d l → ∃ h : n < l.length, bitP l[n].1 d = 0
  | [], n, h => by simp [cntP] at h
  | x :: l, 0, h => by
    rw [cnt_cons] at h
    by_cases e : bitP x.1 d = 0
    · exact ⟨by simp, e⟩
    · rw [if_neg e] at h; omega
  | x :: l, n + 1, h => by
    rw [cnt_cons] at h
    by_cases e : bitP x.1 d = 0
    · rw [if_pos e] at h
      obtain ⟨h1, h2⟩ := cnt_lt (d := d) (l := l) (n := n) (by omega)
      exact ⟨by simpa using h1, by simpa using h2⟩
    · rw [if_neg e] at h; omega
theorem cnt_at {d : Nat} : ∀ {l : List Pl} (h : cntP d l < l.length), bitP l[cntP d l].1 d ≠ 0
  | [], h => by simp at h
  | x :: l, h => by
    by_cases e : bitP x.1 d = 0
    · have hc : cntP d (x :: l) = cntP d l + 1 := by rw [cnt_cons, if_pos e]
      have h1 : cntP d l < l.length := by rw [hc] at h; simpa using h
      have := cnt_at h1
      simp only [hc, List.getElem_cons_succ]
      exact this
    · have hc : cntP d (x :: l) = 0 := by rw [cnt_cons, if_neg e]
      simp only [hc, List.getElem_cons_zero]
      exact e
/-- the places of a list stand one behind the other -/
def RowAt (W : World) (g o : Nat) (l : List Pl) : Prop := g < W.heap.size ∧ ∀ i (h : i < l.length) j u, (bC l[i].1)[j]? = some u → W.cell? ⟨g, o + i * 32 + j, none⟩ = some u
theorem RowAt.below {W W' : World} {g o : Nat} {l : List Pl} (h : RowAt W g o l) (hb : Below W.heap.size W W') : RowAt W' g o l := ⟨Nat.lt_of_lt_of_le h.1 hb.size, fun i hi j u hu => (hb.cell (p := ⟨g, o + i * 32 + j, none⟩) h.1).trans (h.2 i hi j u hu)⟩
theorem RowAt.take {W : World} {g o : Nat} {l : List Pl} (h : RowAt W g o l) (n : Nat) : RowAt W g o (l.take n) := ⟨h.1, fun i hi j u hu => by
  have hi' : i < l.length := by rw [List.length_take] at hi; omega
  rw [List.getElem_take] at hu
  exact h.2 i hi' j u hu⟩
theorem RowAt.drop {W : World} {g o : Nat} {l : List Pl} (h : RowAt W g o l) (n : Nat) : RowAt W g (o + n * 32) (l.drop n) := ⟨h.1, fun i hi j u hu => by
  have hi' : n + i < l.length := by rw [List.length_drop] at hi; omega
  rw [List.getElem_drop] at hu
  have := h.2 (n + i) hi' j u hu
  rw [show o + n * 32 + i * 32 + j = o + (n + i) * 32 + j by omega]
  exact this⟩
theorem RowAt.ld {W : World} {g o : Nat} {l : List Pl} (h : RowAt W g o l) {i : Nat} (hi : i < l.length) : (Instr.loadAt 74 (.pointer (some ⟨g, o + i * 32, none⟩))).run Tryd.prog W = .ok (pv l[i].1) W :=
  ld_placeAt l[i].2 fun j u hu => by
    have e : (⟨g, o + i * 32, none⟩ : Addr).add j = ⟨g, o + i * 32 + j, none⟩ := by unfold Addr.add; split <;> simp_all
    rw [e]
    exact h.2 i hi j u hu
/-- a load whose run is known, whatever its guard says -/
theorem wpList_load_run {P : Program} {ops : Array Oper} {rest : List Oper} {o : Oper} {a : Act} {w : World} {Q : Exit → Act → World → Prop} (T : TypeId) (x : Operand) (ho : o.op = .load T x) (hw : Region.wanted o (yielded ops a.tmps) = true)
    (p : Addr) (hx : a.eval x = .pointer (some p)) {v : Value} (hrun : (Instr.loadAt T (.pointer (some p))).run P w = .ok v w) (h : wpList P ops Q rest (a.put o.dst v) w) : wpList P ops Q (o :: rest) a w :=
  wpList_step fun K hK => by
    rw [if_pos hw]
    unfold Oper.wp
    simp [execOp, ho, hx, hrun, Result.andThen]
    exact hK _ _ h
theorem run_slcH {P : Program} {ρ : Operand → Value} {w w' : World} {dst : Option Tmp} {t : TypeId} {pos : String} {af : Array Edge} {g : Option (Nat × Bool)} {v x1 x2 : Value} {x y : Operand} {T : TypeId} (hx : ρ x = x1) (hy : ρ y = x2) (h : (Instr.sliceAt T x1 none (some x2) none).run P w = .ok v w') : (execOp ρ ⟨dst, .slice T x none (some y) none, t, pos, af, g⟩).run P w = .ok (.value v) w' := by
  subst hx hy
  simp [execOp, h]
theorem run_slcL {P : Program} {ρ : Operand → Value} {w w' : World} {dst : Option Tmp} {t : TypeId} {pos : String} {af : Array Edge} {g : Option (Nat × Bool)} {v x1 x2 : Value} {x y : Operand} {T : TypeId} (hx : ρ x = x1) (hy : ρ y = x2) (h : (Instr.sliceAt T x1 (some x2) none none).run P w = .ok v w') : (execOp ρ ⟨dst, .slice T x (some y) none none, t, pos, af, g⟩).run P w = .ok (.value v) w' := by
  subst hx hy
  simp [execOp, h]
theorem sl_hi {g o len cap n : Nat} (hn : n ≤ len) (hc : len ≤ cap) (W : World) : (Instr.sliceAt 76 (.slice (some ⟨g, o, none⟩) len cap) none (some (.int .i64 (n : Int))) none).run Tryd.prog W = .ok (.slice (some ⟨g, o, none⟩) n cap) W := by
  go_simp
  intro h
  omega
theorem sl_lo {g o len cap n : Nat} (hn : n ≤ len) (hc : len ≤ cap) : ∃ pb, (n < len → pb = some ⟨g, o + n * 32, none⟩) ∧ ∀ W, (Instr.sliceAt 76 (.slice (some ⟨g, o, none⟩) len cap) (some (.int .i64 (n : Int))) none none).run Tryd.prog W = .ok (.slice pb (len - n) (cap - n)) W := by
  refine ⟨if cap = n then some ⟨g, o, none⟩ else some ⟨g, o + n * 32, none⟩, fun h => if_neg (by omega), fun W => ?_⟩
  go_simp
def hlvV (g o ln cap n : Nat) (pb : Option Addr) (i : Nat) (v : Value) : Prop := match i with
  | 0 => v = .slice (some ⟨g, o, none⟩) ln cap
  | 1 => v = .int .i64 (n : Int)
  | 2 => v = .slice (some ⟨g, o, none⟩) n cap
  | 3 => v = .slice (some ⟨g, o, none⟩) ln cap
  | 4 => v = .int .i64 (n : Int)
  | 5 => v = .slice pb (ln - n) (cap - n)
  | 6 => v = .slice (some ⟨g, o, none⟩) n cap
  | 7 => v = .slice pb (ln - n) (cap - n)
  | _ => True
def HlvRel (l : List Pl) (d : Nat) (w : World) (k : Nat) (i : Value) (wr : World) : Prop := ∃ n : Nat, n ≤ cntP d l ∧ k = l.length - n ∧ i = .int .i64 n ∧ Below w.heap.size w wr
set_option maxRecDepth 100000 in
set_option maxHeartbeats 2000000 in
theorem halves_is (l : List Pl) (g o cap d : Nat) (hcap : l.length ≤ cap) (w : World) (h : RowAt w g o l) (hd : d < 256) (hbig : l.length < 4611686018427387904) :
    Calls Tryd.prog 48 #[.slice (some ⟨g, o, none⟩) l.length cap, .int .i64 d] w fun e w' => ∃ pb, e = .returned (.tuple #[.slice (some ⟨g, o, none⟩) (cntP d l) cap, .slice pb (l.length - cntP d l) (cap - cntP d l)]) ∧ (cntP d l < l.length → pb = some ⟨g, o + cntP d l * 32, none⟩) ∧ Below w.heap.size w w' := by
  have HR := Lib.hid h
  clear h
  have hcl := cnt_le d l
  obtain ⟨pb, hpb, hlo⟩ := sl_lo (g := g) (o := o) hcl hcap
  have HLo := Lib.hid hlo
  have HPb := Lib.hid hpb
  have HHi := Lib.hid (sl_hi (g := g) (o := o) hcl hcap)
  clear hlo hpb
  go_enter Tryd.func48, Tryd.ntmps48
  go_wp2_with fail
  go_loopg [6] l.length (fun k i wr => HlvRel l d w k i wr)
  case atStart => exact ⟨0, by omega, rfl, rfl, Below.refl _ _⟩
  case round =>
    obtain ⟨n, hn, hk, rfl, hbel⟩ := hrel
    have HK := Lib.hid hk
    have HL := Lib.hid hbel
    clear hk hbel
    by_cases hlt : n < l.length
    · have hld := (HR.out.below HL.out).ld hlt
      have HP := Lib.hid (l[n].2)
      have HBi : Hid (bitP l[n].1 d = 0 ↔ n < cntP d l) := Lib.hid ⟨fun e => by
        rcases Nat.lt_or_ge n (cntP d l) with h1 | h1
        · exact h1
        · have e2 : n = cntP d l := by omega
          subst e2
          exact absurd e (cnt_at hlt), fun h1 => (cnt_lt h1).2⟩
      have HLd := Lib.hid hld
      clear hld
      generalize l[n].1 = P at HLd HP HBi
      go_wp2_with (refine wpList_load_run 74 _ rfl (by rfl) ⟨g, o + n * 32, none⟩ rfl HLd.out ?_)
      refine (bit_is P HP.out d hd wr).mono ?_
      rintro e w1 ⟨rfl, hb1⟩
      have HL1 := Lib.hid (bstep HL.out hb1)
      clear hb1
      by_cases hc : n < cntP d l
      · rw [HBi.out.2 hc]
        have HRel : Hid (HlvRel l d w (l.length - (n + 1)) (.int .i64 ((n + 1 : Nat) : Int)) w1) := Lib.hid ⟨n + 1, hc, rfl, rfl, HL1.out⟩
        clear HL HBi
        go_wp2_with fail
        go_roundg (l.length - (n + 1))
        case measure => rw [HK.out]; omega
        case rel => exact HRel.out
      · have h1 : bitP P d = 1 := by
          have h2 := bitP_lt P d
          have h3 : bitP P d ≠ 0 := fun e => hc (HBi.out.1 e)
          omega
        rw [h1]
        have hnc : n = cntP d l := by omega
        have HNC := Lib.hid hnc
        clear HL HBi h1 hnc
        go_wp2_with fail
        clear HK
        have hnc := HNC.out
        subst hnc
        clear HNC
        refine wp_abs fun a0 hA => ?_
        have h0 : a0.eval (.tmp 0) = .slice (some ⟨g, o, none⟩) l.length cap := by rw [hA]; rfl
        have h6 : a0.eval (.tmp 6) = .int .i64 (cntP d l : Int) := by rw [hA]; rfl
        have hz : a0.tmps.size = 28 := by rw [hA]; rfl
        refine wp_region_K [some 22, some 23, some 24, some 25, some 26, some 27, some 4, some 5] 28 (CJ (hlvV g o l.length cap (cntP d l) pb) (fun _ _ => True) [] (bwS w1)) (by kernel_rfl) (by kernel_rfl) (by kernel_rfl) rfl (by kernel_rfl) hz (CJ.start (fun i => trivial) ⟨by omega, (Below.refl _ w1).drew⟩) ?_ ⟨?_, ?_, ?_, ?_, ?_, ?_, ?_, ?_, trivial⟩
        · intro d u W hd hJ
          have hW := bwS_inv hJ
          have e1 : u 6 = _ := hJ.vals 6 (hd 6 (by decide))
          have e2 : u 7 = _ := hJ.vals 7 (hd 7 (by decide))
          rw [hA]
          simp only [putAll, Act.put, List.setIfInBounds_toArray, List.set_cons_zero, List.set_cons_succ]
          clear hJ hd h0 h6 hz hA
          clear a0
          rw [e1, e2]
          clear e1 e2
          have HF := Lib.hid (bstep HL1.out hW)
          clear hW
          go_wp2_with fail
          go_ret2
          exact ⟨pb, rfl, HPb.out, HF.out⟩
        · exact KStep.plain rfl fun ρ d u W he hc hdi hd hJ => swp_val (run_move (he.o h0 rfl)) (hJ.pure 0 rfl rfl)
        · exact KStep.plain rfl fun ρ d u W he hc hdi hd hJ => swp_val (run_move (he.o h6 rfl)) (hJ.pure 1 rfl rfl)
        · exact KStep.plain rfl fun ρ d u W he hc hdi hd hJ => swp_val (run_slcH (he.i hz (hJ.vals 0 (hd 0 (by kernel_rfl))) (j := 0) (d := 22) rfl (by decide)) (he.i hz (hJ.vals 1 (hd 1 (by kernel_rfl))) (j := 1) (d := 23) rfl (by decide)) (HHi.out W)) (hJ.pure 2 rfl rfl)
        · exact KStep.plain rfl fun ρ d u W he hc hdi hd hJ => swp_val (run_move (he.o h0 rfl)) (hJ.pure 3 rfl rfl)
        · exact KStep.plain rfl fun ρ d u W he hc hdi hd hJ => swp_val (run_move (he.o h6 rfl)) (hJ.pure 4 rfl rfl)
        · exact KStep.plain rfl fun ρ d u W he hc hdi hd hJ => swp_val (run_slcL (he.i hz (hJ.vals 3 (hd 3 (by kernel_rfl))) (j := 3) (d := 25) rfl (by decide)) (he.i hz (hJ.vals 4 (hd 4 (by kernel_rfl))) (j := 4) (d := 26) rfl (by decide)) (HLo.out W)) (hJ.pure 5 rfl rfl)
        · exact KStep.plain rfl fun ρ d u W he hc hdi hd hJ => swp_val (run_assign (he.i hz (hJ.vals 2 (hd 2 (by kernel_rfl))) (j := 2) (d := 24) rfl (by decide))) (hJ.pure 6 rfl rfl)
        · exact KStep.plain rfl fun ρ d u W he hc hdi hd hJ => swp_val (run_assign (he.i hz (hJ.vals 5 (hd 5 (by kernel_rfl))) (j := 5) (d := 27) rfl (by decide))) (hJ.pure 7 rfl rfl)
    · have HNC : Hid (n = cntP d l) := Lib.hid (by omega)
      have HL1 := HL
      go_wp2_with fail
      clear HK
      have hnc := HNC.out
      subst hnc
      clear HNC
      refine wp_abs fun a0 hA => ?_
      have h0 : a0.eval (.tmp 0) = .slice (some ⟨g, o, none⟩) l.length cap := by rw [hA]; rfl
      have h6 : a0.eval (.tmp 6) = .int .i64 (cntP d l : Int) := by rw [hA]; rfl
      have hz : a0.tmps.size = 28 := by rw [hA]; rfl
      refine wp_region_K [some 22, some 23, some 24, some 25, some 26, some 27, some 4, some 5] 28 (CJ (hlvV g o l.length cap (cntP d l) pb) (fun _ _ => True) [] (bwS wr)) (by kernel_rfl) (by kernel_rfl) (by kernel_rfl) rfl (by kernel_rfl) hz (CJ.start (fun i => trivial) ⟨by omega, (Below.refl _ wr).drew⟩) ?_ ⟨?_, ?_, ?_, ?_, ?_, ?_, ?_, ?_, trivial⟩
      · intro d u W hd hJ
        have hW := bwS_inv hJ
        have e1 : u 6 = _ := hJ.vals 6 (hd 6 (by decide))
        have e2 : u 7 = _ := hJ.vals 7 (hd 7 (by decide))
        rw [hA]
        simp only [putAll, Act.put, List.setIfInBounds_toArray, List.set_cons_zero, List.set_cons_succ]
        clear hJ hd h0 h6 hz hA
        clear a0
        rw [e1, e2]
        clear e1 e2
        have HF := Lib.hid (bstep HL1.out hW)
        clear hW
        go_wp2_with fail
        go_ret2
        exact ⟨pb, rfl, HPb.out, HF.out⟩
      · exact KStep.plain rfl fun ρ d u W he hc hdi hd hJ => swp_val (run_move (he.o h0 rfl)) (hJ.pure 0 rfl rfl)
      · exact KStep.plain rfl fun ρ d u W he hc hdi hd hJ => swp_val (run_move (he.o h6 rfl)) (hJ.pure 1 rfl rfl)
      · exact KStep.plain rfl fun ρ d u W he hc hdi hd hJ => swp_val (run_slcH (he.i hz (hJ.vals 0 (hd 0 (by kernel_rfl))) (j := 0) (d := 22) rfl (by decide)) (he.i hz (hJ.vals 1 (hd 1 (by kernel_rfl))) (j := 1) (d := 23) rfl (by decide)) (HHi.out W)) (hJ.pure 2 rfl rfl)
      · exact KStep.plain rfl fun ρ d u W he hc hdi hd hJ => swp_val (run_move (he.o h0 rfl)) (hJ.pure 3 rfl rfl)
      · exact KStep.plain rfl fun ρ d u W he hc hdi hd hJ => swp_val (run_move (he.o h6 rfl)) (hJ.pure 4 rfl rfl)
      · exact KStep.plain rfl fun ρ d u W he hc hdi hd hJ => swp_val (run_slcL (he.i hz (hJ.vals 3 (hd 3 (by kernel_rfl))) (j := 3) (d := 25) rfl (by decide)) (he.i hz (hJ.vals 4 (hd 4 (by kernel_rfl))) (j := 4) (d := 26) rfl (by decide)) (HLo.out W)) (hJ.pure 5 rfl rfl)
      · exact KStep.plain rfl fun ρ d u W he hc hdi hd hJ => swp_val (run_assign (he.i hz (hJ.vals 2 (hd 2 (by kernel_rfl))) (j := 2) (d := 24) rfl (by decide))) (hJ.pure 6 rfl rfl)
      · exact KStep.plain rfl fun ρ d u W he hc hdi hd hJ => swp_val (run_assign (he.i hz (hJ.vals 5 (hd 5 (by kernel_rfl))) (j := 5) (d := 27) rfl (by decide))) (hJ.pure 7 rfl rfl)
end Go.Proofs.YtichklplcpkjdaaDoor
