/-
  The walk of voussoirlaw06.Clash: where two unlike texts have one sum it says so. (Cut out of the texts of the seat of flows.)
-/
import Derived.Test.YtichklplcpkjdaaDoorStoP
import Derived.Deep.QuietTactic
import Derived.BigQuiet
namespace Go.Proofs.YtichklplcpkjdaaDoor
open Go.RowKit
set_option linter.unusedVariables false

theorem below_drewN' {B : Nat} {a w : World} (h : Below B a w) (n : Nat) : Below B a (w.drewN n) := ⟨h.os, h.tape, h.output, h.size, h.block⟩
set_option maxHeartbeats 1000000 in
theorem info_str : (Tryd.prog.info? 9).map (fun i => (i.zero, i.size, i.bytes)) = some (some (.string ⟨#[]⟩), 1, 16) := by kernel_rfl
/-- sums as cells -/
def sC (ss : List ByteArray) : List Value := ss.map fun s => Value.string (sumB s)
theorem sC_len (ss : List ByteArray) : (sC ss).length = ss.length := List.length_map ..
/-- no two unlike texts among the first i have one sum -/
def NoClash (ss : List ByteArray) (i : Nat) : Prop := ∀ a b (ha : a < ss.length) (hb : b < ss.length), a < i → b < a → sumB ss[a] = sumB ss[b] → ss[a] = ss[b]
def NoRow (ss : List ByteArray) (i k : Nat) : Prop := ∀ (hi : i < ss.length) b (hb : b < ss.length), b < k → sumB ss[i] = sumB ss[b] → ss[i] = ss[b]
theorem noClash_step {ss : List ByteArray} {i : Nat} (h : NoClash ss i) (hr : NoRow ss i i) : NoClash ss (i + 1) := fun a b ha hb hai hba he => by
  rcases Nat.lt_or_ge a i with hl | hl
  · exact h a b ha hb hl hba he
  · obtain rfl : a = i := by omega
    exact hr ha b hb hba he
theorem noRow_step {ss : List ByteArray} {i k : Nat} (h : NoRow ss i k) (hk : ∀ (hi : i < ss.length) (hk : k < ss.length), sumB ss[i] = sumB ss[k] → ss[i] = ss[k]) : NoRow ss i (k + 1) := fun hi b hb hbk he => by
  rcases Nat.lt_or_ge b k with hl | hl
  · exact h hi b hb hl he
  · obtain rfl : b = k := by omega
    exact hk hi hb he
def ClashRel (ss : List ByteArray) (w : World) (c : Nat) (d i : Value) (wr : World) : Prop :=
  ∃ j : Nat, j ≤ ss.length ∧ c = ss.length - j ∧ i = .int .i64 j ∧ wr.ownsRow w.heap.size 9 1 d j (sC (ss.take j)) ∧ NoClash ss j ∧ Below w.heap.size w wr
def ClashIn (ss : List ByteArray) (w : World) (j : Nat) (c : Nat) (k : Value) (wr w1 : World) : Prop :=
  ∃ m : Nat, m ≤ j ∧ c = j - m ∧ k = .int .i64 m ∧ NoRow ss j m ∧ ∃ nq, wr = w1.drewN nq
theorem own_below {w w' : World} {base : Nat} {v : Value} {n : Nat} {xs : List Value} {e : TypeId} (h : w.ownsRow base e 1 v n xs) (hb : Below w.heap.size w w') : w'.ownsRow base e 1 v n xs := by
  refine ⟨h.1, ?_⟩
  rcases h.2 with hn | ⟨g, cap, cur, hv, hbg, hgg, rest⟩
  · exact .inl hn
  · exact .inr ⟨g, cap, cur, hv, hbg, (hb.block g (lt_of_some hgg)).trans hgg, rest⟩
theorem own_shape {w : World} {base : Nat} {v : Value} {n : Nat} {xs : List Value} {e : TypeId} (h : w.ownsRow base e 1 v n xs) : ∃ ao cap, v = .slice ao n cap ∧ (0 < n → ∃ r, ao = some ⟨r, 0, none⟩ ∧ ∀ i u, xs[i]? = some u → w.cell? ⟨r, i, none⟩ = some u) := by
  have hc := fun g hg => World.ownsRow.cells h (g := g) hg
  rcases h.2 with ⟨hv, h0⟩ | ⟨g, cap, cur, hv, _⟩
  · exact ⟨none, 0, by rw [hv, h0], fun h => by omega⟩
  · refine ⟨_, cap, hv, fun _ => ⟨g, rfl, fun i u hi => ?_⟩⟩
    have := hc g (by rw [hv]; rfl) i u hi
    have e : (⟨g, 0, none⟩ : Addr).add i = ⟨g, i, none⟩ := by unfold Addr.add; split <;> simp_all
    rwa [e] at this
theorem own_at {w : World} {base : Nat} {v : Value} {n : Nat} {xs : List Value} {e : TypeId} (h : w.ownsRow base e 1 v n xs) (hn : 0 < n) : ∃ r cap, v = .slice (some ⟨r, 0, none⟩) n cap ∧ ∀ i u, xs[i]? = some u → w.cell? ⟨r, i, none⟩ = some u := by
  have hc := fun g hg => World.ownsRow.cells h (g := g) hg
  rcases h.2 with ⟨_, h0⟩ | ⟨g, cap, cur, hv, _⟩
  · omega
  · refine ⟨g, cap, hv, fun i u hi => ?_⟩
    have := hc g (by rw [hv]; rfl) i u hi
    have e : (⟨g, 0, none⟩ : Addr).add i = ⟨g, i, none⟩ := by unfold Addr.add; split <;> simp_all
    rwa [e] at this
set_option maxRecDepth 100000 in
set_option maxHeartbeats 1000000 in
theorem clash_is (ss : List ByteArray) (g cap : Nat) (w : World) (G : Glob w) (hg : g < w.heap.size) (hc : ∀ j (h : j < ss.length), w.cell? ⟨g, j, none⟩ = some (.string ss[j])) (hn : ss.length ≤ 100) (hN : ∀ s ∈ ss, s.size ≤ 140737488355328) (hex : ¬ NoClash ss ss.length) :
    Calls Tryd.prog 21 #[.slice (some ⟨g, 0, none⟩) ss.length cap] w fun e w' => e = .returned (.bool true) ∧ Below w.heap.size w w' := by
  have HC := Lib.hid hc
  have HG := Lib.hid G
  have HN := Lib.hid hN
  have HX := Lib.hid hex
  clear hc G hN hex
  go_enter Tryd.func21, Tryd.ntmps21
  go_wp2_with fail
  go_loopg [3, 4] ss.length (fun c d i wr => ClashRel ss w c d i wr)
  case atStart => exact ⟨0, by omega, rfl, rfl, World.ownsRow_nil _ _ _ _, fun a b _ _ h => by omega, Below.refl _ _⟩
  case round =>
    obtain ⟨j, hj, hk, rfl, hown, hno, hbel⟩ := hrel
    have HK := Lib.hid hk
    have HO := Lib.hid hown
    have HNo := Lib.hid hno
    have HL := Lib.hid hbel
    clear hk hown hno hbel
    by_cases hlt : j < ss.length
    · have hcell : wr.cell? ⟨g, j, none⟩ = some (.string ss[j]) := (HL.out.cell (p := ⟨g, j, none⟩) hg).trans (HC.out j hlt)
      go_wp2_with fail
      refine (sum_is ss[j] wr (HG.out.below HL.out HG.out.two) (HN.out _ (List.getElem_mem _))).mono ?_
      rintro e w1 ⟨rfl, hb1⟩
      have HO1 := Lib.hid (own_below HO.out hb1)
      have HL1 := Lib.hid (bstep HL.out hb1)
      clear hb1 hcell HO
      obtain ⟨ao, cap', rfl, hao⟩ := own_shape HO1.out
      have HAO := Lib.hid hao
      clear hao
      obtain ⟨sj, hsj⟩ : ∃ s, ss[j] = s := ⟨_, rfl⟩
      rw [hsj]
      have HSj := Lib.hid hsj
      clear hsj
      have hcj : w1.cell? ⟨g, j, none⟩ = some (.string sj) := (HL1.out.cell (p := ⟨g, j, none⟩) hg).trans (by rw [HC.out j hlt, HSj.out])
      obtain ⟨Sj, hS⟩ : ∃ S, sumB sj = S := ⟨_, rfl⟩
      rw [hS]
      have HSS := Lib.hid hS
      clear hS
      go_wp2_with fail
      go_loopg [6] j (fun c k wr' => ClashIn ss w j c k wr' w1)
      case atStart => exact ⟨0, by omega, rfl, rfl, fun _ b _ h => by omega, 0, rfl⟩
      case round =>
        obtain ⟨m, hm, hkm, rfl, hnr, nq, rfl⟩ := hrel
        have HKm := Lib.hid hkm
        have HNR := Lib.hid hnr
        clear hkm hnr
        by_cases hmj : m < j
        · have hms : m < ss.length := by omega
          obtain ⟨r, rfl, hrow⟩ := HAO.out (by omega)
          obtain ⟨sm, hsm⟩ : ∃ s, ss[m] = s := ⟨_, rfl⟩
          obtain ⟨Sm, hSm⟩ : ∃ s, sumB sm = s := ⟨_, rfl⟩
          have hcm : w1.cell? ⟨g, m, none⟩ = some (.string sm) := (HL1.out.cell (p := ⟨g, m, none⟩) hg).trans (by rw [HC.out m hms, hsm])
          have hdm : w1.cell? ⟨r, m, none⟩ = some (.string Sm) := hrow m _ (by
            rw [sC, List.getElem?_map, List.getElem?_take_of_lt hmj, List.getElem?_eq_getElem hms, hsm]
            show some (Value.string (sumB sm)) = _
            rw [hSm])
          have HSm := Lib.hid hsm
          have HSSm := Lib.hid hSm
          have mi : (m : Int) < (j : Int) := by omega
          have mn : (m : Int) < (ss.length : Int) := by omega
          have jn : (j : Int) < (ss.length : Int) := by omega
          clear hsm hSm hrow
          by_cases hEq : Sj = Sm
          · by_cases hEs : sj = sm
            · have t1 : (Sj.toList == Sm.toList) = true := by simp [hEq]
              have t2 : (sj.toList == sm.toList) = true := by simp [hEs]
              have HEs := Lib.hid hEs
              clear hEq hEs
              go_upto_region 9 with fail
              go_quiet (fail)
              go_wp2_with fail
              go_roundg (j - (m + 1))
              case measure => rw [HKm.out]; omega
              case rel => exact ⟨m + 1, by omega, rfl, rfl, noRow_step HNR.out (fun hi hk _ => by rw [HSj.out, HSm.out, HEs.out]), _, rfl⟩
            · have t1 : (Sj.toList == Sm.toList) = true := by simp [hEq]
              have t2 : (sj.toList == sm.toList) = false := by
                rw [beq_eq_false_iff_ne, ByteArray.toList_eq, ByteArray.toList_eq]
                exact fun h => hEs (str_ext h)
              clear hEq hEs
              go_upto_region 9 with fail
              go_quiet (fail)
              go_wp2_with fail
              go_ret
              exact ⟨rfl, ⟨HL1.out.os, HL1.out.tape, HL1.out.output, HL1.out.size, HL1.out.block⟩⟩
          · have t1 : (Sj.toList == Sm.toList) = false := by
              rw [beq_eq_false_iff_ne, ByteArray.toList_eq, ByteArray.toList_eq]
              exact fun h => hEq (str_ext h)
            have HEq := Lib.hid hEq
            clear hEq
            go_upto_region 9 with fail
            go_quiet (fail)
            go_wp2_with fail
            go_roundg (j - (m + 1))
            case measure => rw [HKm.out]; omega
            case rel => exact ⟨m + 1, by omega, rfl, rfl, noRow_step HNR.out (fun hi hk he => absurd (show Sj = Sm by rw [← HSS.out, ← HSSm.out, ← HSj.out, ← HSm.out]; exact he) HEq.out), _, rfl⟩
        · have HMJ : Hid (m = j) := Lib.hid (by omega)
          have HNJ : Hid (NoClash ss (j + 1)) := Lib.hid (noClash_step HNo.out (HMJ.out ▸ HNR.out))
          have HO2 : Hid ((w1.drewN nq).ownsRow w.heap.size 9 1 (.slice ao j cap') j (sC (ss.take j))) := Lib.hid HO1.out
          have HL2 := Lib.hid (below_drewN' HL1.out nq)
          have HTk : Hid (sC (ss.take j) ++ [.string Sj] = sC (ss.take (j + 1))) := Lib.hid (by
            rw [List.take_succ_eq_append_getElem hlt, sC, sC, List.map_append, HSj.out, List.map_cons, List.map_nil, HSS.out])
          clear HNR HKm HO1 HL1 HAO HNo hcj
          generalize w1.drewN nq = w2 at HO2 HL2 ⊢
          obtain ⟨i0, hi, hz0, hz1, hz2⟩ := info_parts info_str
          have HI := Lib.hid (And.intro hi (And.intro hz0 (And.intro hz1 hz2)))
          clear hi hz0 hz1 hz2
          go_wp2_with (at_builtin; refine wpList_append_own _ rfl _ _ 54 rfl w.heap.size 9 i0 (.string ⟨#[]⟩) 1 16 Tryd.underlying54 HI.out.1 HI.out.2.1 HI.out.2.2.1 HI.out.2.2.2 rfl (by decide) _ _ _ rfl (HO2.out.alloc _) ⟨w2.heap.size, 0, none⟩ 1 1 [.string Sj] rfl rfl (cell_one_new _ _ _) ?c2 ?c3 ?c4 ?c5 ?_)
          case c2 => intro u hu; simp at hu; subst hu; rfl
          case c3 => unfold maxLen; omega
          case c4 => omega
          case c5 => have := HL2.out.size; simp; omega
          intro v' w3 hown' hgrow hnil
          rw [HTk.out] at hown'
          have HR : Hid (ClashRel ss w (ss.length - (j + 1)) v' (.int .i64 ((j + 1 : Nat) : Int)) w3) := Lib.hid ⟨j + 1, by omega, rfl, rfl, hown', HNJ.out, (HL2.out.alloc HL2.out.size _).grown hgrow (by have := HL2.out.size; simp; omega) (fun k hk => (HO2.out.lt k hk).1)⟩
          clear hown' hgrow hnil
          go_wp2_with fail
          go_roundg (ss.length - (j + 1))
          case measure => rw [HK.out]; omega
          case rel => exact HR.out
    · have HJ : Hid (j = ss.length) := Lib.hid (by omega)
      exact absurd (HJ.out ▸ HNo.out) HX.out
end Go.Proofs.YtichklplcpkjdaaDoor
