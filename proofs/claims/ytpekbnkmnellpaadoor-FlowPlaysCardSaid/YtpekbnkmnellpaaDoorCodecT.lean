/-
  The walks of codec's Reader: Num, Text, End; and of Writer's Text.
-/
import Derived.Test.YtpekbnkmnellpaaDoorCodecR
namespace Go.Proofs.YtpekbnkmnellpaaDoor
open Go.RowKit
set_option linter.unusedVariables false

theorem newreader_is (s : ByteArray) (w : World) : Calls Tryd.prog 81 #[.string s] w fun e w' => e = .returned (.pointer (some ⟨w.heap.size, 0, none⟩)) ∧ w' = w.alloc (.cells #[.string s, .bool false] 130) := by
  go_enter Tryd.func81, Tryd.ntmps81
  go_wp2
  go_ret
  exact ⟨rfl, rfl⟩
theorem ext_size (s : ByteArray) (n : Nat) : (s.extract 0 n).size ≤ n := by
  rw [ByteArray.size_extract]
  omega
def RS.numV (r : RS) : Nat := if r.cutBad 8 then 0 else valF 0 (r.rest.extract 0 8).data.toList
set_option maxRecDepth 100000 in
set_option maxHeartbeats 1000000 in
theorem cnum_is (w : World) (g : Nat) (r : RS) (h : Rd w g r.rest r.bad) (hs : r.rest.size ≤ 140737488355328) :
    Calls Tryd.prog 82 #[.pointer (some ⟨g, 0, none⟩)] w fun e w' => e = .returned (.int .u64 (r.numV : Nat)) ∧ Rd w' g (r.cut 8).rest (r.cut 8).bad ∧ Only [g] w w' := by
  have hcut : Calls Tryd.prog 99 #[.pointer (some ⟨g, 0, none⟩), .int .i64 8] w _ := cut_is w g r 8 h hs (by omega)
  have HCut := Lib.hid hcut
  have HH := Lib.hid h
  clear hcut h
  obtain ⟨b, hb⟩ : ∃ b, r.cutBad 8 = b := ⟨_, rfl⟩
  have HE : Hid ((r.cut 8).bad = b ∧ r.cutV 8 = (if b then ⟨#[]⟩ else r.rest.extract 0 8) ∧ r.numV = if b then 0 else valF 0 (r.rest.extract 0 8).data.toList) := Lib.hid (by unfold RS.cut RS.cutV RS.numV; rw [hb]; exact ⟨rfl, rfl, rfl⟩)
  clear hb
  go_enter Tryd.func82, Tryd.ntmps82
  go_wp2_with fail
  refine HCut.out.mono ?_
  rintro e w1 ⟨rfl, hr1, ho1⟩
  rw [HE.out.1] at hr1
  rw [HE.out.2.1]
  have HR : Hid (Blk w1 g 130 #[.string (r.cut 8).rest, .bool b]) := Lib.hid hr1
  have HO := Lib.hid ho1
  have c1 : w1.cell? ⟨g, 1, none⟩ = some (.bool b) := HR.out.cell 1
  have HB2 : Hid ((r.cut 8).bad = b) := Lib.hid HE.out.1
  have HNV := Lib.hid HE.out.2.2
  clear hr1 ho1 HCut HE
  cases b with
  | true =>
    go_wp2_with fail
    go_ret
    exact ⟨by rw [HNV.out]; rfl, by rw [HB2.out]; exact HR.out, HO.out⟩
  | false =>
    simp only [Bool.false_eq_true, if_false] at HNV ⊢
    have hsz := ext_size r.rest 8
    generalize r.rest.extract 0 8 = x at hsz HNV ⊢
    go_wp2_with fail
    refine (value_is x hsz w1).mono ?_
    rintro e w2 ⟨rfl, hb2⟩
    have HR2 := Lib.hid (HR.out.below hb2)
    have HO2 := Lib.hid (HO.out.trans (Only.of_below hb2))
    clear hb2 c1
    go_wp2_with fail
    go_ret
    exact ⟨by rw [HNV.out]; rfl, by rw [HB2.out]; exact HR2.out, HO2.out⟩
def RS.textN (r : RS) : Nat := valF 0 (r.rest.extract 0 4).data.toList
def RS.marked (r : RS) (most : Nat) : RS := ⟨(r.cut 4).rest, decide (most < r.textN)⟩
def RS.textV (r : RS) (most : Nat) : ByteArray := if r.cutBad 4 then ⟨#[]⟩ else (r.marked most).cutV r.textN
def RS.text (r : RS) (most : Nat) : RS := if r.cutBad 4 then r.cut 4 else (r.marked most).cut r.textN
theorem RS.cut_le (r : RS) (n : Nat) : (r.cut n).rest.size ≤ r.rest.size := by
  unfold RS.cut
  simp only
  split
  · omega
  · rw [ByteArray.size_extract]; omega
set_option maxRecDepth 100000 in
set_option maxHeartbeats 1000000 in
theorem ctext_is (w : World) (g : Nat) (r : RS) (most : Nat) (h : Rd w g r.rest r.bad) (hs : r.rest.size ≤ 140737488355328) (hm : most ≤ 4294967296) :
    Calls Tryd.prog 83 #[.pointer (some ⟨g, 0, none⟩), .int .i64 most] w fun e w' => e = .returned (.string (r.textV most)) ∧ Rd w' g (r.text most).rest (r.text most).bad ∧ Only [g] w w' := by
  have hcut : Calls Tryd.prog 99 #[.pointer (some ⟨g, 0, none⟩), .int .i64 4] w _ := cut_is w g r 4 h hs (by omega)
  have HCut := Lib.hid hcut
  have HH := Lib.hid h
  clear hcut h
  have hcl := r.cut_le 4
  obtain ⟨b, hb⟩ : ∃ b, r.cutBad 4 = b := ⟨_, rfl⟩
  have HE : Hid ((r.cut 4).bad = b ∧ r.cutV 4 = (if b then ⟨#[]⟩ else r.rest.extract 0 4)) := Lib.hid (by unfold RS.cut RS.cutV; rw [hb]; exact ⟨rfl, rfl⟩)
  have HT : Hid (r.textV most = (if b then ⟨#[]⟩ else (r.marked most).cutV r.textN) ∧ r.text most = (if b then r.cut 4 else (r.marked most).cut r.textN)) := Lib.hid (by unfold RS.textV RS.text; rw [hb]; exact ⟨rfl, rfl⟩)
  clear hb
  go_enter Tryd.func83, Tryd.ntmps83
  go_wp2_with fail
  refine HCut.out.mono ?_
  rintro e w1 ⟨rfl, hr1, ho1⟩
  rw [HE.out.1] at hr1
  rw [HE.out.2]
  have HR : Hid (Blk w1 g 130 #[.string (r.cut 4).rest, .bool b]) := Lib.hid hr1
  have HO := Lib.hid ho1
  have c1 : w1.cell? ⟨g, 1, none⟩ = some (.bool b) := HR.out.cell 1
  clear hr1 ho1 HCut
  cases b with
  | true =>
    go_wp2_with fail
    go_ret
    exact ⟨by rw [HT.out.1]; rfl, by rw [HT.out.2, if_pos trivial, HE.out.1]; exact HR.out, HO.out⟩
  | false =>
    simp only [Bool.false_eq_true, if_false] at HT ⊢
    have hsz := ext_size r.rest 4
    have hv := valF_lt (r.rest.extract 0 4).data.toList
    rw [len_data] at hv
    have hpow : (256 : Nat) ^ (r.rest.extract 0 4).size ≤ 256 ^ 4 := Nat.pow_le_pow_right (by omega) hsz
    have HN : Hid (r.textN = valF 0 (r.rest.extract 0 4).data.toList) := Lib.hid rfl
    have HM : Hid (r.marked most = ⟨(r.cut 4).rest, decide (most < r.textN)⟩) := Lib.hid rfl
    generalize r.rest.extract 0 4 = x at hsz hv hpow HN ⊢
    go_wp2_with fail
    refine (value_is x (by omega) w1).mono ?_
    rintro e w2 ⟨rfl, hb2⟩
    have HR2 := Lib.hid (HR.out.below hb2)
    have HO2 := Lib.hid (HO.out.trans (Only.of_below hb2))
    clear hb2 c1 HR HO HE
    rw [HM.out, HN.out] at HT
    clear HN HM
    generalize valF 0 x.data.toList = n at hv HT ⊢
    have hn4 : n < 4294967296 := by omega
    clear hv hpow hsz
    generalize (r.cut 4).rest = rs at HR2 hcl HT ⊢
    have c1 : w2.cell? ⟨g, 1, none⟩ = some (.bool false) := HR2.out.cell 1
    have f1 := HR2.out.frozen 1
    by_cases hgt : most < n
    · have HD : Hid (decide (most < n) = true) := Lib.hid (by simp [hgt])
      rw [HD.out] at HT
      have HR3 := Lib.hid (HR2.out.set_ 1 (.bool true))
      have HO3 := Lib.hid (HO2.out.set_ (g := g) (i := 1) (by simp) (.bool true))
      go_wp2_with fail
      generalize w2.setCell ⟨g, 1, none⟩ (.bool true) = w3 at HR3 HO3 ⊢
      refine (cut_is w3 g ⟨rs, true⟩ n HR3.out (by show rs.size ≤ _; omega) (by omega)).mono ?_
      rintro e w4 ⟨rfl, hr4, ho4⟩
      have HR4 := Lib.hid hr4
      have HO4 := Lib.hid (HO3.out.trans ho4)
      clear hr4 ho4 c1 f1
      have HT1 := Lib.hid HT.out.1
      have HT2 := Lib.hid HT.out.2
      clear HT
      generalize RS.cutV ⟨rs, true⟩ n = V at HT1 ⊢
      go_wp2_with fail
      go_ret
      exact ⟨by rw [HT1.out]; rfl, by rw [HT2.out]; exact HR4.out, HO4.out⟩
    · have HD : Hid (decide (most < n) = false) := Lib.hid (by simp [hgt])
      rw [HD.out] at HT
      go_wp2_with fail
      refine (cut_is w2 g ⟨rs, false⟩ n HR2.out (by show rs.size ≤ _; omega) (by omega)).mono ?_
      rintro e w4 ⟨rfl, hr4, ho4⟩
      have HR4 := Lib.hid hr4
      have HO4 := Lib.hid (HO2.out.trans ho4)
      clear hr4 ho4 c1 f1
      have HT1 := Lib.hid HT.out.1
      have HT2 := Lib.hid HT.out.2
      clear HT
      generalize RS.cutV ⟨rs, false⟩ n = V at HT1 ⊢
      go_wp2_with fail
      go_ret
      exact ⟨by rw [HT1.out]; rfl, by rw [HT2.out]; exact HR4.out, HO4.out⟩
def RS.endB (r : RS) : Bool := !r.bad && r.rest.toList.isEmpty
set_option maxRecDepth 100000 in
set_option maxHeartbeats 1000000 in
theorem cend_is (w : World) (g : Nat) (r : RS) (h : Rd w g r.rest r.bad) :
    Calls Tryd.prog 84 #[.pointer (some ⟨g, 0, none⟩)] w fun e w' => e = .returned (.bool r.endB) ∧ w = w' := by
  obtain ⟨s, b⟩ := r
  have HB : Hid (Blk w g 130 #[.string s, .bool b]) := Lib.hid h
  clear h
  have c0 : w.cell? ⟨g, 0, none⟩ = some (.string s) := HB.out.cell 0
  have c1 : w.cell? ⟨g, 1, none⟩ = some (.bool b) := HB.out.cell 1
  obtain ⟨t, ht⟩ : ∃ t, s.toList.isEmpty = t := ⟨_, rfl⟩
  have HE : Hid (RS.endB ⟨s, b⟩ = (!b && t)) := Lib.hid (by unfold RS.endB; rw [← ht])
  cases b <;> cases t
  all_goals
    go_enter Tryd.func84, Tryd.ntmps84
    go_wp2_with fail
    go_ret
    exact ⟨by rw [HE.out]; rfl, rfl⟩
end Go.Proofs.YtpekbnkmnellpaaDoor
