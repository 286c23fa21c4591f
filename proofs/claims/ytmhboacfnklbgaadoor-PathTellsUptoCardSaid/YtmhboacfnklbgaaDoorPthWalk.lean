/-
  The walks of package path: form.parse, Parse and Print.
-/
import Derived.Test.YtmhboacfnklbgaaDoorAmtIs
import Derived.Test.YtmhboacfnklbgaaDoorPthMath
import Derived.Test.YtmhboacfnklbgaaDoorShelf
import Derived.Deep.RegionWith
import Derived.Deep.DeepCutAuto
namespace Go.Proofs.YtmhboacfnklbgaaDoor
open Go.RowKit
set_option linter.unusedVariables false

/-- what form.parse answers -/
def FP (k : Nat) (s : List UInt8) (e : Ending) : Prop :=
  ∃ (x y z : Nat) (ok : Bool), e = .returned (.tuple #[.agg #[.int .i64 x, .int .u64 y, .int .u64 z], .bool ok]) ∧ (ok = true → x = k ∧ Pth.parseK k s = some (y, z)) ∧ (ok = false → Pth.parseK k s = none)

theorem cutP (s : ByteArray) (ah R : List UInt8) (b : Bool) (h1 : Lib.trimPrefix s.data.toList ah = R) (h2 : Lib.hasPrefix s.data.toList ah = b) (w : World) :
    Calls Tryd.prog 21 #[.string s, .string ⟨ah.toArray⟩] w fun e w' => e = .returned (.tuple #[.string ⟨R.toArray⟩, .bool b]) ∧ w = w' :=
  (Tryd.strings_CutPrefix s ⟨ah.toArray⟩ w).mono fun _ _ ⟨he, hw⟩ => ⟨by rw [he]; simp [h1, h2], hw.symm⟩
theorem cutS (s be R : List UInt8) (b : Bool) (h1 : Lib.trimSuffix s be = R) (h2 : Lib.hasSuffix s be = b) (hs : s.length ≤ 9223372036854775807) (w : World) :
    Calls Tryd.prog 23 #[.string ⟨s.toArray⟩, .string ⟨be.toArray⟩] w fun e w' => e = .returned (.tuple #[.string ⟨R.toArray⟩, .bool b]) ∧ w = w' :=
  (Tryd.strings_CutSuffix ⟨s.toArray⟩ ⟨be.toArray⟩ w (by simpa [ByteArray.size] using hs)).mono fun _ _ ⟨he, hw⟩ => ⟨by rw [he]; simp [h1, h2], hw.symm⟩
theorem below_drewN {B : Nat} {a w : World} (h : Below B a w) (n : Nat) : Below B a (w.drewN n) := ⟨h.os, h.tape, h.output, h.size, h.block⟩
theorem cutC (s be X Y : List UInt8) (b : Bool) (h : Lib.cut s be = (X, Y, b)) (hs : s.length < 4294967281) (m : Int) (w : World) (hm : w.cell? ⟨1, 0, none⟩ = some (.int .i64 m)) :
    Calls Tryd.prog 22 #[.string ⟨s.toArray⟩, .string ⟨be.toArray⟩] w fun e w' => e = .returned (.tuple #[.string ⟨X.toArray⟩, .string ⟨Y.toArray⟩, .bool b]) ∧ ∃ n, w' = w.drewN n :=
  (Tryd.strings_Cut ⟨s.toArray⟩ ⟨be.toArray⟩ m w (by simpa [ByteArray.size] using hs) hm).mono fun _ _ ⟨he, hw⟩ => ⟨by rw [he]; simp [h], hw⟩
theorem parse_list (l : List UInt8) (n : Nat) (e : Int) (h : Amt.parse l = (n, e)) (w : World) (hs : l.length ≤ maxLen) :
    Calls Tryd.prog 24 #[.string ⟨l.toArray⟩] w fun r w' => r = .returned (.tuple #[.int .u64 (n : Int), .int .i64 e]) ∧ w = w' :=
  parse_is ⟨l.toArray⟩ n e (by simpa using h) w (by simpa [ByteArray.size] using hs)

set_option maxHeartbeats 400000 in
theorem fparse_none (k : Nat) (ah be : List UInt8) (two : Bool) (s : ByteArray) (w : World) (hp : Lib.hasPrefix s.data.toList ah = false) (HN : Hid (Pth.parseK k s.data.toList = none)) :
    Calls Tryd.prog 19 #[.agg #[.string ⟨ah.toArray⟩, .string ⟨be.toArray⟩, .bool two], .int .i64 k, .string s] w fun e w' => FP k s.data.toList e ∧ Below w.heap.size w w' := by
  go_enter Tryd.func19, Tryd.ntmps19
  go_wp2_with fail
  refine (cutP s ah _ _ rfl hp _).mono ?_
  rintro e w1 ⟨rfl, rfl⟩
  go_wp2_with fail
  refine bodyPost_ret (v := .tuple #[.agg #[.int .i64 0, .int .u64 0, .int .u64 0], .bool false]) (by simp [results, Tryd.results19, go_sem]) rfl ⟨⟨0, 0, 0, false, rfl, (fun h => by cases h), fun _ => HN.out⟩, ?_⟩
  exact ((Below.refl _ _).alloc (Nat.le_refl _) _).alloc (by simp) _

set_option maxHeartbeats 400000 in
theorem fparse_nocut (k : Nat) (ah be R X Y : List UInt8) (s : ByteArray) (m : Int) (w : World) (hp : Lib.hasPrefix s.data.toList ah = true) (hR : Hid (Lib.trimPrefix s.data.toList ah = R)) (hc : Hid (Lib.cut R be = (X, Y, false))) (hs : R.length < 4294967281)
    (hm : w.cell? ⟨1, 0, none⟩ = some (.int .i64 m)) (hg : 1 < w.heap.size) (HN : Hid (Pth.parseK k s.data.toList = none)) :
    Calls Tryd.prog 19 #[.agg #[.string ⟨ah.toArray⟩, .string ⟨be.toArray⟩, .bool true], .int .i64 k, .string s] w fun e w' => FP k s.data.toList e ∧ Below w.heap.size w w' := by
  have hm2 : ∀ o1 o2, ((w.alloc o1).alloc o2).cell? ⟨1, 0, none⟩ = some (.int .i64 m) := fun o1 o2 => by
    rw [World.cell?_alloc_lt _ _ _ (by simp; omega), World.cell?_alloc_lt _ _ _ hg]; exact hm
  have HM := Lib.hid hm2
  clear hm2
  go_enter Tryd.func19, Tryd.ntmps19
  go_wp2_with fail
  refine (cutP s ah R _ hR.out hp _).mono ?_
  rintro e w1 ⟨rfl, rfl⟩
  go_wp2_with fail
  refine (cutC R be X Y _ hc.out hs m _ (HM.out _ _)).mono ?_
  rintro e w1 ⟨rfl, n, rfl⟩
  go_wp2_with fail
  refine bodyPost_ret (v := .tuple #[.agg #[.int .i64 0, .int .u64 0, .int .u64 0], .bool false]) (by simp [results, Tryd.results19, go_sem]) rfl ⟨⟨0, 0, 0, false, rfl, (fun h => by cases h), fun _ => HN.out⟩, ?_⟩
  exact below_drewN (((Below.refl _ _).alloc (Nat.le_refl _) _).alloc (by simp) _) n

set_option maxHeartbeats 400000 in
theorem fparse_nosuf (k : Nat) (ah be R : List UInt8) (s : ByteArray) (w : World) (hp : Lib.hasPrefix s.data.toList ah = true) (hR : Hid (Lib.trimPrefix s.data.toList ah = R)) (hc : Lib.hasSuffix R be = false) (hs : R.length < 4294967281)
    (HN : Hid (Pth.parseK k s.data.toList = none)) :
    Calls Tryd.prog 19 #[.agg #[.string ⟨ah.toArray⟩, .string ⟨be.toArray⟩, .bool false], .int .i64 k, .string s] w fun e w' => FP k s.data.toList e ∧ Below w.heap.size w w' := by
  go_enter Tryd.func19, Tryd.ntmps19
  go_wp2_with fail
  refine (cutP s ah R _ hR.out hp _).mono ?_
  rintro e w1 ⟨rfl, rfl⟩
  go_wp2_with fail
  refine (cutS R be _ _ rfl hc (by omega) _).mono ?_
  rintro e w1 ⟨rfl, rfl⟩
  go_wp2_with fail
  refine bodyPost_ret (v := .tuple #[.agg #[.int .i64 0, .int .u64 0, .int .u64 0], .bool false]) (by simp [results, Tryd.results19, go_sem]) rfl ⟨⟨0, 0, 0, false, rfl, (fun h => by cases h), fun _ => HN.out⟩, ?_⟩
  exact ((Below.refl _ _).alloc (Nat.le_refl _) _).alloc (by simp) _

set_option maxHeartbeats 1000000 in
theorem fparse_one (k : Nat) (ah be R X : List UInt8) (a : Nat) (ea : Int) (s : ByteArray) (w : World) (hp : Lib.hasPrefix s.data.toList ah = true) (hR : Hid (Lib.trimPrefix s.data.toList ah = R)) (hc : Lib.hasSuffix R be = true) (hX : Hid (Lib.trimSuffix R be = X)) (hs : R.length < 4294967281) (hxl : X.length ≤ R.length)
    (hpa : Hid (Amt.parse X = (a, ea))) (HN : Hid (Pth.parseK k s.data.toList = if ea = 0 then some (a, 0) else none)) :
    Calls Tryd.prog 19 #[.agg #[.string ⟨ah.toArray⟩, .string ⟨be.toArray⟩, .bool false], .int .i64 k, .string s] w fun e w' => FP k s.data.toList e ∧ Below w.heap.size w w' := by
  have hmax : X.length ≤ maxLen := by unfold maxLen; omega
  obtain ⟨z, hz⟩ : ∃ z : Bool, (ea == 0) = z := ⟨_, rfl⟩
  cases z
  case' true => have HT := Lib.hid (HN.out.trans (if_pos (beq_iff_eq.1 hz)))
  case' false => have HT := Lib.hid (HN.out.trans (if_neg (beq_eq_false_iff_ne.1 hz)))
  all_goals
    clear HN
    go_enter Tryd.func19, Tryd.ntmps19
    go_wp2_with fail
    refine (cutP s ah R _ hR.out hp _).mono ?_
    rintro e w1 ⟨rfl, rfl⟩
    go_wp2_with fail
    refine (cutS R be X _ hX.out hc (by omega) _).mono ?_
    rintro e w1 ⟨rfl, rfl⟩
    go_wp2_with fail
    refine (parse_list X a ea hpa.out _ hmax).mono ?_
    rintro e w1 ⟨rfl, rfl⟩
    go_wp2_with fail
  · refine bodyPost_ret (v := .tuple #[.agg #[.int .i64 k, .int .u64 a, .int .u64 0], .bool false]) (by simp [results, Tryd.results19, go_sem]) rfl ⟨⟨k, a, 0, false, rfl, (fun h => by cases h), fun _ => HT.out⟩, ?_⟩
    exact ((Below.refl _ _).alloc (Nat.le_refl _) _).alloc (by simp) _
  · refine bodyPost_ret (v := .tuple #[.agg #[.int .i64 k, .int .u64 a, .int .u64 0], .bool true]) (by simp [results, Tryd.results19, go_sem]) rfl ⟨⟨k, a, 0, true, rfl, fun _ => ⟨rfl, HT.out⟩, (fun h => by cases h)⟩, ?_⟩
    exact ((Below.refl _ _).alloc (Nat.le_refl _) _).alloc (by simp) _

set_option maxHeartbeats 1000000 in
theorem fparse_two (k : Nat) (ah be R X Y : List UInt8) (a b : Nat) (ea eb : Int) (s : ByteArray) (m : Int) (w : World) (hp : Lib.hasPrefix s.data.toList ah = true) (hR : Hid (Lib.trimPrefix s.data.toList ah = R)) (hc : Hid (Lib.cut R be = (X, Y, true))) (hs : R.length < 4294967281) (hxl : X.length ≤ R.length) (hyl : Y.length ≤ R.length)
    (hm : w.cell? ⟨1, 0, none⟩ = some (.int .i64 m)) (hg : 1 < w.heap.size)
    (hpa : Hid (Amt.parse X = (a, ea))) (hpb : Hid (Amt.parse Y = (b, eb))) (HN : Hid (Pth.parseK k s.data.toList = if ea = 0 ∧ eb = 0 then some (a, b) else none)) :
    Calls Tryd.prog 19 #[.agg #[.string ⟨ah.toArray⟩, .string ⟨be.toArray⟩, .bool true], .int .i64 k, .string s] w fun e w' => FP k s.data.toList e ∧ Below w.heap.size w w' := by
  have hmax : X.length ≤ maxLen := by unfold maxLen; omega
  have hmay : Y.length ≤ maxLen := by unfold maxLen; omega
  have hm2 : ∀ o1 o2, ((w.alloc o1).alloc o2).cell? ⟨1, 0, none⟩ = some (.int .i64 m) := fun o1 o2 => by
    rw [World.cell?_alloc_lt _ _ _ (by simp; omega), World.cell?_alloc_lt _ _ _ hg]; exact hm
  have HM := Lib.hid hm2
  clear hm2
  obtain ⟨z, hz⟩ : ∃ z : Bool, (ea == 0) = z := ⟨_, rfl⟩
  obtain ⟨y, hy⟩ : ∃ y : Bool, (eb == 0) = y := ⟨_, rfl⟩
  obtain ⟨ok, hok⟩ : ∃ ok : Bool, (z && y) = ok := ⟨_, rfl⟩
  have HT : Hid ((ok = true → k = k ∧ Pth.parseK k s.data.toList = some (a, b)) ∧ (ok = false → Pth.parseK k s.data.toList = none)) := by
    refine Lib.hid ⟨fun h => ⟨rfl, ?_⟩, fun h => ?_⟩
    · rw [h, Bool.and_eq_true] at hok
      rw [HN.out, if_pos ⟨by rw [hok.1] at hz; exact beq_iff_eq.1 hz, by rw [hok.2] at hy; exact beq_iff_eq.1 hy⟩]
    · rw [h, Bool.and_eq_false_iff] at hok
      rw [HN.out, if_neg]
      rintro ⟨e1, e2⟩
      rcases hok with h3 | h3
      · rw [h3, e1] at hz; cases hz
      · rw [h3, e2] at hy; cases hy
  clear HN
  have HO := Lib.hid hok
  clear hok
  obtain ⟨F, hF⟩ : ∃ F : Prop, F = FP k s.data.toList (.returned (.tuple #[.agg #[.int .i64 k, .int .u64 a, .int .u64 b], .bool ok])) := ⟨_, rfl⟩
  have HFP : F := by rw [hF]; exact ⟨k, a, b, ok, rfl, HT.out⟩
  rw [← HO.out] at hF
  have HF := Lib.hid hF
  clear hF HT HO
  have hsd : ∀ (W : World) (n : Nat) (a : Addr) (v : Value), (W.drewN n).setCell a v = (W.setCell a v).drewN n := fun _ _ _ _ => rfl
  cases z <;> cases y
  all_goals
    go_enter Tryd.func19, Tryd.ntmps19
    go_wp2_with fail
    refine (cutP s ah R _ hR.out hp _).mono ?_
    rintro e w1 ⟨rfl, rfl⟩
    go_wp2_with fail
    refine (cutC R be X Y _ hc.out hs m _ (HM.out _ _)).mono ?_
    rintro e w1 ⟨rfl, n, rfl⟩
    go_wp2_with fail
    refine (parse_list X a ea hpa.out _ hmax).mono ?_
    rintro e w1 ⟨rfl, rfl⟩
    go_wp2_with fail
    refine (parse_list Y b eb hpb.out _ hmay).mono ?_
    rintro e w1 ⟨rfl, rfl⟩
    go_wp2_with fail
  · refine bodyPost_ret (v := .tuple #[.agg #[.int .i64 k, .int .u64 a, .int .u64 b], .bool false]) (by simp [results, Tryd.results19, go_sem]) rfl ⟨by have h := HF.out; rw [h] at HFP; exact HFP, ?_⟩
    exact below_drewN (((Below.refl _ _).alloc (Nat.le_refl _) _).alloc (by simp) _) n
  · refine bodyPost_ret (v := .tuple #[.agg #[.int .i64 k, .int .u64 a, .int .u64 b], .bool false]) (by simp [results, Tryd.results19, go_sem]) rfl ⟨by have h := HF.out; rw [h] at HFP; exact HFP, ?_⟩
    exact below_drewN (((Below.refl _ _).alloc (Nat.le_refl _) _).alloc (by simp) _) n
  · refine bodyPost_ret (v := .tuple #[.agg #[.int .i64 k, .int .u64 a, .int .u64 b], .bool false]) (by simp [results, Tryd.results19, go_sem]) rfl ⟨by have h := HF.out; rw [h] at HFP; exact HFP, ?_⟩
    exact below_drewN (((Below.refl _ _).alloc (Nat.le_refl _) _).alloc (by simp) _) n
  · refine bodyPost_ret (v := .tuple #[.agg #[.int .i64 k, .int .u64 a, .int .u64 b], .bool true]) (by simp [results, Tryd.results19, go_sem]) rfl ⟨by have h := HF.out; rw [h] at HFP; exact HFP, ?_⟩
    exact below_drewN (((Below.refl _ _).alloc (Nat.le_refl _) _).alloc (by simp) _) n

theorem fparse (k : Nat) (h1 : 1 ≤ k) (h8 : k ≤ 8) (s : ByteArray) (m : Int) (w : World) (hs : s.size < 4294967281) (hm : w.cell? ⟨1, 0, none⟩ = some (.int .i64 m)) (hg : 1 < w.heap.size) :
    Calls Tryd.prog 19 #[.agg #[.string ⟨(Pth.fm k).1.toArray⟩, .string ⟨(Pth.fm k).2.1.toArray⟩, .bool (Pth.fm k).2.2], .int .i64 k, .string s] w fun e w' => FP k s.data.toList e ∧ Below w.heap.size w w' := by
  obtain ⟨ah, be, two, hf⟩ : ∃ ah be two, Pth.fm k = (ah, be, two) := ⟨_, _, _, rfl⟩
  simp only [hf]
  have hlen := len_data s
  rcases hp : Lib.hasPrefix s.data.toList ah with _ | _
  · refine fparse_none k ah be two s w hp ?_
    refine Lib.hid ?_
    have hp' : ah.isPrefixOf s.data.toList = false := hp
    unfold Pth.parseK
    rw [hf]
    simp only [hp', Bool.false_eq_true, if_false]
  · have hp' : ah.isPrefixOf s.data.toList = true := hp
    have hR : Lib.trimPrefix s.data.toList ah = s.data.toList.drop ah.length := by unfold Lib.trimPrefix; rw [hp]; rfl
    have hRl : (s.data.toList.drop ah.length).length < 4294967281 := by simp; omega
    cases two with
    | true =>
      obtain ⟨X, Y, ok, hc⟩ : ∃ X Y ok, Lib.cut (s.data.toList.drop ah.length) be = (X, Y, ok) := ⟨_, _, _, rfl⟩
      cases ok with
      | false =>
        refine fparse_nocut k ah be _ X Y s m w hp (Lib.hid hR) (Lib.hid hc) hRl hm hg ?_
        refine Lib.hid ?_
        unfold Pth.parseK
        rw [hf]
        simp only [hp', if_true, hc]
        simp
      | true =>
        have hcut := Pth.cut_eq (s := s.data.toList.drop ah.length) (sep := be) (by rw [hc])
        rw [hc] at hcut
        have hll := congrArg List.length hcut
        simp only [List.length_append] at hll
        obtain ⟨a, ea, hpa⟩ : ∃ a ea, Amt.parse X = (a, ea) := ⟨_, _, rfl⟩
        obtain ⟨b, eb, hpb⟩ : ∃ b eb, Amt.parse Y = (b, eb) := ⟨_, _, rfl⟩
        refine fparse_two k ah be _ X Y a b ea eb s m w hp (Lib.hid hR) (Lib.hid hc) hRl (by omega) (by omega) hm hg (Lib.hid hpa) (Lib.hid hpb) ?_
        refine Lib.hid ?_
        unfold Pth.parseK
        rw [hf]
        simp only [hp', if_true, hc, hpa, hpb]
        simp
    | false =>
      rcases hc : Lib.hasSuffix (s.data.toList.drop ah.length) be with _ | _
      · refine fparse_nosuf k ah be _ s w hp (Lib.hid hR) hc hRl ?_
        have hc' : be.isSuffixOf (s.data.toList.drop ah.length) = false := hc
        refine Lib.hid ?_
        unfold Pth.parseK
        rw [hf]
        simp only [hp', if_true, hc']
        simp
      · have hc' : be.isSuffixOf (s.data.toList.drop ah.length) = true := hc
        have hX : Lib.trimSuffix (s.data.toList.drop ah.length) be = (s.data.toList.drop ah.length).take ((s.data.toList.drop ah.length).length - be.length) := by unfold Lib.trimSuffix; rw [hc]; rfl
        obtain ⟨a, ea, hpa⟩ : ∃ a ea, Amt.parse ((s.data.toList.drop ah.length).take ((s.data.toList.drop ah.length).length - be.length)) = (a, ea) := ⟨_, _, rfl⟩
        refine fparse_one k ah be _ _ a ea s w hp (Lib.hid hR) hc (Lib.hid hX) hRl (List.length_take_le' _ _) (Lib.hid hpa) ?_
        refine Lib.hid ?_
        unfold Pth.parseK
        rw [hf]
        simp only [hp', if_true, hc', hpa]
        simp

/-- the cells of the table of forms -/
def formsA : Array Value := #[.string ⟨#[]⟩, .string ⟨#[]⟩, .bool false, .string ⟨(Pth.fm 1).1.toArray⟩, .string ⟨(Pth.fm 1).2.1.toArray⟩, .bool (Pth.fm 1).2.2, .string ⟨(Pth.fm 2).1.toArray⟩, .string ⟨(Pth.fm 2).2.1.toArray⟩, .bool (Pth.fm 2).2.2, .string ⟨(Pth.fm 3).1.toArray⟩, .string ⟨(Pth.fm 3).2.1.toArray⟩, .bool (Pth.fm 3).2.2, .string ⟨(Pth.fm 4).1.toArray⟩, .string ⟨(Pth.fm 4).2.1.toArray⟩, .bool (Pth.fm 4).2.2, .string ⟨(Pth.fm 5).1.toArray⟩, .string ⟨(Pth.fm 5).2.1.toArray⟩, .bool (Pth.fm 5).2.2, .string ⟨(Pth.fm 6).1.toArray⟩, .string ⟨(Pth.fm 6).2.1.toArray⟩, .bool (Pth.fm 6).2.2, .string ⟨(Pth.fm 7).1.toArray⟩, .string ⟨(Pth.fm 7).2.1.toArray⟩, .bool (Pth.fm 7).2.2, .string ⟨(Pth.fm 8).1.toArray⟩, .string ⟨(Pth.fm 8).2.1.toArray⟩, .bool (Pth.fm 8).2.2]
theorem ix0 (w : World) : (Instr.index 44 (.agg formsA) (.int .i64 0)).run Tryd.prog w = .ok (.agg #[.string ⟨(Pth.fm 0).1.toArray⟩, .string ⟨(Pth.fm 0).2.1.toArray⟩, .bool (Pth.fm 0).2.2]) w := by kernel_rfl
theorem ix1 (w : World) : (Instr.index 44 (.agg formsA) (.int .i64 1)).run Tryd.prog w = .ok (.agg #[.string ⟨(Pth.fm 1).1.toArray⟩, .string ⟨(Pth.fm 1).2.1.toArray⟩, .bool (Pth.fm 1).2.2]) w := by kernel_rfl
theorem ix2 (w : World) : (Instr.index 44 (.agg formsA) (.int .i64 2)).run Tryd.prog w = .ok (.agg #[.string ⟨(Pth.fm 2).1.toArray⟩, .string ⟨(Pth.fm 2).2.1.toArray⟩, .bool (Pth.fm 2).2.2]) w := by kernel_rfl
theorem ix3 (w : World) : (Instr.index 44 (.agg formsA) (.int .i64 3)).run Tryd.prog w = .ok (.agg #[.string ⟨(Pth.fm 3).1.toArray⟩, .string ⟨(Pth.fm 3).2.1.toArray⟩, .bool (Pth.fm 3).2.2]) w := by kernel_rfl
theorem ix4 (w : World) : (Instr.index 44 (.agg formsA) (.int .i64 4)).run Tryd.prog w = .ok (.agg #[.string ⟨(Pth.fm 4).1.toArray⟩, .string ⟨(Pth.fm 4).2.1.toArray⟩, .bool (Pth.fm 4).2.2]) w := by kernel_rfl
theorem ix5 (w : World) : (Instr.index 44 (.agg formsA) (.int .i64 5)).run Tryd.prog w = .ok (.agg #[.string ⟨(Pth.fm 5).1.toArray⟩, .string ⟨(Pth.fm 5).2.1.toArray⟩, .bool (Pth.fm 5).2.2]) w := by kernel_rfl
theorem ix6 (w : World) : (Instr.index 44 (.agg formsA) (.int .i64 6)).run Tryd.prog w = .ok (.agg #[.string ⟨(Pth.fm 6).1.toArray⟩, .string ⟨(Pth.fm 6).2.1.toArray⟩, .bool (Pth.fm 6).2.2]) w := by kernel_rfl
theorem ix7 (w : World) : (Instr.index 44 (.agg formsA) (.int .i64 7)).run Tryd.prog w = .ok (.agg #[.string ⟨(Pth.fm 7).1.toArray⟩, .string ⟨(Pth.fm 7).2.1.toArray⟩, .bool (Pth.fm 7).2.2]) w := by kernel_rfl
theorem ix8 (w : World) : (Instr.index 44 (.agg formsA) (.int .i64 8)).run Tryd.prog w = .ok (.agg #[.string ⟨(Pth.fm 8).1.toArray⟩, .string ⟨(Pth.fm 8).2.1.toArray⟩, .bool (Pth.fm 8).2.2]) w := by kernel_rfl
theorem index_forms (j : Nat) (hj : j ≤ 8) (w : World) : (Instr.index 44 (.agg formsA) (.int .i64 (j : Int))).run Tryd.prog w = .ok (.agg #[.string ⟨(Pth.fm j).1.toArray⟩, .string ⟨(Pth.fm j).2.1.toArray⟩, .bool (Pth.fm j).2.2]) w := by
  have : j = 0 ∨ j = 1 ∨ j = 2 ∨ j = 3 ∨ j = 4 ∨ j = 5 ∨ j = 6 ∨ j = 7 ∨ j = 8 := by omega
  rcases this with rfl | rfl | rfl | rfl | rfl | rfl | rfl | rfl | rfl
  · exact ix0 w
  · exact ix1 w
  · exact ix2 w
  · exact ix3 w
  · exact ix4 w
  · exact ix5 w
  · exact ix6 w
  · exact ix7 w
  · exact ix8 w
/-- what the package's variables hold: the table of forms; some number -/
def Glob (w : World) : Prop := (∃ t fr, w.heap[0]? = some (.cells formsA t fr)) ∧ (∃ m : Int, w.cell? ⟨1, 0, none⟩ = some (.int .i64 m)) ∧ 1 < w.heap.size ∧ 0 < w.heap.size
theorem Glob.below {w w' : World} (h : Glob w) (hb : Below w.heap.size w w') : Glob w' := by
  obtain ⟨⟨t, fr, h1⟩, ⟨m, h2⟩, h3, h4⟩ := h
  exact ⟨⟨t, fr, (hb.block _ h4).trans h1⟩, ⟨m, (hb.cell (p := ⟨1, 0, none⟩) h3).trans h2⟩, Nat.lt_of_lt_of_le h3 hb.size, Nat.lt_of_lt_of_le h4 hb.size⟩

end Go.Proofs.YtmhboacfnklbgaaDoor
