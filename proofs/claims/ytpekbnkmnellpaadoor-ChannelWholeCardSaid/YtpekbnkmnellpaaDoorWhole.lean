/-
  The walk of ChannelWhole.
-/
import Derived.Test.YtpekbnkmnellpaaDoorFit
import Derived.Test.YtpekbnkmnellpaaDoorEqs
import Derived.Test.YtpekbnkmnellpaaDoorOpenC
namespace Go.Proofs.YtpekbnkmnellpaaDoor
open Go.RowKit
set_option linter.unusedVariables false

theorem whole_pure (A : Ch) (hA : A.ok) (rA : A.rightB = true) : A.layE = 0 ∧ 0 < A.layV.size ∧ A.layV.size ≤ 1000 ∧ (∀ k, k < A.layV.size → takeC (A.layV.extract 0 k) = Ch.zero ∧ takeE (A.layV.extract 0 k) = 181) ∧
    takeE (A.layV ++ ⟨#[]⟩) = 0 ∧ ∀ more : ByteArray, more.toList.isEmpty = false → takeC (A.layV ++ more) = Ch.zero ∧ takeE (A.layV ++ more) = 181 := by
  have vA : A.layV = ⟨A.layL.toArray⟩ := by unfold Ch.layV; rw [rA]; rfl
  have bA : bl A.layV = A.layL := by rw [vA, bl_mk]
  obtain ⟨h1, h2, h3, h4, h5⟩ := rightB_parts A rA
  have hlen : A.layL.length = 40 + A.port.size + A.pport.size := by
    simp only [Ch.layL, List.length_append, nB_len, numsL_len, len_data, List.length_cons, List.length_nil]
    omega
  have hsz : A.layV.size = 40 + A.port.size + A.pport.size := by rw [← len_data]; show (bl A.layV).length = _; rw [bA, hlen]
  refine ⟨by unfold Ch.layE; rw [rA]; rfl, by omega, by omega, ?_, ?_, ?_⟩
  · intro k hk
    have hn : takeB (A.layV.extract 0 k) = false := by
      cases hb : takeB (A.layV.extract 0 k) with
      | false => rfl
      | true =>
        obtain ⟨e1, e2⟩ := take_only _ hb
        rw [bl_take, bA] at e1
        have hcat : A.layL ++ [] = (takeRaw (A.layV.extract 0 k)).layL ++ A.layL.drop k := by rw [← e1, List.append_nil, List.take_append_drop]
        obtain ⟨_, e3⟩ := lay_prefix A _ hA (takeRaw_ok _) rA e2 [] _ hcat
        have := congrArg List.length e3
        rw [List.length_drop, List.length_nil] at this
        omega
    exact ⟨by unfold takeC; rw [hn]; rfl, by unfold takeE; rw [hn]; rfl⟩
  · obtain ⟨t1, _⟩ := take_lay A hA rA (A.layV ++ ⟨#[]⟩) (by show (A.layV ++ ⟨#[]⟩).data.toList = _; rw [ByteArray.data_append, Array.toList_append]; show bl A.layV ++ [] = _; rw [List.append_nil, bA])
    unfold takeE; rw [t1]; rfl
  · intro more hm
    have hn : takeB (A.layV ++ more) = false := by
      cases hb : takeB (A.layV ++ more) with
      | false => rfl
      | true =>
        obtain ⟨e1, e2⟩ := take_only _ hb
        have e0 : bl (A.layV ++ more) = A.layL ++ bl more := by show (A.layV ++ more).data.toList = _; rw [ByteArray.data_append, Array.toList_append]; show bl A.layV ++ bl more = _; rw [bA]
        have hcat : A.layL ++ bl more = (takeRaw (A.layV ++ more)).layL ++ [] := by rw [List.append_nil, ← e1, e0]
        obtain ⟨_, e3⟩ := lay_prefix A _ hA (takeRaw_ok _) rA e2 _ _ hcat
        rw [ByteArray.toList_eq, show more.data.toList = [] from e3] at hm
        cases hm
    exact ⟨by unfold takeC; rw [hn]; rfl, by unfold takeE; rw [hn]; rfl⟩
set_option maxRecDepth 100000 in
set_option maxHeartbeats 1000000 in
theorem whole_walk (w : World) (G : Glob w) (raw : Ch) (cut : Int) (more : ByteArray) (hr : raw.ok) (hcut : i64r cut) (hm : more.size ≤ 140737488351232) :
    Calls Tryd.prog 11 #[raw.v, .int .i64 cut, .string more] w fun e w' => e = .returned (.bool true) ∧ Below w.heap.size w w' := by
  have hp := whole_pure raw.fit (fit_ok raw hr) (fit_right raw)
  have HfA : Hid (∀ W, Calls Tryd.prog 47 #[.agg #[.int .i64 raw.state, .bool raw.ordered, .int .u64 raw.link, .int .u64 raw.peer, .string raw.port, .string raw.pport]] W fun e w' => e = .returned (.agg #[.int .i64 raw.fit.state, .bool raw.fit.ordered, .int .u64 raw.fit.link, .int .u64 raw.fit.peer, .string raw.fit.port, .string raw.fit.pport]) ∧ Below W.heap.size W w') := Lib.hid (fun W => fit_is raw W hr)
  have hoA := fit_ok raw hr
  show Calls Tryd.prog 11 #[.agg #[.int .i64 raw.state, .bool raw.ordered, .int .u64 raw.link, .int .u64 raw.peer, .string raw.port, .string raw.pport], .int .i64 cut, .string more] w _
  generalize raw.fit = A at hp HfA hoA
  obtain ⟨eA, hz0, hz1, hk, t0, tm⟩ := hp
  have HlA : Hid (∀ W, Calls Tryd.prog 48 #[.agg #[.int .i64 A.state, .bool A.ordered, .int .u64 A.link, .int .u64 A.peer, .string A.port, .string A.pport]] W fun e w' => e = .returned (.tuple #[.string A.layV, .int .i64 0]) ∧ Below W.heap.size W w') := Lib.hid (fun W => by have := chlay_is A W hoA; rw [eA] at this; exact this)
  have HtK : Hid (∀ k, k < A.layV.size → ∀ W, Calls Tryd.prog 49 #[.string (A.layV.extract 0 k)] W fun e w' => e = .returned (.tuple #[.agg #[.int .i64 0, .bool false, .int .u64 0, .int .u64 0, .string ⟨#[]⟩, .string ⟨#[]⟩], .int .i64 181]) ∧ Below W.heap.size W w') := Lib.hid (fun k hk' W => by have := take_is (A.layV.extract 0 k) W (by have := ext_size A.layV k; omega); rw [(hk k hk').1, (hk k hk').2] at this; exact this)
  have HtM : Hid (more.toList.isEmpty = false → ∀ W, Calls Tryd.prog 49 #[.string (A.layV ++ more)] W fun e w' => e = .returned (.tuple #[.agg #[.int .i64 0, .bool false, .int .u64 0, .int .u64 0, .string ⟨#[]⟩, .string ⟨#[]⟩], .int .i64 181]) ∧ Below W.heap.size W w') := Lib.hid (fun hm' W => by have := take_is (A.layV ++ more) W (by rw [ByteArray.size_append]; omega); rw [(tm more hm').1, (tm more hm').2] at this; exact this)
  have HtE : Hid (more.toList.isEmpty = true → ∀ W, Calls Tryd.prog 49 #[.string (A.layV ++ more)] W fun e w' => e = .returned (.tuple #[.agg (takeC (A.layV ++ more)).cs, .int .i64 0]) ∧ Below W.heap.size W w') := Lib.hid (fun hm' W => by
    have he : more = ⟨#[]⟩ := str_ext (by rw [ByteArray.toList_eq] at hm'; simpa using hm')
    have := take_is (A.layV ++ more) W (by rw [ByteArray.size_append]; omega)
    have t0' : takeE (A.layV ++ more) = 0 := by rw [he]; exact t0
    rw [t0'] at this
    exact this)
  clear eA hk t0 tm hr hoA
  obtain ⟨cE, hcE⟩ : ∃ c, takeC (A.layV ++ more) = c := ⟨_, rfl⟩
  rw [hcE] at HtE
  clear hcE
  obtain ⟨x0, x1, x2, x3, x4, x5⟩ := cE
  have HtE : Hid (more.toList.isEmpty = true → ∀ W, Calls Tryd.prog 49 #[.string (A.layV ++ more)] W fun e w' => e = .returned (.tuple #[.agg #[.int .i64 x0, .bool x1, .int .u64 x2, .int .u64 x3, .string x4, .string x5], .int .i64 0]) ∧ Below W.heap.size W w') := HtE
  generalize A.layV = S at HlA HtK HtM HtE hz0 hz1
  have HG := Lib.hid G
  clear G
  have hc1 := hcut.1
  have hc2 := hcut.2
  have hpk := pickI_r cut S.size (by omega)
  have HPk := Lib.hid (fun W => pick_is cut S.size W hc1 hc2 (by omega) (by omega))
  generalize pickI cut S.size = k at hpk HPk
  obtain ⟨kn, rfl⟩ : ∃ kn : Nat, k = kn := ⟨k.toNat, by omega⟩
  have hk0 : kn < S.size := by omega
  clear hpk hcut
  have tS : S.toList.isEmpty = false := by
    rw [ByteArray.toList_eq]
    cases hd : S.data.toList with
    | nil => have := len_data S; rw [hd] at this; simp at this; omega
    | cons x l => rfl
  go_enter Tryd.func11, Tryd.ntmps11
  go_wp2_with fail
  have hB := Blk.new w 57 #[.int .i64 raw.state, .bool raw.ordered, .int .u64 raw.link, .int .u64 raw.peer, .string raw.port, .string raw.pport]
  have hL := balloc (Below.refl _ w) (.cells #[.int .i64 raw.state, .bool raw.ordered, .int .u64 raw.link, .int .u64 raw.peer, .string raw.port, .string raw.pport] 57)
  generalize w.alloc (.cells #[.int .i64 raw.state, .bool raw.ordered, .int .u64 raw.link, .int .u64 raw.peer, .string raw.port, .string raw.pport] 57) = w0 at hB hL ⊢
  refine (awake_ok w0 (HG.out.below hL HG.out.two)).mono ?_
  rintro e w1 ⟨rfl, hb1⟩
  have HB := Lib.hid (hB.below hb1)
  have HL := Lib.hid (bstep hL hb1)
  clear hb1 hB hL HG
  have c0 : w1.cell? ⟨w.heap.size, 0, none⟩ = some (.int .i64 raw.state) := HB.out.cell 0
  have c1 : w1.cell? ⟨w.heap.size, 1, none⟩ = some (.bool raw.ordered) := HB.out.cell 1
  have c2 : w1.cell? ⟨w.heap.size, 2, none⟩ = some (.int .u64 raw.link) := HB.out.cell 2
  have c3 : w1.cell? ⟨w.heap.size, 3, none⟩ = some (.int .u64 raw.peer) := HB.out.cell 3
  have c4 : w1.cell? ⟨w.heap.size, 4, none⟩ = some (.string raw.port) := HB.out.cell 4
  have c5 : w1.cell? ⟨w.heap.size, 5, none⟩ = some (.string raw.pport) := HB.out.cell 5
  go_wp2_with fail
  refine (HfA.out w1).mono ?_
  rintro e w2 ⟨rfl, hb2⟩
  have HL2 := Lib.hid (bstep HL.out hb2)
  clear hb2 c0 c1 c2 c3 c4 c5 HB HL HfA
  go_wp2_with fail
  refine (HlA.out w2).mono ?_
  rintro e w3 ⟨rfl, hb3⟩
  have HL3 := Lib.hid (bstep HL2.out hb3)
  clear hb3 HL2 HlA
  go_wp2_with fail
  refine (HPk.out w3).mono ?_
  rintro e w3' ⟨rfl, rfl⟩
  go_wp2_with fail
  refine (HtK.out kn hk0 w3).mono ?_
  rintro e w4 ⟨rfl, hb4⟩
  have hL4 := bstep HL3.out hb4
  have HA1 := Lib.hid (Blk.new w4 57 #[.int .i64 0, .bool false, .int .u64 0, .int .u64 0, .string ⟨#[]⟩, .string ⟨#[]⟩])
  have HL4 := Lib.hid (balloc hL4 (.cells #[.int .i64 0, .bool false, .int .u64 0, .int .u64 0, .string ⟨#[]⟩, .string ⟨#[]⟩] 57))
  clear hb4 HL3 HtK HPk hL4
  go_upto_region 6 with fail
  generalize w4.alloc (.cells #[.int .i64 0, .bool false, .int .u64 0, .int .u64 0, .string ⟨#[]⟩, .string ⟨#[]⟩] 57) = w5 at HA1 HL4 ⊢
  generalize w4.heap.size = M at HA1 ⊢
  have q1 : ∀ W, (Op.equalIn 10000 57 (.agg #[.int .i64 0, .bool false, .int .u64 0, .int .u64 0, .string ⟨#[]⟩, .string ⟨#[]⟩]) (.agg #[.int .i64 0, .bool false, .int .u64 0, .int .u64 0, .string ⟨#[]⟩, .string ⟨#[]⟩])).run Tryd.prog W = .ok true W := fun W => (ch_eq Ch.zero Ch.zero W).trans (by rw [(Ch.eqB_iff Ch.zero Ch.zero).2 rfl])
  cases hme : more.toList.isEmpty with
  | true =>
    have HE := Lib.hid (HtE.out hme)
    clear HtE HtM
    go_wp2_with fail
    refine (HE.out w5).mono ?_
    rintro e w6 ⟨rfl, hb6⟩
    have HL6 := Lib.hid (balloc (bstep HL4.out hb6) (.cells #[.int .i64 x0, .bool x1, .int .u64 x2, .int .u64 x3, .string x4, .string x5] 57))
    have HA6 := Lib.hid ((HA1.out.below hb6).alloc (.cells #[.int .i64 x0, .bool x1, .int .u64 x2, .int .u64 x3, .string x4, .string x5] 57))
    have HN6 := Lib.hid (Blk.new w6 57 #[.int .i64 x0, .bool x1, .int .u64 x2, .int .u64 x3, .string x4, .string x5])
    clear hb6 HL4 HA1 HE
    go_upto_region 7 with fail
    generalize w6.alloc (.cells #[.int .i64 x0, .bool x1, .int .u64 x2, .int .u64 x3, .string x4, .string x5] 57) = w7 at HL6 HA6 HN6 ⊢
    generalize w6.heap.size = M2 at HN6 ⊢
    have c0 : w7.cell? ⟨M, 0, none⟩ = some (.int .i64 0) := HA6.out.cell 0
    have c1 : w7.cell? ⟨M, 1, none⟩ = some (.bool false) := HA6.out.cell 1
    have c2 : w7.cell? ⟨M, 2, none⟩ = some (.int .u64 0) := HA6.out.cell 2
    have c3 : w7.cell? ⟨M, 3, none⟩ = some (.int .u64 0) := HA6.out.cell 3
    have c4 : w7.cell? ⟨M, 4, none⟩ = some (.string ⟨#[]⟩) := HA6.out.cell 4
    have c5 : w7.cell? ⟨M, 5, none⟩ = some (.string ⟨#[]⟩) := HA6.out.cell 5
    go_wp2_with fail
    go_ret
    exact ⟨rfl, HL6.out⟩
  | false =>
    have HE := Lib.hid (HtM.out hme)
    clear HtE HtM
    go_wp2_with fail
    refine (HE.out w5).mono ?_
    rintro e w6 ⟨rfl, hb6⟩
    have HL6 := Lib.hid (balloc (bstep HL4.out hb6) (.cells #[.int .i64 0, .bool false, .int .u64 0, .int .u64 0, .string ⟨#[]⟩, .string ⟨#[]⟩] 57))
    have HA6 := Lib.hid ((HA1.out.below hb6).alloc (.cells #[.int .i64 0, .bool false, .int .u64 0, .int .u64 0, .string ⟨#[]⟩, .string ⟨#[]⟩] 57))
    have HN6 := Lib.hid (Blk.new w6 57 #[.int .i64 0, .bool false, .int .u64 0, .int .u64 0, .string ⟨#[]⟩, .string ⟨#[]⟩])
    clear hb6 HL4 HA1 HE
    go_upto_region 7 with fail
    generalize w6.alloc (.cells #[.int .i64 0, .bool false, .int .u64 0, .int .u64 0, .string ⟨#[]⟩, .string ⟨#[]⟩] 57) = w7 at HL6 HA6 HN6 ⊢
    generalize w6.heap.size = M2 at HN6 ⊢
    have c0 : w7.cell? ⟨M, 0, none⟩ = some (.int .i64 0) := HA6.out.cell 0
    have c1 : w7.cell? ⟨M, 1, none⟩ = some (.bool false) := HA6.out.cell 1
    have c2 : w7.cell? ⟨M, 2, none⟩ = some (.int .u64 0) := HA6.out.cell 2
    have c3 : w7.cell? ⟨M, 3, none⟩ = some (.int .u64 0) := HA6.out.cell 3
    have c4 : w7.cell? ⟨M, 4, none⟩ = some (.string ⟨#[]⟩) := HA6.out.cell 4
    have c5 : w7.cell? ⟨M, 5, none⟩ = some (.string ⟨#[]⟩) := HA6.out.cell 5
    have d0 : w7.cell? ⟨M2, 0, none⟩ = some (.int .i64 0) := HN6.out.cell 0
    have d1 : w7.cell? ⟨M2, 1, none⟩ = some (.bool false) := HN6.out.cell 1
    have d2 : w7.cell? ⟨M2, 2, none⟩ = some (.int .u64 0) := HN6.out.cell 2
    have d3 : w7.cell? ⟨M2, 3, none⟩ = some (.int .u64 0) := HN6.out.cell 3
    have d4 : w7.cell? ⟨M2, 4, none⟩ = some (.string ⟨#[]⟩) := HN6.out.cell 4
    have d5 : w7.cell? ⟨M2, 5, none⟩ = some (.string ⟨#[]⟩) := HN6.out.cell 5
    go_wp2_with fail
    go_ret
    exact ⟨rfl, HL6.out⟩
end Go.Proofs.YtpekbnkmnellpaaDoor
