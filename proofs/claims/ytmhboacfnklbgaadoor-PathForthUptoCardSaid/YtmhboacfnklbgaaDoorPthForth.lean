/-
  The walk of PathForth.
-/
import Derived.Test.YtmhboacfnklbgaaDoorPthBack
import Derived.Laws.BytesArg
import Derived.RegionTactic
import Derived.ChangeAlike
namespace Go.Proofs.YtmhboacfnklbgaaDoor
open Go.RowKit
set_option linter.unusedVariables false

theorem one_byte (c : Int) (g : Nat) (W : World) (h : W.cell? ⟨g, 0, none⟩ = some (.int .u8 c)) :
    (convert 35 9 (.slice (some ⟨g, 0, none⟩) 1 1)).run Tryd.prog W = .ok (.string ⟨#[UInt8.ofNat c.toNat]⟩) W :=
  run_convert_bytes_arg W 35 5 Tryd.underlying35 Tryd.underlying5 g 0 1 1 [c] rfl (fun i hi => by
    have : i = 0 := by omega
    subst this
    simpa using h) 9 Tryd.underlying9

/-- what Parse and then Print answer at a text: it is none, and not one of Print's; or it is printed again -/
theorem parse_print (x t : ByteArray) (hx : x.size < 4294967281) (k a d : Nat) (R : Pth.Right k a d) (ht : t.data.toList = Pth.text k a d) :
    (Pth.parseP x.data.toList = none ∧ (x.toList == t.toList) = false) ∨ (∃ k' a' b' : Nat, Pth.Right k' a' b' ∧ x.data.toList = Pth.text k' a' b') := by
  cases hp : Pth.parseP x.data.toList with
  | none =>
    left
    refine ⟨rfl, ?_⟩
    rw [beq_eq_false_iff_ne]
    intro e
    rw [ByteArray.toList_eq, ByteArray.toList_eq, ht] at e
    rw [e, Pth.parseP_text R] at hp
    cases hp
  | some p =>
    obtain ⟨k', a', b'⟩ := p
    obtain ⟨hr, hx⟩ := Pth.parseP_some hp
    exact .inr ⟨k', a', b', hr, hx⟩

def FoRel (w : World) (g : Nat) (s t u : ByteArray) (c : Nat) (i : Value) (wr : World) : Prop :=
  ∃ j : Nat, j ≤ 3 ∧ c = 3 - j ∧ i = .int .i64 j ∧ Below w.heap.size w wr ∧ Blk wr g 9 #[.string s, .string t, .string u]

theorem mid_size (t : ByteArray) (c : UInt8) (q r : Nat) (ht : t.size ≤ 83) : (t.extract 0 q ++ ⟨#[c]⟩ ++ t.extract r t.size).size ≤ 200 := by
  have e : (⟨#[c]⟩ : ByteArray).size = 1 := rfl
  rw [ByteArray.size_append, ByteArray.size_append, ByteArray.size_extract, ByteArray.size_extract, e]
  omega
theorem any_cell {w : World} {g j : Nat} {s t u : ByteArray} {T : TypeId} (h : Blk w g T #[.string s, .string t, .string u]) (hj : j < 3) (hs : s.size ≤ 1048576) (ht : t.size ≤ 83) (hu : u.size ≤ 200) : ∃ x : ByteArray, w.cell? ⟨g, j, none⟩ = some (.string x) ∧ x.size ≤ 1048576 := by
  have hc : j = 0 ∨ j = 1 ∨ j = 2 := by omega
  rcases hc with rfl | rfl | rfl
  · exact ⟨s, h.cell 0, hs⟩
  · exact ⟨t, h.cell 1, by omega⟩
  · exact ⟨u, h.cell 2, by omega⟩

set_option maxRecDepth 100000 in
set_option maxHeartbeats 2000000 in
theorem forth_core (s : ByteArray) (c1 at_ bb : Int) (inn : Bool) (a1 b1 k1 d1 : Nat) (t : ByteArray) (w : World) (G : Glob w) (hs : s.size ≤ 1048576) (h0 : -9223372036854775808 ≤ c1) (h1 : c1 ≤ 9223372036854775807) (g0 : -9223372036854775808 ≤ at_) (g1 : at_ ≤ 9223372036854775807)
    (hk1 : Hid (1 + pickN c1 8 = k1)) (hd1 : Hid (fitB k1 b1 = d1)) (R1 : Hid (Pth.Right k1 a1 d1)) (HX : Hid (t.data.toList = Pth.text k1 a1 d1)) :
    Calls Tryd.prog 5 #[.string s, .agg #[.int .i64 c1, .int .u64 a1, .int .u64 b1], .int .i64 at_, .int .u8 bb, .bool inn] w fun e w' => e = .returned (.bool true) ∧ Below w.heap.size w w' := by
  have f1 := fun W => fit_is c1 a1 b1 h0 h1 W
  rw [hk1.out, hd1.out] at f1
  have F1 := Lib.hid f1
  have p1 := fun W G => pprint_text k1 a1 d1 R1.out W G
  have hse : (⟨(Pth.text k1 a1 d1).toArray⟩ : ByteArray) = t := by rw [← HX.out]
  rw [hse] at p1
  have P1 := Lib.hid p1
  clear f1 p1 hse
  have HG := Lib.hid G
  clear G
  have hlen := len_data t
  have hsz : t.size ≤ 83 := by rw [← hlen, HX.out]; exact Pth.text_len R1.out
  have hpos : 1 ≤ t.size := by
    rw [← hlen, HX.out]
    have := Pth.text_ne k1 a1 d1
    exact List.length_pos_iff.2 this
  have hemp := isEmpty_false t hpos
  clear hlen
  have hkl := pickN_lt at_ t.size hpos
  have pk := pick_is at_ t.size g0 g1 hpos (by omega)
  obtain ⟨q, hq⟩ : ∃ q, pickN at_ t.size = q := ⟨_, rfl⟩
  rw [hq] at hkl pk
  have PK := Lib.hid pk
  clear pk hq
  have hone := fun (g : Nat) (W : World) (h : W.cell? ⟨g, 0, none⟩ = some (.int .u8 bb)) => one_byte bb g W h
  go_enter Tryd.func5, Tryd.ntmps5
  go_wp2_with fail
  have O0 := Lib.hid (Blk.new w 24 #[.int .i64 c1, .int .u64 a1, .int .u64 b1])
  refine (awake_ok _ (HG.out.below (balloc (Below.refl _ _) _))).mono ?_
  rintro e w1 ⟨rfl, hb1⟩
  have B1 := Lib.hid (bstep (balloc (Below.refl _ w) _) hb1)
  obtain ⟨q0, q1, q2, q3⟩ := (O0.out.below hb1).three
  clear hb1 O0
  go_wp2_with fail
  refine (F1.out _).mono ?_
  rintro e w2 ⟨rfl, hb2⟩
  have B2 := Lib.hid (bstep B1.out hb2)
  clear hb2 B1 q0 q1 q2 q3
  go_wp2_with fail
  refine (P1.out _ (HG.out.below B2.out)).mono ?_
  rintro e w3 ⟨rfl, hb3⟩
  have B3 := Lib.hid (bstep B2.out hb3)
  clear hb3 B2
  go_wp2_with fail
  refine (PK.out _).mono ?_
  rintro e w4 ⟨rfl, rfl⟩
  go_upto_region 6 with fail
  have z1 : IntKind.i64.wrap ((q : Int) + 1) = q + 1 := by rw [IntKind.wrap_i64]; omega
  have z2 : (0 : Int) ≤ (q : Int) + 1 := by omega
  have z3 : (q : Int) + 1 ≤ t.size := by omega
  have z4 : (q : Int) ≤ t.size := by omega
  have z5 : ((q : Int) + 1).toNat = q + 1 := by omega
  go_cut [15] (fun u wx => ∃ U : ByteArray, u = .string U ∧ U.size ≤ 200 ∧ Below w3.heap.size w3 wx)
  case first =>
    go_region
    all_goals go_wp2_with fail
    all_goals go_meet
    all_goals exact ⟨_, rfl, mid_size t _ q (q + 1) hsz, Below.drew (balloc (Below.refl _ _) _)⟩
  case rest =>
    obtain ⟨U, rfl, hU, hbU⟩ := hcut
    have BU := Lib.hid (bstep B3.out hbU)
    clear hbU z1 z2 z3 z5
    cases inn with
    | false =>
      obtain ⟨w7, rfl⟩ : ∃ w7 : World, w7 = wc := ⟨_, rfl⟩
      go_wp2_with fail
      go_loopg [72] 3 (fun c i wr => FoRel w w7.heap.size s t U c i wr)
      case atStart => exact ⟨0, by omega, by omega, rfl, balloc BU.out _, Blk.new _ _ _⟩
      case round =>
        obtain ⟨j, hj, hc, rfl, hbel, hblk⟩ := hrel
        have HC := Lib.hid hc
        have HK := Lib.hid hblk
        have HB := Lib.hid hbel
        clear hc hblk hbel
        by_cases hlt : j < 3
        · obtain ⟨x, hcx, hxs⟩ := any_cell HK.out hlt hs hsz hU
          have hlg := HK.out.lt
          have hlt' : (j : Int) < 3 := by omega
          rcases parse_print x t (by omega) k1 a1 d1 R1.out HX.out with ⟨hn, hne⟩ | ⟨k', a', b', hr, hxt⟩
          · have HN := Lib.hid hn
            clear hn
            go_wp2_with fail
            refine (pparse_none x (by omega) HN.out _ (HG.out.below HB.out)).mono ?_
            rintro e w5 ⟨rfl, hb5⟩
            have B5 := Lib.hid (balloc (bstep HB.out hb5) (.cells #[.int .i64 0, .int .u64 0, .int .u64 0] 24))
            have K5 := Lib.hid ((HK.out.below hb5).alloc (.cells #[.int .i64 0, .int .u64 0, .int .u64 0] 24))
            clear hb5
            go_wp2_with fail
            go_roundg (3 - (j + 1))
            case measure => rw [HC.out]; omega
            case rel => exact ⟨j + 1, by omega, rfl, rfl, B5.out, K5.out⟩
          · have HR := Lib.hid hr
            have HT := Lib.hid hxt
            have p2 := fun W G => pprint_text k' a' b' hr W G
            have hse : (⟨(Pth.text k' a' b').toArray⟩ : ByteArray) = x := by rw [← hxt]
            rw [hse] at p2
            have P2 := Lib.hid p2
            clear hr hxt p2 hse
            go_wp2_with fail
            refine (pparse_text k' a' b' HR.out x HT.out _ (HG.out.below HB.out)).mono ?_
            rintro e w5 ⟨rfl, hb5⟩
            have B5 := Lib.hid (balloc (bstep HB.out hb5) (.cells #[.int .i64 k', .int .u64 a', .int .u64 b'] 24))
            have K5 := Lib.hid ((HK.out.below hb5).alloc (.cells #[.int .i64 k', .int .u64 a', .int .u64 b'] 24))
            clear hb5
            go_wp2_with fail
            refine (P2.out _ (HG.out.below B5.out)).mono ?_
            rintro e w6 ⟨rfl, hb6⟩
            have B6 := Lib.hid (bstep B5.out hb6)
            have K6 := Lib.hid (K5.out.below hb6)
            clear hb6
            go_wp2_with fail
            go_roundg (3 - (j + 1))
            case measure => rw [HC.out]; omega
            case rel => exact ⟨j + 1, by omega, rfl, rfl, B6.out, K6.out⟩
        · obtain rfl : j = 3 := by omega
          go_wp2_with fail
          go_ret
          exact ⟨rfl, HB.out⟩
    | true =>
      obtain ⟨w7, rfl⟩ : ∃ w7 : World, w7 = wc := ⟨_, rfl⟩
      go_upto_region 8 with fail
      go_cut [15] (fun u wx => ∃ U : ByteArray, u = .string U ∧ U.size ≤ 200 ∧ Below w7.heap.size w7 wx)
      case first =>
        go_region
        all_goals go_wp2_with fail
        all_goals go_meet
        all_goals exact ⟨_, rfl, mid_size t _ q q hsz, Below.drew (balloc (Below.refl _ _) _)⟩
      case rest =>
        obtain ⟨V, rfl, hV, hbV⟩ := hcut
        obtain ⟨w8, rfl⟩ : ∃ w8 : World, w8 = wc := ⟨_, rfl⟩
        have BV := Lib.hid (bstep BU.out hbV)
        clear hbV BU
        go_wp2_with fail
        go_loopg [72] 3 (fun c i wr => FoRel w w8.heap.size s t V c i wr)
        case atStart => exact ⟨0, by omega, by omega, rfl, balloc BV.out _, Blk.new _ _ _⟩
        case round =>
          obtain ⟨j, hj, hc, rfl, hbel, hblk⟩ := hrel
          have HC := Lib.hid hc
          have HK := Lib.hid hblk
          have HB := Lib.hid hbel
          clear hc hblk hbel
          by_cases hlt : j < 3
          · obtain ⟨x, hcx, hxs⟩ := any_cell HK.out hlt hs hsz hV
            have hlg := HK.out.lt
            have hlt' : (j : Int) < 3 := by omega
            rcases parse_print x t (by omega) k1 a1 d1 R1.out HX.out with ⟨hn, hne⟩ | ⟨k', a', b', hr, hxt⟩
            · have HN := Lib.hid hn
              clear hn
              go_wp2_with fail
              refine (pparse_none x (by omega) HN.out _ (HG.out.below HB.out)).mono ?_
              rintro e w5 ⟨rfl, hb5⟩
              have B5 := Lib.hid (balloc (bstep HB.out hb5) (.cells #[.int .i64 0, .int .u64 0, .int .u64 0] 24))
              have K5 := Lib.hid ((HK.out.below hb5).alloc (.cells #[.int .i64 0, .int .u64 0, .int .u64 0] 24))
              clear hb5
              go_wp2_with fail
              go_roundg (3 - (j + 1))
              case measure => rw [HC.out]; omega
              case rel => exact ⟨j + 1, by omega, rfl, rfl, B5.out, K5.out⟩
            · have HR := Lib.hid hr
              have HT := Lib.hid hxt
              have p2 := fun W G => pprint_text k' a' b' hr W G
              have hse : (⟨(Pth.text k' a' b').toArray⟩ : ByteArray) = x := by rw [← hxt]
              rw [hse] at p2
              have P2 := Lib.hid p2
              clear hr hxt p2 hse
              go_wp2_with fail
              refine (pparse_text k' a' b' HR.out x HT.out _ (HG.out.below HB.out)).mono ?_
              rintro e w5 ⟨rfl, hb5⟩
              have B5 := Lib.hid (balloc (bstep HB.out hb5) (.cells #[.int .i64 k', .int .u64 a', .int .u64 b'] 24))
              have K5 := Lib.hid ((HK.out.below hb5).alloc (.cells #[.int .i64 k', .int .u64 a', .int .u64 b'] 24))
              clear hb5
              go_wp2_with fail
              refine (P2.out _ (HG.out.below B5.out)).mono ?_
              rintro e w6 ⟨rfl, hb6⟩
              have B6 := Lib.hid (bstep B5.out hb6)
              have K6 := Lib.hid (K5.out.below hb6)
              clear hb6
              go_wp2_with fail
              go_roundg (3 - (j + 1))
              case measure => rw [HC.out]; omega
              case rel => exact ⟨j + 1, by omega, rfl, rfl, B6.out, K6.out⟩
          · obtain rfl : j = 3 := by omega
            go_wp2_with fail
            go_ret
            exact ⟨rfl, HB.out⟩

theorem forth_walk (s : ByteArray) (c1 a1 b1 at_ bb : Int) (inn : Bool) (ws : s.size ≤ maxLen) (hbulk : s.data.toList.length ≤ 1048576) (v1 : (Lit.int .i64 c1).wf = true) (v2 : (Lit.int .u64 a1).wf = true) (v3 : (Lit.int .u64 b1).wf = true) (v4 : (Lit.int .i64 at_).wf = true) (v5 : (Lit.int .u8 bb).wf = true) (w : World) (G : Glob w) :
    Calls Tryd.prog 5 #[.string s, .agg #[.int .i64 c1, .int .u64 a1, .int .u64 b1], .int .i64 at_, .int .u8 bb, .bool inn] w fun e w' => e = .returned (.bool true) ∧ Below w.heap.size w w' := by
  obtain ⟨h0, h1⟩ := bounds_i64 v1
  obtain ⟨g0, g1⟩ := bounds_i64 v4
  obtain ⟨x0, x1⟩ := bounds_u64 v2
  obtain ⟨x2, x3⟩ := bounds_u64 v3
  obtain ⟨A1, rfl⟩ := Int.eq_ofNat_of_zero_le x0
  obtain ⟨B1, rfl⟩ := Int.eq_ofNat_of_zero_le x2
  have R1 := fit_right c1 A1 B1 (by omega) (by omega)
  exact forth_core s c1 at_ bb inn A1 B1 _ _ ⟨(Pth.text _ A1 _).toArray⟩ w G (by rw [← len_data]; exact hbulk) h0 h1 g0 g1 (Lib.hid rfl) (Lib.hid rfl) (Lib.hid R1) (Lib.hid rfl)
end Go.Proofs.YtmhboacfnklbgaaDoor
