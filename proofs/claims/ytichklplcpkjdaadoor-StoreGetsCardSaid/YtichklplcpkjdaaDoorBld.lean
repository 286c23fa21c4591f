/-
  The walks of strings.Builder, as this program's translation has them.
-/
import Derived.Test.YtichklplcpkjdaaDoorBytes
import Derived.Test.YtichklplcpkjdaaDoorShelf
import Derived.Lib.Builder
import Derived.Lib.AppendStr
namespace Go.Proofs.YtichklplcpkjdaaDoor
open Go.RowKit
set_option linter.unusedVariables false

theorem bld_size : (Tryd.prog.info? 100).map (·.size) = some 2 := by kernel_rfl
theorem bld_lies : liesAt Tryd.prog Tryd.prog.depth 100 (2 / Tryd.prog.cellsOf 100) 0 100 1 = true := by kernel_rfl
set_option maxHeartbeats 1000000 in
set_option maxRecDepth 100000 in
theorem check_used (b : Nat) (w : World) (h0 : w.cell? ⟨b, 0, none⟩ = some (.pointer (some ⟨b, 0, none⟩))) :
    Calls Tryd.prog 66 #[.pointer (some ⟨b, 0, none⟩)] w fun e w' => e = .returned (.tuple #[]) ∧ w = w' := by
  obtain ⟨j, hj, _⟩ := Option.map_eq_some_iff.1 bld_size
  have HJ := Lib.hid hj
  clear hj
  go_enter Tryd.func66, Tryd.ntmps66
  go_wp2
  rw [Lib.run_neq_ptr_same w _ Tryd.underlying98 HJ.out]
  go_wp2
  go_end0
  exact ⟨rfl, rfl⟩
set_option maxHeartbeats 1000000 in
set_option maxRecDepth 100000 in
theorem check_fresh (b : Nat) (w : World) (h0 : w.cell? ⟨b, 0, none⟩ = some (.pointer none)) (hsh : w.shape? b = some (100, 2)) (hfz : w.frozen? ⟨b, 0, none⟩ = false) :
    Calls Tryd.prog 66 #[.pointer (some ⟨b, 0, none⟩)] w fun e w' => e = .returned (.tuple #[]) ∧ w' = w.setCell ⟨b, 0, none⟩ (.pointer (some ⟨b, 0, none⟩)) := by
  obtain ⟨j, hj, hjs⟩ := Option.map_eq_some_iff.1 bld_size
  have HJ := Lib.hid hj
  have HJS := Lib.hid hjs
  have HSH := Lib.hid hsh
  clear hj hjs hsh
  go_enter Tryd.func66, Tryd.ntmps66
  go_wp2
  rw [Lib.run_to_unsafe w ⟨b, 0, none⟩ Tryd.underlying98 Tryd.underlying122 HJ.out (by rw [HJS.out]; decide) HSH.out (Nat.zero_lt_succ 1)]
  simp only [Result.andThen]
  rw [Oper.upon_value]
  go_wp2
  rw [run_callFunc_extern Tryd.func77 (by kernel_rfl) (by kernel_rfl) (by kernel_rfl) (e := Extern.AbiNoEscape.same) (by kernel_rfl)]
  rw [Lib.run_noEscape]
  simp only [Result.andThen]
  rw [Oper.upon_value]
  go_wp2
  rw [Lib.run_from_unsafe w ⟨b, 0, none⟩ Tryd.underlying122 Tryd.underlying98 HJ.out HSH.out bld_lies]
  simp only [Result.andThen]
  rw [Oper.upon_value]
  go_wp2
  go_end0
  exact ⟨rfl, rfl⟩
/-- a builder that was written, and holds the bytes l -/
def Bld (w : World) (B b : Nat) (l : List UInt8) : Prop := Lib.BuilderAt 100 5 B b (.pointer (some ⟨b, 0, none⟩)) (bC l) w
set_option maxHeartbeats 2000000 in
set_option maxRecDepth 100000 in
theorem wbyte_is (w : World) (c : UInt8) :
    Calls Tryd.prog 57 #[.pointer (some ⟨w.heap.size, 0, none⟩), .int .u8 (c.toNat : Int)] (w.alloc (.cells #[.pointer none, .slice none 0 0] 100)) fun e w' => e = .returned .nilIface ∧ Bld w' w.heap.size w.heap.size [c] ∧ Below w.heap.size w w' := by
  obtain ⟨i0, hi, hz0, hz1, hz2⟩ := info_parts info_u8
  have HI := Lib.hid (And.intro hi (And.intro hz0 (And.intro hz1 hz2)))
  clear hi hz0 hz1 hz2
  have hf := Lib.fresh_isBuilder 100 5 w
  have hblk0 := Blk.new w 100 #[.pointer none, .slice none 0 0]
  have HL0 := Lib.hid (balloc (Below.refl _ w) (.cells #[.pointer none, .slice none 0 0] 100))
  have hlt0 : w.heap.size < (w.alloc (.cells #[.pointer none, .slice none 0 0] 100)).heap.size := by simp
  generalize w.alloc (.cells #[.pointer none, .slice none 0 0] 100) = w0 at hf hblk0 HL0 hlt0 ⊢
  have HB0 := Lib.hid hblk0
  have hsh : w0.shape? w.heap.size = some (100, 2) := by unfold Blk at hblk0; simp [World.shape?, hblk0]
  have HSH := Lib.hid hsh
  clear hf hblk0 hsh
  go_enter Tryd.func57, Tryd.ntmps57
  go_wp2_with fail
  refine (check_fresh w.heap.size w0 (HB0.out.cell 0) HSH.out (HB0.out.frozen 0)).mono ?_
  rintro e w1 ⟨rfl, hw1⟩
  have hb1 : Blk w1 w.heap.size 100 #[.pointer (some ⟨w.heap.size, 0, none⟩), .slice none 0 0] := by rw [hw1]; exact HB0.out.set_ 0 _
  have HL1 : Hid (Below w.heap.size w w1) := Lib.hid (by rw [hw1]; exact HL0.out.setCell (p := ⟨w.heap.size, 0, none⟩) (Nat.le_refl _) _)
  clear hw1
  have c1 : w1.cell? ⟨w.heap.size, 1, none⟩ = some (.slice none 0 0) := hb1.cell 1
  have HB1 := Lib.hid hb1
  clear hb1
  go_wp2_with (at_builtin; refine wpList_append_own _ rfl _ _ 68 rfl w.heap.size 5 i0 (.int .u8 0) 1 1 Tryd.underlying68 HI.out.1 HI.out.2.1 HI.out.2.2.1 HI.out.2.2.2 rfl (by decide) _ _ _ rfl (World.ownsRow_nil _ _ _ _) ⟨w1.heap.size, 0, none⟩ 1 1 [.int .u8 (c.toNat : Int)] rfl rfl ?c1 ?c2 ?c3 ?c4 ?c5 ?_)
  case c1 =>
    intro j u hj
    match j, hj with
    | 0, hj => simp at hj; subst hj; simp [Addr.add]
  case c2 => intro u hu; simp at hu; subst hu; rfl
  case c3 => unfold maxLen; omega
  case c4 => omega
  case c5 => have := HL1.out.size; simp; omega
  intro v' w2 hown' hgrow _
  have hb2 : Blk w2 w.heap.size 100 #[.pointer (some ⟨w.heap.size, 0, none⟩), .slice none 0 0] := by
    unfold Blk
    rw [hgrow.block _ (by have := HB1.out.lt; simp; omega) (by simp [Value.ownBlock]), Below.heap_alloc _ _ _ HB1.out.lt]
    exact HB1.out
  have HOwn : Hid (w2.ownsRow w.heap.size 5 1 v' [c].length (bC [c])) := Lib.hid hown'
  have HL2 := Lib.hid ((HL1.out.alloc HL1.out.size (.cells #[.int .u8 (c.toNat : Int)] 5)).grown hgrow (by have := HL1.out.size; simp; omega) (by simp [Value.ownBlock]))
  have d1 : w2.cell? ⟨w.heap.size, 1, none⟩ = some (.slice none 0 0) := hb2.cell 1
  have f1 := hb2.frozen 1
  have HB2 := Lib.hid hb2
  clear hb2 hown' hgrow c1
  obtain ⟨g, cap, rfl⟩ : ∃ g cap, v' = .slice (some ⟨g, 0, none⟩) 1 cap := by
    rcases HOwn.out.2 with ⟨_, h0⟩ | ⟨g, cap, cur, hv, _⟩
    · cases h0
    · exact ⟨g, cap, hv⟩
  go_wp2
  go_ret
  exact ⟨rfl, Lib.BuilderAt.put (T := 100) (e := 5) (Nat.le_refl _) HB2.out HOwn.out (by decide), HL2.out.setCell (p := ⟨w.heap.size, 1, none⟩) (Nat.le_refl _) _⟩
set_option maxHeartbeats 2000000 in
set_option maxRecDepth 100000 in
theorem write_is (w : World) (B b : Nat) (l news : List UInt8) (g cap : Nat) (hb : Bld w B b l) (hB : B ≤ w.heap.size) (hlen : l.length + news.length ≤ 140737488355328)
    (hcs : ∀ j u, (bC news)[j]? = some u → w.cell? ((⟨g, 0, none⟩ : Addr).add j) = some u) :
    Calls Tryd.prog 58 #[.pointer (some ⟨b, 0, none⟩), .slice (some ⟨g, 0, none⟩) news.length cap] w fun e w' => e = .returned (.tuple #[.int .i64 (news.length : Int), .nilIface]) ∧ Bld w' B b (l ++ news) ∧ Below B w w' := by
  obtain ⟨i0, hi, hz0, hz1, hz2⟩ := info_parts info_u8
  have HI := Lib.hid (And.intro hi (And.intro hz0 (And.intro hz1 hz2)))
  clear hi hz0 hz1 hz2
  obtain ⟨hBb, v, hbk, hown, hne⟩ := hb
  rw [bC_len] at hown
  have HK : Hid (Blk w b 100 #[.pointer (some ⟨b, 0, none⟩), v]) := Lib.hid hbk
  have HO := Lib.hid hown
  have HNE := Lib.hid hne
  have HCS := Lib.hid hcs
  clear hbk hown hne hcs
  have c1 : w.cell? ⟨b, 1, none⟩ = some v := HK.out.cell 1
  go_enter Tryd.func58, Tryd.ntmps58
  go_wp2_with fail
  refine (check_used b w (HK.out.cell 0)).mono ?_
  rintro e w1 ⟨rfl, rfl⟩
  go_wp2_with (at_builtin; refine wpList_append_own _ rfl _ _ 68 rfl B 5 i0 (.int .u8 0) 1 1 Tryd.underlying68 HI.out.1 HI.out.2.1 HI.out.2.2.1 HI.out.2.2.2 rfl (by decide) _ _ _ rfl HO.out ⟨g, 0, none⟩ news.length cap (bC news) rfl (by simp [bC]) HCS.out ?c2 ?c3 ?c4 hB ?_)
  case c2 => intro u hu; simp [bC] at hu; obtain ⟨x, _, rfl⟩ := hu; rfl
  case c3 => unfold maxLen; omega
  case c4 => omega
  intro v' w2 hown' hgrow _
  have hb2 : Blk w2 b 100 #[.pointer (some ⟨b, 0, none⟩), v] := by
    unfold Blk
    rw [hgrow.block _ HK.out.lt (fun e => HNE.out e.symm)]
    exact HK.out
  have HOwn : Hid (w2.ownsRow B 5 1 v' (bC (l ++ news)).length (bC (l ++ news))) := Lib.hid (by rw [bC_len, bC_app, List.length_append]; exact hown')
  have HL2 := Lib.hid ((Below.refl B w).grown hgrow hB (fun k hk => (HO.out.lt k hk).1))
  have d1 : w2.cell? ⟨b, 1, none⟩ = some v := hb2.cell 1
  have f1 := hb2.frozen 1
  have HB2 := Lib.hid hb2
  clear hb2 hown' hgrow c1
  obtain ⟨ao, n', cap', rfl⟩ : ∃ ao n' cap', v' = .slice ao n' cap' := by
    rcases HOwn.out.2 with ⟨hv, _⟩ | ⟨g, cap, cur, hv, _⟩
    · exact ⟨_, _, _, hv⟩
    · exact ⟨_, _, _, hv⟩
  go_wp2
  go_ret2
  exact ⟨rfl, Lib.BuilderAt.put (T := 100) (e := 5) hBb HB2.out HOwn.out (by decide), HL2.out.setCell (p := ⟨b, 1, none⟩) hBb _⟩
set_option maxHeartbeats 2000000 in
set_option maxRecDepth 100000 in
theorem wstring_is (w : World) (B b : Nat) (l : List UInt8) (s : ByteArray) (hb : Bld w B b l) (hB : B ≤ w.heap.size) (hlen : l.length + s.size ≤ 140737488355328) :
    Calls Tryd.prog 59 #[.pointer (some ⟨b, 0, none⟩), .string s] w fun e w' => e = .returned (.tuple #[.int .i64 (s.size : Int), .nilIface]) ∧ Bld w' B b (l ++ s.data.toList) ∧ Below B w w' := by
  obtain ⟨i0, hi, hz0, hz1, hz2⟩ := info_parts info_u8
  have HI := Lib.hid (And.intro hi (And.intro hz0 (And.intro hz1 hz2)))
  clear hi hz0 hz1 hz2
  obtain ⟨hBb, v, hbk, hown, hne⟩ := hb
  rw [bC_len] at hown
  have HK : Hid (Blk w b 100 #[.pointer (some ⟨b, 0, none⟩), v]) := Lib.hid hbk
  have HO := Lib.hid hown
  have HNE := Lib.hid hne
  clear hbk hown hne
  have c1 : w.cell? ⟨b, 1, none⟩ = some v := HK.out.cell 1
  go_enter Tryd.func59, Tryd.ntmps59
  go_wp2_with fail
  refine (check_used b w (HK.out.cell 0)).mono ?_
  rintro e w1 ⟨rfl, rfl⟩
  go_wp2_with (at_builtin; refine Lib.wpList_append_own_string _ rfl _ _ 68 9 rfl B 5 i0 Tryd.underlying68 Tryd.underlying9 HI.out.1 HI.out.2.1 HI.out.2.2.1 HI.out.2.2.2 _ _ _ rfl HO.out s rfl ?c3 ?c4 hB ?_)
  case c3 => unfold maxLen; omega
  case c4 => omega
  intro v' w2 hown' hgrow _
  have hb2 : Blk w2 b 100 #[.pointer (some ⟨b, 0, none⟩), v] := by
    unfold Blk
    rw [hgrow.block _ HK.out.lt (fun e => HNE.out e.symm)]
    exact HK.out
  have HOwn : Hid (w2.ownsRow B 5 1 v' (bC (l ++ s.data.toList)).length (bC (l ++ s.data.toList))) := Lib.hid (by rw [bC_len, bC_app, List.length_append, len_data]; exact hown')
  have HL2 := Lib.hid ((Below.refl B w).grown hgrow hB (fun k hk => (HO.out.lt k hk).1))
  have d1 : w2.cell? ⟨b, 1, none⟩ = some v := hb2.cell 1
  have f1 := hb2.frozen 1
  have HB2 := Lib.hid hb2
  clear hb2 hown' hgrow c1
  obtain ⟨ao, n', cap', rfl⟩ : ∃ ao n' cap', v' = .slice ao n' cap' := by
    rcases HOwn.out.2 with ⟨hv, _⟩ | ⟨g, cap, cur, hv, _⟩
    · exact ⟨_, _, _, hv⟩
    · exact ⟨_, _, _, hv⟩
  go_wp2
  go_ret2
  exact ⟨rfl, Lib.BuilderAt.put (T := 100) (e := 5) hBb HB2.out HOwn.out (by decide), HL2.out.setCell (p := ⟨b, 1, none⟩) hBb _⟩
theorem bstring_is (w : World) (B b : Nat) (l : List UInt8) (hb : Bld w B b l) (hB : B ≤ w.heap.size) :
    Calls Tryd.prog 60 #[.pointer (some ⟨b, 0, none⟩)] w fun e w' => e = .returned (.string ⟨l.toArray⟩) ∧ Below B w w' := Tryd.Builder_String_any B b l w (.inr hb) hB
end Go.Proofs.YtichklplcpkjdaaDoor
