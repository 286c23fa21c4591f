/-
  The walk of sha's Sum.
-/
import Derived.Test.YtichklplcpkjdaaDoorShaSum
import Derived.Test.YtichklplcpkjdaaDoorShaPad
import Derived.Lib.Strings
namespace Go.Proofs.YtichklplcpkjdaaDoor
open Go.RowKit
set_option linter.unusedVariables false

/-- a state behind n blocks -/
def foldB (s : St) : Nat → List UInt8 → St
  | 0, _ => s
  | n + 1, l => foldB (mixS s (l.take 64)) n (l.drop 64)
def sumL (l : List UInt8) : List UInt8 := stB (foldB firstS ((l.length + (padL l.length).length) / 64) (l ++ padL l.length)).l
def sumB (s : ByteArray) : ByteArray := ⟨(sumL s.data.toList).toArray⟩
theorem stB_l (s : St) : (stB s.l).length = 32 := by rw [stB_len]; rfl
theorem sumB_size (s : ByteArray) : (sumB s).size = 32 := by
  show (sumL s.data.toList).toArray.size = 32
  rw [List.size_toArray]
  exact stB_l _
def SumRel (F : St) (w : World) (c : Nat) (v : Value) (wr : World) : Prop :=
  ∃ (t : ByteArray) (st : St) (m : Nat), c = m ∧ v = .string t ∧ t.size = 64 * m ∧ t.size ≤ 140737488355456 ∧ st.ok ∧ foldB st m t.data.toList = F ∧ Blk wr w.heap.size 84 (stC st.l) ∧ Below w.heap.size w wr
theorem ext_take (t : ByteArray) (h : 64 ≤ t.size) : (t.extract 0 64).data.toList = t.data.toList.take 64 ∧ (t.extract 0 64).size = 64 := by
  constructor
  · simp
  · rw [ByteArray.size_extract]; omega
theorem ext_drop (t : ByteArray) : (t.extract 64 t.size).data.toList = t.data.toList.drop 64 ∧ (t.extract 64 t.size).size = t.size - 64 := by
  constructor
  · simp [ByteArray.data_extract, Array.toList_extract]
    rw [List.take_of_length_le]
    simp
  · rw [ByteArray.size_extract]; omega
theorem sum_start (s : ByteArray) (w w1 : World) (pl : List UInt8) (hP : padL s.size = pl) (hW : (s.size + pl.length) % 64 = 0) (hs : s.size ≤ 140737488355328) (hpb : pl.length ≤ 72)
    (hb : Blk w1 w.heap.size 84 (stC firstS.l)) (hl : Below w.heap.size w w1) :
    SumRel (foldB firstS ((s.size + pl.length) / 64) (s.data.toList ++ pl)) w ((s.size + pl.length) / 64) (.string (s ++ ⟨pl.toArray⟩)) w1 := by
  have hsz : (s ++ (⟨pl.toArray⟩ : ByteArray)).size = s.size + pl.length := by
    rw [ByteArray.size_append]; congr 1
  refine ⟨s ++ ⟨pl.toArray⟩, firstS, _, rfl, rfl, ?_, ?_, firstS_ok, ?_, hb, hl⟩
  · rw [hsz]; omega
  · rw [hsz]; omega
  · congr 1
set_option maxHeartbeats 1000000 in
theorem sum_is (s : ByteArray) (w : World) (G : Glob w) (hs : s.size ≤ 140737488355328) :
    Calls Tryd.prog 36 #[.string s] w fun e w' => e = .returned (.string (sumB s)) ∧ Below w.heap.size w w' := by
  obtain ⟨t0, fr0, hf0⟩ := G.first
  have HG := Lib.hid G
  clear G
  have v0 : w.cell? ⟨1, 0, none⟩ = some (.int .u32 1779033703) := cell_of_row w _ 0 _ t0 fr0 hf0
  have v1 : w.cell? ⟨1, 1, none⟩ = some (.int .u32 3144134277) := cell_of_row w _ 1 _ t0 fr0 hf0
  have v2 : w.cell? ⟨1, 2, none⟩ = some (.int .u32 1013904242) := cell_of_row w _ 2 _ t0 fr0 hf0
  have v3 : w.cell? ⟨1, 3, none⟩ = some (.int .u32 2773480762) := cell_of_row w _ 3 _ t0 fr0 hf0
  have v4 : w.cell? ⟨1, 4, none⟩ = some (.int .u32 1359893119) := cell_of_row w _ 4 _ t0 fr0 hf0
  have v5 : w.cell? ⟨1, 5, none⟩ = some (.int .u32 2600822924) := cell_of_row w _ 5 _ t0 fr0 hf0
  have v6 : w.cell? ⟨1, 6, none⟩ = some (.int .u32 528734635) := cell_of_row w _ 6 _ t0 fr0 hf0
  have v7 : w.cell? ⟨1, 7, none⟩ = some (.int .u32 1541459225) := cell_of_row w _ 7 _ t0 fr0 hf0
  clear hf0
  have hpl := padL_len s.size
  go_enter Tryd.func36, Tryd.ntmps36
  go_wp2_with fail
  refine (pad_is s.size hs _).mono ?_
  rintro e w1 ⟨rfl, hb1⟩
  have HB1 := Lib.hid ((Blk.new w 84 (stC firstS.l)).below hb1)
  have HL1 := Lib.hid (bstep (balloc (Below.refl _ w) _) hb1)
  clear hb1 v0 v1 v2 v3 v4 v5 v6 v7
  have HP := Lib.hid hpl
  have hpb : (padL s.size).length ≤ 72 := by omega
  clear hpl
  have HW := Lib.hid (pad_whole s.size)
  generalize hP : padL s.size = pl at HP hpb HW
  have hP' := Lib.hid hP
  clear hP
  go_wp2_with fail
  have hst := sum_start s w w1 pl hP'.out HW.out hs hpb HB1.out HL1.out
  obtain ⟨F, hF⟩ : ∃ F, foldB firstS ((s.size + pl.length) / 64) (s.data.toList ++ pl) = F := ⟨_, rfl⟩
  rw [hF] at hst
  have HSt := Lib.hid hst
  have HF : Hid (sumB s = ⟨(stB F.l).toArray⟩) := Lib.hid (by rw [← hF, ← hP'.out]; unfold sumB sumL; rw [len_data])
  clear hst hF HB1 HL1 HW HP hP'
  go_loopg [0] ((s.size + pl.length) / 64) (fun c v wr => SumRel F w c v wr)
  case atStart => exact HSt.out
  case round =>
    obtain ⟨t, ⟨x0, x1, x2, x3, x4, x5, x6, x7⟩, m, hc, rfl, hts, htb, hok, hfo, hblk, hbel⟩ := hrel
    have HC := Lib.hid hc
    have HTS := Lib.hid hts
    have HOK := Lib.hid hok
    have HFO := Lib.hid hfo
    have HK := Lib.hid hblk
    have HL := Lib.hid hbel
    clear hc hts hok hfo hblk hbel HSt
    have GR := Lib.hid (HG.out.below HL.out HG.out.two)
    by_cases h0 : 64 ≤ t.size
    · have hne : t.toList.isEmpty = false := by
        have := len_data t
        rw [ByteArray.toList_eq]
        cases hd : t.data.toList with
        | nil => rw [hd] at this; simp at this; omega
        | cons a l => rfl
      obtain ⟨n, hn⟩ : ∃ n, m = n + 1 := ⟨m - 1, by have := HTS.out; omega⟩
      subst hn
      have HE1 := Lib.hid (ext_take t h0)
      have HE2 := Lib.hid (ext_drop t)
      go_wp2_with fail
      refine (mix_is w.heap.size ⟨x0, x1, x2, x3, x4, x5, x6, x7⟩ _ _ GR.out HE1.out.2 HK.out).mono ?_
      rintro e w2 ⟨rfl, hb2, hk2⟩
      rw [HE1.out.1] at hk2
      have HR : Hid (SumRel F w n (.string (t.extract 64 t.size)) w2) := Lib.hid ⟨t.extract 64 t.size, _, n, rfl, rfl, by have := HTS.out; rw [HE2.out.2]; omega, by rw [HE2.out.2]; omega, mixS_ok _ _, by rw [HE2.out.1]; exact HFO.out, hk2, HL.out.trans hb2⟩
      clear hb2 hk2
      go_wp2_with fail
      go_roundg n
      case measure => rw [HC.out]; omega
      case rel => exact HR.out
    · have H0 : Hid (m = 0) := Lib.hid (by have := HTS.out; omega)
      have hem : t.toList.isEmpty = true := by
        rw [ByteArray.toList_eq, List.isEmpty_iff]
        apply List.length_eq_zero_iff.1
        rw [len_data]
        have := HTS.out
        have := H0.out
        omega
      have v0 : wr.cell? ⟨w.heap.size, 0, none⟩ = some (.int .u32 x0) := HK.out.cell 0
      have v1 : wr.cell? ⟨w.heap.size, 1, none⟩ = some (.int .u32 x1) := HK.out.cell 1
      have v2 : wr.cell? ⟨w.heap.size, 2, none⟩ = some (.int .u32 x2) := HK.out.cell 2
      have v3 : wr.cell? ⟨w.heap.size, 3, none⟩ = some (.int .u32 x3) := HK.out.cell 3
      have v4 : wr.cell? ⟨w.heap.size, 4, none⟩ = some (.int .u32 x4) := HK.out.cell 4
      have v5 : wr.cell? ⟨w.heap.size, 5, none⟩ = some (.int .u32 x5) := HK.out.cell 5
      have v6 : wr.cell? ⟨w.heap.size, 6, none⟩ = some (.int .u32 x6) := HK.out.cell 6
      have v7 : wr.cell? ⟨w.heap.size, 7, none⟩ = some (.int .u32 x7) := HK.out.cell 7
      have HFin : Hid (sumB s = ⟨(stB (St.l ⟨x0, x1, x2, x3, x4, x5, x6, x7⟩)).toArray⟩) := Lib.hid (by
        rw [HF.out, ← HFO.out, H0.out]; rfl)
      clear HC HTS HFO H0 HF
      go_wp2_with fail
      refine (string_is ⟨x0, x1, x2, x3, x4, x5, x6, x7⟩ HOK.out _).mono ?_
      rintro e w2 ⟨rfl, hb2⟩
      have HL2 := Lib.hid (bstep HL.out hb2)
      clear hb2
      go_wp2_with fail
      go_ret
      exact ⟨by rw [HFin.out]; rfl, HL2.out⟩
end Go.Proofs.YtichklplcpkjdaaDoor
