/-
  The walk of the trie's Root.
-/
import Derived.Test.YtichklplcpkjdaaDoorSTrieI
namespace Go.Proofs.YtichklplcpkjdaaDoor
open Go.RowKit Go.Maps Go.Sort
set_option linter.unusedVariables false

theorem hash_root {w w1 : World} {t b n : Nat} {f : PM} {l : List Pl} {p : Option Addr} {cap : Nat} (h : TAt w1 t b n f) (G : Glob w1) (hcap : l.length ≤ cap) (hln : l.length ≤ n) (hn : n ≤ 4194304) (hrow : RowV w1 p (sortPl l)) (hk : KeysOf f l) :
    Calls Tryd.prog 39 #[.pointer (some ⟨t, 0, none⟩), .slice p l.length cap, .int .i64 0] w1 fun e w'' => e = .returned (.string (rootP f)) ∧ Below w1.heap.size w1 w'' := by
  rw [rootP_is hk]
  exact hash_is t b n f 256 0 rfl (sortPl l) l.length p cap w1 (sortPl_len l) h G hcap hrow (sort_rise hk.1) (alike_zero _) (by omega)
set_option maxHeartbeats 1000000 in
theorem troot_is (w : World) (G : Glob w) (t b n : Nat) (f : PM) (h : TAt w t b n f) (hn : n ≤ 4194304) :
    Calls Tryd.prog 29 #[.pointer (some ⟨t, 0, none⟩)] w fun e w' => e = .returned (.string (rootP f)) ∧ Below w.heap.size w w' := by
  have HT := Lib.hid h
  have HG := Lib.hid G
  clear h G
  go_enter Tryd.func29, Tryd.ntmps29
  go_wp2_with fail
  refine (places_is w t b n f HT.out hn).mono ?_
  rintro e w1 ⟨l, p, cap, rfl, hcap, hln, hrow, hk, hb1⟩
  have HB1 := Lib.hid hb1
  have HC := Lib.hid (hash_root (w := w) (HT.out.below hb1) (HG.out.next hb1) hcap hln hn hrow hk)
  clear hcap hln hrow hk hb1
  go_wp2_with fail
  refine HC.out.mono ?_
  rintro e w2 ⟨rfl, hb2⟩
  have HB2 := Lib.hid (bstep HB1.out hb2)
  clear hb2
  go_wp2_with fail
  go_ret
  exact ⟨rfl, HB2.out⟩
end Go.Proofs.YtichklplcpkjdaaDoor
