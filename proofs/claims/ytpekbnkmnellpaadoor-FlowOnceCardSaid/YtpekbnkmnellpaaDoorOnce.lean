/-
  The walk of FlowOnce, joined.
-/
import Derived.Test.YtpekbnkmnellpaaDoorOnceExit
import Derived.Test.YtpekbnkmnellpaaDoorOnceSend
import Derived.Test.YtpekbnkmnellpaaDoorOnceHeight
import Derived.Test.YtpekbnkmnellpaaDoorOnceTwo
import Derived.Test.YtpekbnkmnellpaaDoorOnceThree
import Derived.Test.YtpekbnkmnellpaaDoorOnceFour
import Derived.Test.YtpekbnkmnellpaaDoorOnceFive
import Derived.Test.YtpekbnkmnellpaaDoorOnceSix
namespace Go.Proofs.YtpekbnkmnellpaaDoor
open Go.RowKit Go.Maps
set_option linter.unusedVariables false
theorem once_walk (w : World) (G : Glob w) (o : Bool) (V : Value) (acts : List ActR) (A1 : ActsAt w V acts) :
    Calls Tryd.prog 7 #[.bool o, V] w fun e w' => e = .returned (.bool true) ∧ Below w.heap.size w w' := by
  refine onceCut.h w G o V acts A1 fun N M K2 Q2 hK2 gk a0 wr hrel J K hJ hK => ?_
  have h2w := G.two
  obtain ⟨hs, hd, e0, e1, e6, e7, hrel⟩ := hrel
  obtain ⟨j, fs, ss, a, b, hh, last, m, n, hj, hk, h12, h10, h11, hsl, hmj, hnj, hI, hW⟩ := hrel
  obtain ⟨v1, c1, rfl, _, _⟩ := id A1
  by_cases hlt : j < acts.length ∧ j < 80
  · obtain ⟨hj1, hj3⟩ := hlt
    obtain ⟨t8, ht8⟩ : ∃ t, pickI acts[j].what 8 = t := ⟨_, rfl⟩
    obtain ⟨t80, t81⟩ := pickI_r acts[j].what 8 (by omega)
    rw [ht8] at t80 t81
    by_cases h2 : t8 < 2
    · exact once_send w h2w o v1 c1 acts A1 N M K2 Q2 hK2 gk a0 wr J K hJ hK hs hd e0 e1 e6 e7 j fs ss a b hh last m n hj hk h12 h10 h11 hsl hmj hnj hI hW hj1 hj3 t8 ht8 h2
    · have h8 : t8 = 2 ∨ t8 = 3 ∨ t8 = 4 ∨ t8 = 5 ∨ t8 = 6 ∨ t8 = 7 := by omega
      rcases h8 with h | h | h | h | h | h
      · exact once_two w h2w o v1 c1 acts A1 N M K2 Q2 hK2 gk a0 wr J K hJ hK hs hd e0 e1 e6 e7 j fs ss a b hh last m n hj hk h12 h10 h11 hsl hmj hnj hI hW hj1 hj3 t8 ht8 (Lib.hid h)
      · exact once_three w h2w o v1 c1 acts A1 N M K2 Q2 hK2 gk a0 wr J K hJ hK hs hd e0 e1 e6 e7 j fs ss a b hh last m n hj hk h12 h10 h11 hsl hmj hnj hI hW hj1 hj3 t8 ht8 (Lib.hid h)
      · exact once_four w h2w o v1 c1 acts A1 N M K2 Q2 hK2 gk a0 wr J K hJ hK hs hd e0 e1 e6 e7 j fs ss a b hh last m n hj hk h12 h10 h11 hsl hmj hnj hI hW hj1 hj3 t8 ht8 (Lib.hid h)
      · exact once_five w h2w o v1 c1 acts A1 N M K2 Q2 hK2 gk a0 wr J K hJ hK hs hd e0 e1 e6 e7 j fs ss a b hh last m n hj hk h12 h10 h11 hsl hmj hnj hI hW hj1 hj3 t8 ht8 (Lib.hid h)
      · exact once_six w h2w o v1 c1 acts A1 N M K2 Q2 hK2 gk a0 wr J K hJ hK hs hd e0 e1 e6 e7 j fs ss a b hh last m n hj hk h12 h10 h11 hsl hmj hnj hI hW hj1 hj3 t8 ht8 (Lib.hid h)
      · exact once_height w h2w o v1 c1 acts A1 N M K2 Q2 hK2 gk a0 wr J K hJ hK hs hd e0 e1 e6 e7 j fs ss a b hh last m n hj hk h12 h10 h11 hsl hmj hnj hI hW hj1 hj3 t8 ht8 (Lib.hid h)
  · exact once_exit w h2w o v1 c1 acts A1 N M K2 Q2 hK2 gk a0 wr J K hJ hK hs hd e0 e1 e6 e7 j fs ss a b hh last m n hj hk h12 h10 h11 hsl hmj hnj hI hW hlt
end Go.Proofs.YtpekbnkmnellpaaDoor
