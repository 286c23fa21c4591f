/-
  NARROWER THAN 'FOR EVERY INPUT', by the rows' own cells (each row's printed sentence says how): PathTells: laid · PathBack: laid · PathForth: laid · PathKinds: laid · PathShape: laid · PathOthers: laid.
  DERIVED. THE GIVEN ROWS OF THIS SEAT. 6 by the template 'for every input the law returns true; each argument reads behind the call as it read before'; 0 by the template 'total and deterministic' (their statements: YtmhboacfnklbgaaDoorTotals.lean).
  GIVEN WITH THE SEED: the statements are not yours to turn. If you find one false, say at which input.
  Laid BY PROGRAM, IN A SANDBOX (cutbox-rows.mjs): the forced cells as the released guide's own fill.sh prints them over the translation 41566fe9aef1e361… (all of the seat's roots in one cut). By AI agents, Wed Nov 11 2026. No macro, syntax, notation, axiom, sorry.
-/
import Derived.Test.YtmhboacfnklbgaaDoorChecked
import GoSem.Claim
import GoSem.ClaimJoined
import GoSem.ClaimMapViews
import Derived.JoinedTies
import Derived.KernelRfl
namespace Go.Proofs.YtmhboacfnklbgaaDoor
/- THE CELL 'sum', in the pinned program and in every row, IS THE sha256 OF THE DUMP (.gsa) THAT YtmhboacfnklbgaaDoorProg.lean LOADS. Nothing in Lean hashes anything: it is a label: what it is worth is what the hold of that sum in a sandbox is worth. -/
noncomputable def Tryd.pinned : Pinned := { name := "ytmhboacfnklbgaadoor", sum := "41566fe9aef1e3613b4c920e234434039950fda30b67cc3ada218dc65c6f7f13", checked := Tryd.checked }
namespace Rows
def none {H : Type} : Left H := { results := [], args := [] }

/- WHAT THE LISTED PACKAGE-LEVEL VARIABLES READ AS WHEN THE CALL BEGINS. Each datum BY PROGRAM (the guide's laid-datum.mjs) off the statement by which the dump's own 'gosem.cut.vars' lays the variable. In a bare row this is a premise. The card (YtmhboacfnklbgaaDoorCards.lean) ties it to the program's text. -/
def laid_voussoir_path_forms {H : Type} : DataW H := .agg [.agg [.lit (.string []), .lit (.string []), .lit (.bool false)], .agg [.lit (.string [99, 108, 105, 101, 110, 116, 115, 47]), .lit (.string [47, 99, 108, 105, 101, 110, 116, 83, 116, 97, 116, 101]), .lit (.bool false)], .agg [.lit (.string [99, 108, 105, 101, 110, 116, 115, 47]), .lit (.string [47, 99, 111, 110, 115, 101, 110, 115, 117, 115, 83, 116, 97, 116, 101, 115, 47]), .lit (.bool true)], .agg [.lit (.string [99, 111, 110, 110, 101, 99, 116, 105, 111, 110, 115, 47]), .lit (.string []), .lit (.bool false)], .agg [.lit (.string [99, 104, 97, 110, 110, 101, 108, 69, 110, 100, 115, 47, 99, 104, 97, 110, 110, 101, 108, 115, 47]), .lit (.string []), .lit (.bool false)], .agg [.lit (.string [99, 111, 109, 109, 105, 116, 109, 101, 110, 116, 115, 47, 99, 104, 97, 110, 110, 101, 108, 115, 47]), .lit (.string [47, 115, 101, 113, 117, 101, 110, 99, 101, 115, 47]), .lit (.bool true)], .agg [.lit (.string [114, 101, 99, 101, 105, 112, 116, 115, 47, 99, 104, 97, 110, 110, 101, 108, 115, 47]), .lit (.string [47, 115, 101, 113, 117, 101, 110, 99, 101, 115, 47]), .lit (.bool true)], .agg [.lit (.string [97, 99, 107, 115, 47, 99, 104, 97, 110, 110, 101, 108, 115, 47]), .lit (.string [47, 115, 101, 113, 117, 101, 110, 99, 101, 115, 47]), .lit (.bool true)], .agg [.lit (.string [110, 101, 120, 116, 83, 101, 113, 117, 101, 110, 99, 101, 82, 101, 99, 118, 47, 99, 104, 97, 110, 110, 101, 108, 115, 47]), .lit (.string []), .lit (.bool false)]]

/-- 'voussoirlaw04.PathTells': WHATEVER THE INPUT: true; the input reads as it did. -/
def pathTellsSpec : ChangeSpec := { name := "pathTells", fn := fun _ => fun
  | [d1, d2] => { results := [.lit (.bool true)], args := [d1, d2] }
  | _ => none }
def pathTellsRow : OpenClaim := { program := "ytmhboacfnklbgaadoor", sum := "41566fe9aef1e3613b4c920e234434039950fda30b67cc3ada218dc65c6f7f13", func := "voussoir/voussoirlaw04.PathTells", spec := "pathTells", inPlace := ["internal/bytealg.IndexByteString", "internal/bytealg.IndexString", "math/bits.Add64"], recurses := true, named := ["voussoir/path.forms", "internal/bytealg.MaxLen"], apart := false, laid := [("voussoir/path.forms", laid_voussoir_path_forms)] }
def PathTellsSaid : Prop := pathTellsRow.holds Tryd.pinned (OpenSpec.ofChange pathTellsSpec)

/-- ITS FALSE NEIGHBOUR: 'it returns false'. Refute it at one input. -/
def pathTellsWrong : ChangeSpec := { name := "pathTells", fn := fun _ => fun
  | [d1, d2] => { results := [.lit (.bool false)], args := [d1, d2] }
  | _ => none }
def PathTellsWrongFalsely : Prop := pathTellsRow.holds Tryd.pinned (OpenSpec.ofChange pathTellsWrong)

/-- 'voussoirlaw04.PathBack': WHATEVER THE INPUT: true; the input reads as it did. -/
def pathBackSpec : ChangeSpec := { name := "pathBack", fn := fun _ => fun
  | [d1, d2] => { results := [.lit (.bool true)], args := [d1, d2] }
  | _ => none }
def pathBackRow : OpenClaim := { program := "ytmhboacfnklbgaadoor", sum := "41566fe9aef1e3613b4c920e234434039950fda30b67cc3ada218dc65c6f7f13", func := "voussoir/voussoirlaw04.PathBack", spec := "pathBack", inPlace := ["internal/bytealg.IndexByteString", "internal/bytealg.IndexString", "math/bits.Add64"], named := ["voussoir/path.forms", "internal/bytealg.MaxLen"], apart := false, laid := [("voussoir/path.forms", laid_voussoir_path_forms)] }
def PathBackSaid : Prop := pathBackRow.holds Tryd.pinned (OpenSpec.ofChange pathBackSpec)

/-- ITS FALSE NEIGHBOUR: 'it returns false'. Refute it at one input. -/
def pathBackWrong : ChangeSpec := { name := "pathBack", fn := fun _ => fun
  | [d1, d2] => { results := [.lit (.bool false)], args := [d1, d2] }
  | _ => none }
def PathBackWrongFalsely : Prop := pathBackRow.holds Tryd.pinned (OpenSpec.ofChange pathBackWrong)

/-- 'voussoirlaw04.PathForth': WHATEVER THE INPUT: true; the input reads as it did. -/
def pathForthSpec : ChangeSpec := { name := "pathForth", fn := fun _ => fun
  | [d1, d2, d3, d4, d5] => { results := [.lit (.bool true)], args := [d1, d2, d3, d4, d5] }
  | _ => none }
def pathForthRow : OpenClaim := { program := "ytmhboacfnklbgaadoor", sum := "41566fe9aef1e3613b4c920e234434039950fda30b67cc3ada218dc65c6f7f13", func := "voussoir/voussoirlaw04.PathForth", spec := "pathForth", inPlace := ["internal/bytealg.IndexByteString", "internal/bytealg.IndexString", "math/bits.Add64"], named := ["voussoir/path.forms", "internal/bytealg.MaxLen"], apart := false, laid := [("voussoir/path.forms", laid_voussoir_path_forms)] }
def PathForthSaid : Prop := pathForthRow.holds Tryd.pinned (OpenSpec.ofChange pathForthSpec)

/-- ITS FALSE NEIGHBOUR: 'it returns false'. Refute it at one input. -/
def pathForthWrong : ChangeSpec := { name := "pathForth", fn := fun _ => fun
  | [d1, d2, d3, d4, d5] => { results := [.lit (.bool false)], args := [d1, d2, d3, d4, d5] }
  | _ => none }
def PathForthWrongFalsely : Prop := pathForthRow.holds Tryd.pinned (OpenSpec.ofChange pathForthWrong)

/-- 'voussoirlaw04.PathKinds': WHATEVER THE INPUT: true; the input reads as it did. -/
def pathKindsSpec : ChangeSpec := { name := "pathKinds", fn := fun _ => fun
  | [d1, d2, d3] => { results := [.lit (.bool true)], args := [d1, d2, d3] }
  | _ => none }
def pathKindsRow : OpenClaim := { program := "ytmhboacfnklbgaadoor", sum := "41566fe9aef1e3613b4c920e234434039950fda30b67cc3ada218dc65c6f7f13", func := "voussoir/voussoirlaw04.PathKinds", spec := "pathKinds", inPlace := ["internal/bytealg.IndexByteString", "internal/bytealg.IndexString", "math/bits.Add64"], named := ["voussoir/path.forms", "internal/bytealg.MaxLen"], apart := false, laid := [("voussoir/path.forms", laid_voussoir_path_forms)] }
def PathKindsSaid : Prop := pathKindsRow.holds Tryd.pinned (OpenSpec.ofChange pathKindsSpec)

/-- ITS FALSE NEIGHBOUR: 'it returns false'. Refute it at one input. -/
def pathKindsWrong : ChangeSpec := { name := "pathKinds", fn := fun _ => fun
  | [d1, d2, d3] => { results := [.lit (.bool false)], args := [d1, d2, d3] }
  | _ => none }
def PathKindsWrongFalsely : Prop := pathKindsRow.holds Tryd.pinned (OpenSpec.ofChange pathKindsWrong)

/-- 'voussoirlaw04.PathShape': WHATEVER THE INPUT: true; the input reads as it did. -/
def pathShapeSpec : ChangeSpec := { name := "pathShape", fn := fun _ => fun
  | [d] => { results := [.lit (.bool true)], args := [d] }
  | _ => none }
def pathShapeRow : OpenClaim := { program := "ytmhboacfnklbgaadoor", sum := "41566fe9aef1e3613b4c920e234434039950fda30b67cc3ada218dc65c6f7f13", func := "voussoir/voussoirlaw04.PathShape", spec := "pathShape", inPlace := ["internal/bytealg.IndexByteString", "internal/bytealg.IndexString", "math/bits.Add64"], recurses := true, named := ["voussoir/path.forms", "internal/bytealg.MaxLen"], apart := false, laid := [("voussoir/path.forms", laid_voussoir_path_forms)] }
def PathShapeSaid : Prop := pathShapeRow.holds Tryd.pinned (OpenSpec.ofChange pathShapeSpec)

/-- ITS FALSE NEIGHBOUR: 'it returns false'. Refute it at one input. -/
def pathShapeWrong : ChangeSpec := { name := "pathShape", fn := fun _ => fun
  | [d] => { results := [.lit (.bool false)], args := [d] }
  | _ => none }
def PathShapeWrongFalsely : Prop := pathShapeRow.holds Tryd.pinned (OpenSpec.ofChange pathShapeWrong)

/-- 'voussoirlaw04.PathOthers': WHATEVER THE INPUT: true; the input reads as it did. -/
def pathOthersSpec : ChangeSpec := { name := "pathOthers", fn := fun _ => fun
  | [d1, d2] => { results := [.lit (.bool true)], args := [d1, d2] }
  | _ => none }
def pathOthersRow : OpenClaim := { program := "ytmhboacfnklbgaadoor", sum := "41566fe9aef1e3613b4c920e234434039950fda30b67cc3ada218dc65c6f7f13", func := "voussoir/voussoirlaw04.PathOthers", spec := "pathOthers", inPlace := ["internal/bytealg.IndexByteString", "internal/bytealg.IndexString", "math/bits.Add64"], named := ["voussoir/path.forms", "internal/bytealg.MaxLen"], apart := false, laid := [("voussoir/path.forms", laid_voussoir_path_forms)] }
def PathOthersSaid : Prop := pathOthersRow.holds Tryd.pinned (OpenSpec.ofChange pathOthersSpec)

/-- ITS FALSE NEIGHBOUR: 'it returns false'. Refute it at one input. -/
def pathOthersWrong : ChangeSpec := { name := "pathOthers", fn := fun _ => fun
  | [d1, d2] => { results := [.lit (.bool false)], args := [d1, d2] }
  | _ => none }
def PathOthersWrongFalsely : Prop := pathOthersRow.holds Tryd.pinned (OpenSpec.ofChange pathOthersWrong)

/- THE SECOND FORM. 'bulk': how many values and letters a reading holds, each counted each time it is reached (what is shared counts as often as it is met; a slice's spare places count too). A statement '..UptoSaid' is the law's where the arguments, and the package variables that the reading takes, are together of bulk at most 1048576: NARROWER than '..Said'. Prove '..Said' where nothing that the law and all that it calls make is longer than what came in: it says more and counts as full. Else prove '..UptoSaid'. A law counts once. -/
mutual
def uptoBulk {H : Type} : DataW H → Nat
  | .lit (.string bytes) => bytes.length + 1
  | .lit _ => 1
  | .nil => 1
  | .ptr d => uptoBulk d + 1
  | .slice elems spare => uptoBulkAll elems + uptoBulkAll spare + 1
  | .agg parts => uptoBulkAll parts + 1
  | .iface _ d => uptoBulk d + 1
  | .map entries => uptoBulkEntries entries + 1
  | .held _ => 1
def uptoBulkAll {H : Type} : List (DataW H) → Nat
  | [] => 0
  | d :: r => uptoBulk d + uptoBulkAll r
def uptoBulkEntries {H : Type} : List (Lit × DataW H) → Nat
  | [] => 0
  | x :: r => uptoBulkEntry x + uptoBulkEntries r
def uptoBulkEntry {H : Type} : Lit × DataW H → Nat
  | (.string bytes, d) => bytes.length + uptoBulk d + 1
  | (_, d) => uptoBulk d + 1
 end
def uptoSmall : (H : Type) → List (DataW H) → Bool := fun _ ds => decide (uptoBulkAll ds ≤ 1048576)
def OpenSpec.upto (s : _root_.Go.ChangeSpec) : _root_.Go.OpenSpec := { _root_.Go.OpenSpec.ofChange s with cond := some uptoSmall }

/-- 'voussoirlaw04.PathTells', WHERE WHAT IT READS IS OF BULK AT MOST 1048576: true; the input reads as it did. -/
def pathTellsUptoRow : OpenClaim := { program := "ytmhboacfnklbgaadoor", sum := "41566fe9aef1e3613b4c920e234434039950fda30b67cc3ada218dc65c6f7f13", func := "voussoir/voussoirlaw04.PathTells", spec := "pathTells", inPlace := ["internal/bytealg.IndexByteString", "internal/bytealg.IndexString", "math/bits.Add64"], recurses := true, named := ["voussoir/path.forms", "internal/bytealg.MaxLen"], apart := false, laid := [("voussoir/path.forms", laid_voussoir_path_forms)], narrowed := true }
def PathTellsUptoSaid : Prop := pathTellsUptoRow.holds Tryd.pinned (OpenSpec.upto pathTellsSpec)

/-- 'voussoirlaw04.PathBack', WHERE WHAT IT READS IS OF BULK AT MOST 1048576: true; the input reads as it did. -/
def pathBackUptoRow : OpenClaim := { program := "ytmhboacfnklbgaadoor", sum := "41566fe9aef1e3613b4c920e234434039950fda30b67cc3ada218dc65c6f7f13", func := "voussoir/voussoirlaw04.PathBack", spec := "pathBack", inPlace := ["internal/bytealg.IndexByteString", "internal/bytealg.IndexString", "math/bits.Add64"], named := ["voussoir/path.forms", "internal/bytealg.MaxLen"], apart := false, laid := [("voussoir/path.forms", laid_voussoir_path_forms)], narrowed := true }
def PathBackUptoSaid : Prop := pathBackUptoRow.holds Tryd.pinned (OpenSpec.upto pathBackSpec)

/-- 'voussoirlaw04.PathForth', WHERE WHAT IT READS IS OF BULK AT MOST 1048576: true; the input reads as it did. -/
def pathForthUptoRow : OpenClaim := { program := "ytmhboacfnklbgaadoor", sum := "41566fe9aef1e3613b4c920e234434039950fda30b67cc3ada218dc65c6f7f13", func := "voussoir/voussoirlaw04.PathForth", spec := "pathForth", inPlace := ["internal/bytealg.IndexByteString", "internal/bytealg.IndexString", "math/bits.Add64"], named := ["voussoir/path.forms", "internal/bytealg.MaxLen"], apart := false, laid := [("voussoir/path.forms", laid_voussoir_path_forms)], narrowed := true }
def PathForthUptoSaid : Prop := pathForthUptoRow.holds Tryd.pinned (OpenSpec.upto pathForthSpec)

/-- 'voussoirlaw04.PathKinds', WHERE WHAT IT READS IS OF BULK AT MOST 1048576: true; the input reads as it did. -/
def pathKindsUptoRow : OpenClaim := { program := "ytmhboacfnklbgaadoor", sum := "41566fe9aef1e3613b4c920e234434039950fda30b67cc3ada218dc65c6f7f13", func := "voussoir/voussoirlaw04.PathKinds", spec := "pathKinds", inPlace := ["internal/bytealg.IndexByteString", "internal/bytealg.IndexString", "math/bits.Add64"], named := ["voussoir/path.forms", "internal/bytealg.MaxLen"], apart := false, laid := [("voussoir/path.forms", laid_voussoir_path_forms)], narrowed := true }
def PathKindsUptoSaid : Prop := pathKindsUptoRow.holds Tryd.pinned (OpenSpec.upto pathKindsSpec)

/-- 'voussoirlaw04.PathShape', WHERE WHAT IT READS IS OF BULK AT MOST 1048576: true; the input reads as it did. -/
def pathShapeUptoRow : OpenClaim := { program := "ytmhboacfnklbgaadoor", sum := "41566fe9aef1e3613b4c920e234434039950fda30b67cc3ada218dc65c6f7f13", func := "voussoir/voussoirlaw04.PathShape", spec := "pathShape", inPlace := ["internal/bytealg.IndexByteString", "internal/bytealg.IndexString", "math/bits.Add64"], recurses := true, named := ["voussoir/path.forms", "internal/bytealg.MaxLen"], apart := false, laid := [("voussoir/path.forms", laid_voussoir_path_forms)], narrowed := true }
def PathShapeUptoSaid : Prop := pathShapeUptoRow.holds Tryd.pinned (OpenSpec.upto pathShapeSpec)

/-- 'voussoirlaw04.PathOthers', WHERE WHAT IT READS IS OF BULK AT MOST 1048576: true; the input reads as it did. -/
def pathOthersUptoRow : OpenClaim := { program := "ytmhboacfnklbgaadoor", sum := "41566fe9aef1e3613b4c920e234434039950fda30b67cc3ada218dc65c6f7f13", func := "voussoir/voussoirlaw04.PathOthers", spec := "pathOthers", inPlace := ["internal/bytealg.IndexByteString", "internal/bytealg.IndexString", "math/bits.Add64"], named := ["voussoir/path.forms", "internal/bytealg.MaxLen"], apart := false, laid := [("voussoir/path.forms", laid_voussoir_path_forms)], narrowed := true }
def PathOthersUptoSaid : Prop := pathOthersUptoRow.holds Tryd.pinned (OpenSpec.upto pathOthersSpec)

end Rows
end Go.Proofs.YtmhboacfnklbgaaDoor
