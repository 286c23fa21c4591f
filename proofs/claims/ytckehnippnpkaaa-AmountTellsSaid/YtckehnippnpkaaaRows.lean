/-
  No cell of these rows narrows 'for every input' (looked for: loops, veiled, ifaces, maps, wideKeys, modest, calm, conditions, laid).
  DERIVED. THE GIVEN ROWS OF THIS SEAT. 6 by the template 'for every input the law returns true; each argument reads behind the call as it read before'; 0 by the template 'total and deterministic' (their statements: YtckehnippnpkaaaTotals.lean).
  GIVEN WITH THE SEED: the statements are not yours to turn. If you find one false, say at which input.
  Laid BY PROGRAM, IN A SANDBOX (cutbox-rows.mjs): the forced cells as the released guide's own fill.sh prints them over the translation 7fc8af5605bf86e1… (all of the seat's roots in one cut). By AI agents, Wed Nov 11 2026. No macro, syntax, notation, axiom, sorry.
-/
import Derived.Test.YtckehnippnpkaaaChecked
import GoSem.Claim
import GoSem.ClaimJoined
import GoSem.ClaimMapViews
import Derived.JoinedTies
import Derived.KernelRfl
namespace Go.Proofs.Ytckehnippnpkaaa
/- THE CELL 'sum', in the pinned program and in every row, IS THE sha256 OF THE DUMP (.gsa) THAT YtckehnippnpkaaaProg.lean LOADS. Nothing in Lean hashes anything: it is a label: what it is worth is what the hold of that sum in a sandbox is worth. -/
noncomputable def Try.pinned : Pinned := { name := "ytckehnippnpkaaa", sum := "7fc8af5605bf86e159973d18966898a1e31925197b4e49e683c13f488b1b430f", checked := Try.checked }
namespace Rows
def none {H : Type} : Left H := { results := [], args := [] }

/-- 'voussoirlaw03.AmountBack': WHATEVER THE INPUT: true; the input reads as it did. -/
def amountBackSpec : ChangeSpec := { name := "amountBack", fn := fun _ => fun
  | [d1, d2, d3] => { results := [.lit (.bool true)], args := [d1, d2, d3] }
  | _ => none }
def amountBackRow : OpenClaim := { program := "ytckehnippnpkaaa", sum := "7fc8af5605bf86e159973d18966898a1e31925197b4e49e683c13f488b1b430f", func := "voussoir/voussoirlaw03.AmountBack", spec := "amountBack", inPlace := ["math/bits.Add64"], apart := false }
def AmountBackSaid : Prop := amountBackRow.holds Try.pinned (OpenSpec.ofChange amountBackSpec)

/-- ITS FALSE NEIGHBOUR: 'it returns false'. Refute it at one input. -/
def amountBackWrong : ChangeSpec := { name := "amountBack", fn := fun _ => fun
  | [d1, d2, d3] => { results := [.lit (.bool false)], args := [d1, d2, d3] }
  | _ => none }
def AmountBackWrongFalsely : Prop := amountBackRow.holds Try.pinned (OpenSpec.ofChange amountBackWrong)

/-- 'voussoirlaw03.AmountDigits': WHATEVER THE INPUT: true; the input reads as it did. -/
def amountDigitsSpec : ChangeSpec := { name := "amountDigits", fn := fun _ => fun
  | [d1, d2] => { results := [.lit (.bool true)], args := [d1, d2] }
  | _ => none }
def amountDigitsRow : OpenClaim := { program := "ytckehnippnpkaaa", sum := "7fc8af5605bf86e159973d18966898a1e31925197b4e49e683c13f488b1b430f", func := "voussoir/voussoirlaw03.AmountDigits", spec := "amountDigits", inPlace := ["math/bits.Add64"], apart := false }
def AmountDigitsSaid : Prop := amountDigitsRow.holds Try.pinned (OpenSpec.ofChange amountDigitsSpec)

/-- ITS FALSE NEIGHBOUR: 'it returns false'. Refute it at one input. -/
def amountDigitsWrong : ChangeSpec := { name := "amountDigits", fn := fun _ => fun
  | [d1, d2] => { results := [.lit (.bool false)], args := [d1, d2] }
  | _ => none }
def AmountDigitsWrongFalsely : Prop := amountDigitsRow.holds Try.pinned (OpenSpec.ofChange amountDigitsWrong)

/-- 'voussoirlaw03.AmountOrder': WHATEVER THE INPUT: true; the input reads as it did. -/
def amountOrderSpec : ChangeSpec := { name := "amountOrder", fn := fun _ => fun
  | [d1, d2] => { results := [.lit (.bool true)], args := [d1, d2] }
  | _ => none }
def amountOrderRow : OpenClaim := { program := "ytckehnippnpkaaa", sum := "7fc8af5605bf86e159973d18966898a1e31925197b4e49e683c13f488b1b430f", func := "voussoir/voussoirlaw03.AmountOrder", spec := "amountOrder", inPlace := ["math/bits.Add64"], apart := false }
def AmountOrderSaid : Prop := amountOrderRow.holds Try.pinned (OpenSpec.ofChange amountOrderSpec)

/-- ITS FALSE NEIGHBOUR: 'it returns false'. Refute it at one input. -/
def amountOrderWrong : ChangeSpec := { name := "amountOrder", fn := fun _ => fun
  | [d1, d2] => { results := [.lit (.bool false)], args := [d1, d2] }
  | _ => none }
def AmountOrderWrongFalsely : Prop := amountOrderRow.holds Try.pinned (OpenSpec.ofChange amountOrderWrong)

/-- 'voussoirlaw03.AmountRefuses': WHATEVER THE INPUT: true; the input reads as it did. -/
def amountRefusesSpec : ChangeSpec := { name := "amountRefuses", fn := fun _ => fun
  | [d] => { results := [.lit (.bool true)], args := [d] }
  | _ => none }
def amountRefusesRow : OpenClaim := { program := "ytckehnippnpkaaa", sum := "7fc8af5605bf86e159973d18966898a1e31925197b4e49e683c13f488b1b430f", func := "voussoir/voussoirlaw03.AmountRefuses", spec := "amountRefuses", inPlace := ["math/bits.Add64"], apart := false }
def AmountRefusesSaid : Prop := amountRefusesRow.holds Try.pinned (OpenSpec.ofChange amountRefusesSpec)

/-- ITS FALSE NEIGHBOUR: 'it returns false'. Refute it at one input. -/
def amountRefusesWrong : ChangeSpec := { name := "amountRefuses", fn := fun _ => fun
  | [d] => { results := [.lit (.bool false)], args := [d] }
  | _ => none }
def AmountRefusesWrongFalsely : Prop := amountRefusesRow.holds Try.pinned (OpenSpec.ofChange amountRefusesWrong)

/-- 'voussoirlaw03.AmountTells': WHATEVER THE INPUT: true; the input reads as it did. -/
def amountTellsSpec : ChangeSpec := { name := "amountTells", fn := fun _ => fun
  | [d1, d2, d3] => { results := [.lit (.bool true)], args := [d1, d2, d3] }
  | _ => none }
def amountTellsRow : OpenClaim := { program := "ytckehnippnpkaaa", sum := "7fc8af5605bf86e159973d18966898a1e31925197b4e49e683c13f488b1b430f", func := "voussoir/voussoirlaw03.AmountTells", spec := "amountTells", inPlace := ["math/bits.Add64"], recurses := true, apart := false }
def AmountTellsSaid : Prop := amountTellsRow.holds Try.pinned (OpenSpec.ofChange amountTellsSpec)

/-- ITS FALSE NEIGHBOUR: 'it returns false'. Refute it at one input. -/
def amountTellsWrong : ChangeSpec := { name := "amountTells", fn := fun _ => fun
  | [d1, d2, d3] => { results := [.lit (.bool false)], args := [d1, d2, d3] }
  | _ => none }
def AmountTellsWrongFalsely : Prop := amountTellsRow.holds Try.pinned (OpenSpec.ofChange amountTellsWrong)

/-- 'voussoirlaw03.AmountSums': WHATEVER THE INPUT: true; the input reads as it did. -/
def amountSumsSpec : ChangeSpec := { name := "amountSums", fn := fun _ => fun
  | [d1, d2, d3] => { results := [.lit (.bool true)], args := [d1, d2, d3] }
  | _ => none }
def amountSumsRow : OpenClaim := { program := "ytckehnippnpkaaa", sum := "7fc8af5605bf86e159973d18966898a1e31925197b4e49e683c13f488b1b430f", func := "voussoir/voussoirlaw03.AmountSums", spec := "amountSums", inPlace := ["math/bits.Add64"], apart := false }
def AmountSumsSaid : Prop := amountSumsRow.holds Try.pinned (OpenSpec.ofChange amountSumsSpec)

/-- ITS FALSE NEIGHBOUR: 'it returns false'. Refute it at one input. -/
def amountSumsWrong : ChangeSpec := { name := "amountSums", fn := fun _ => fun
  | [d1, d2, d3] => { results := [.lit (.bool false)], args := [d1, d2, d3] }
  | _ => none }
def AmountSumsWrongFalsely : Prop := amountSumsRow.holds Try.pinned (OpenSpec.ofChange amountSumsWrong)

/- THE SECOND FORM. 'bulk': how many values and letters a reading holds, each counted each time it is reached (what is shared counts as often as it is met; a slice's spare places count too). A statement '..UptoSaid' is the law's where the arguments, and the package variables that the reading takes, are together of bulk at most 1048576: NARROWER than '..Said'. Prove '..Said' where nothing that the law and all that it calls make is longer than what came in: it says more and counts as full. Else prove '..UptoSaid'. A law counts once. -/
mutual
def uptoBulk {H : Type} : DataW H → Nat
  | .lit (.string bytes) => bytes.length + 1
  | .lit _ => 1
  | .nil => 1
  | .ptr d => uptoBulk d + 1
  | .slice elems spare => uptoBulkAll elems + uptoBulkAll spare + 1
  | .agg parts => uptoBulkAll parts + 1
  | .iface _ d => uptoBulk d + 1
  | .map entries => uptoBulkEntries entries + 1
  | .held _ => 1
def uptoBulkAll {H : Type} : List (DataW H) → Nat
  | [] => 0
  | d :: r => uptoBulk d + uptoBulkAll r
def uptoBulkEntries {H : Type} : List (Lit × DataW H) → Nat
  | [] => 0
  | x :: r => uptoBulkEntry x + uptoBulkEntries r
def uptoBulkEntry {H : Type} : Lit × DataW H → Nat
  | (.string bytes, d) => bytes.length + uptoBulk d + 1
  | (_, d) => uptoBulk d + 1
 end
def uptoSmall : (H : Type) → List (DataW H) → Bool := fun _ ds => decide (uptoBulkAll ds ≤ 1048576)
def OpenSpec.upto (s : _root_.Go.ChangeSpec) : _root_.Go.OpenSpec := { _root_.Go.OpenSpec.ofChange s with cond := some uptoSmall }

/-- 'voussoirlaw03.AmountBack', WHERE WHAT IT READS IS OF BULK AT MOST 1048576: true; the input reads as it did. -/
def amountBackUptoRow : OpenClaim := { program := "ytckehnippnpkaaa", sum := "7fc8af5605bf86e159973d18966898a1e31925197b4e49e683c13f488b1b430f", func := "voussoir/voussoirlaw03.AmountBack", spec := "amountBack", inPlace := ["math/bits.Add64"], apart := false, narrowed := true }
def AmountBackUptoSaid : Prop := amountBackUptoRow.holds Try.pinned (OpenSpec.upto amountBackSpec)

/-- 'voussoirlaw03.AmountDigits', WHERE WHAT IT READS IS OF BULK AT MOST 1048576: true; the input reads as it did. -/
def amountDigitsUptoRow : OpenClaim := { program := "ytckehnippnpkaaa", sum := "7fc8af5605bf86e159973d18966898a1e31925197b4e49e683c13f488b1b430f", func := "voussoir/voussoirlaw03.AmountDigits", spec := "amountDigits", inPlace := ["math/bits.Add64"], apart := false, narrowed := true }
def AmountDigitsUptoSaid : Prop := amountDigitsUptoRow.holds Try.pinned (OpenSpec.upto amountDigitsSpec)

/-- 'voussoirlaw03.AmountOrder', WHERE WHAT IT READS IS OF BULK AT MOST 1048576: true; the input reads as it did. -/
def amountOrderUptoRow : OpenClaim := { program := "ytckehnippnpkaaa", sum := "7fc8af5605bf86e159973d18966898a1e31925197b4e49e683c13f488b1b430f", func := "voussoir/voussoirlaw03.AmountOrder", spec := "amountOrder", inPlace := ["math/bits.Add64"], apart := false, narrowed := true }
def AmountOrderUptoSaid : Prop := amountOrderUptoRow.holds Try.pinned (OpenSpec.upto amountOrderSpec)

/-- 'voussoirlaw03.AmountRefuses', WHERE WHAT IT READS IS OF BULK AT MOST 1048576: true; the input reads as it did. -/
def amountRefusesUptoRow : OpenClaim := { program := "ytckehnippnpkaaa", sum := "7fc8af5605bf86e159973d18966898a1e31925197b4e49e683c13f488b1b430f", func := "voussoir/voussoirlaw03.AmountRefuses", spec := "amountRefuses", inPlace := ["math/bits.Add64"], apart := false, narrowed := true }
def AmountRefusesUptoSaid : Prop := amountRefusesUptoRow.holds Try.pinned (OpenSpec.upto amountRefusesSpec)

/-- 'voussoirlaw03.AmountTells', WHERE WHAT IT READS IS OF BULK AT MOST 1048576: true; the input reads as it did. -/
def amountTellsUptoRow : OpenClaim := { program := "ytckehnippnpkaaa", sum := "7fc8af5605bf86e159973d18966898a1e31925197b4e49e683c13f488b1b430f", func := "voussoir/voussoirlaw03.AmountTells", spec := "amountTells", inPlace := ["math/bits.Add64"], recurses := true, apart := false, narrowed := true }
def AmountTellsUptoSaid : Prop := amountTellsUptoRow.holds Try.pinned (OpenSpec.upto amountTellsSpec)

/-- 'voussoirlaw03.AmountSums', WHERE WHAT IT READS IS OF BULK AT MOST 1048576: true; the input reads as it did. -/
def amountSumsUptoRow : OpenClaim := { program := "ytckehnippnpkaaa", sum := "7fc8af5605bf86e159973d18966898a1e31925197b4e49e683c13f488b1b430f", func := "voussoir/voussoirlaw03.AmountSums", spec := "amountSums", inPlace := ["math/bits.Add64"], apart := false, narrowed := true }
def AmountSumsUptoSaid : Prop := amountSumsUptoRow.holds Try.pinned (OpenSpec.upto amountSumsSpec)

end Rows
end Go.Proofs.Ytckehnippnpkaaa
