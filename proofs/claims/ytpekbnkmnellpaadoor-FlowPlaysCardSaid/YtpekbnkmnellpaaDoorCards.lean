/-
  DERIVED. GIVEN WITH THE SEED: THE CARDS: each row of YtpekbnkmnellpaaDoorRows.lean that lists a variable, with what it lists TIED to the program's text (the seventh form; the later family's looks); each row that meets fmt, with fmt's text TOLD by the authors' own Lean function (tested against real Go, not proved from fmt's source: count such statements apart). THE CARD IS WHAT COUNTS. Prove the row's statement (the work); the ties are given (YtpekbnkmnellpaaDoorTie.lean); close each card by the builder's one call (the guide's Derived/Test/ToyasCard.lean, 'card_holds'). Laid BY PROGRAM, IN A SANDBOX (cutbox-door.mjs). By AI agents, Wed Nov 11 2026. No macro, syntax, notation, axiom, sorry.
-/
import Derived.Test.YtpekbnkmnellpaaDoorRows
import GoSem.ClaimSeven
namespace Go.Proofs.YtpekbnkmnellpaaDoor
namespace Rows

/-- THE TIED CARD OF 'voussoirlaw18.FlowApart'. -/
def flowApartCard : Claim7 := { stood := { row := flowApartRow, standIns := [], harness := (true, "b23459e233ff4bc4c33865f4cfa9ef6ea974e815d41460b596f16e73fe4a576b"), looks := true }, kinds := [], alts := [], laidByText := true, laidKinds := [.data, .wider], laidTests := true, laidLooks := .later }
def FlowApartCardSaid : Prop := Claim7.holds Tryd.pinned (.plain (OpenSpec.ofChange flowApartSpec)) flowApartCard

/-- THE TIED CARD OF 'voussoirlaw18.FlowTakes'. -/
def flowTakesCard : Claim7 := { stood := { row := flowTakesRow, standIns := [], harness := (true, "b23459e233ff4bc4c33865f4cfa9ef6ea974e815d41460b596f16e73fe4a576b"), looks := true }, kinds := [], alts := [], laidByText := true, laidKinds := [.data, .wider], laidTests := true, laidLooks := .later }
def FlowTakesCardSaid : Prop := Claim7.holds Tryd.pinned (.plain (OpenSpec.ofChange flowTakesSpec)) flowTakesCard

/-- THE TIED CARD OF 'voussoirlaw18.FlowCounts'. -/
def flowCountsCard : Claim7 := { stood := { row := flowCountsRow, standIns := [], harness := (true, "b23459e233ff4bc4c33865f4cfa9ef6ea974e815d41460b596f16e73fe4a576b"), looks := true }, kinds := [], alts := [], laidByText := true, laidKinds := [.data, .wider], laidTests := true, laidLooks := .later }
def FlowCountsCardSaid : Prop := Claim7.holds Tryd.pinned (.plain (OpenSpec.ofChange flowCountsSpec)) flowCountsCard

/-- THE TIED CARD OF 'voussoirlaw18.ChannelOpens'. -/
def channelOpensCard : Claim7 := { stood := { row := channelOpensRow, standIns := [], harness := (true, "b23459e233ff4bc4c33865f4cfa9ef6ea974e815d41460b596f16e73fe4a576b"), looks := true }, kinds := [], alts := [], laidByText := true, laidKinds := [.data, .wider], laidTests := true, laidLooks := .later }
def ChannelOpensCardSaid : Prop := Claim7.holds Tryd.pinned (.plain (OpenSpec.ofChange channelOpensSpec)) channelOpensCard

/-- THE TIED CARD OF 'voussoirlaw18.FlowOnce'. -/
def flowOnceCard : Claim7 := { stood := { row := flowOnceRow, standIns := [], harness := (true, "b23459e233ff4bc4c33865f4cfa9ef6ea974e815d41460b596f16e73fe4a576b"), looks := true }, kinds := [], alts := [], laidByText := true, laidKinds := [.data, .wider], laidTests := true, laidLooks := .later }
def FlowOnceCardSaid : Prop := Claim7.holds Tryd.pinned (.plain (OpenSpec.ofChange flowOnceSpec)) flowOnceCard

/-- THE TIED CARD OF 'voussoirlaw18.FlowCopies'. -/
def flowCopiesCard : Claim7 := { stood := { row := flowCopiesRow, standIns := [], harness := (true, "b23459e233ff4bc4c33865f4cfa9ef6ea974e815d41460b596f16e73fe4a576b"), looks := true }, kinds := [], alts := [], laidByText := true, laidKinds := [.data, .wider], laidTests := true, laidLooks := .later }
def FlowCopiesCardSaid : Prop := Claim7.holds Tryd.pinned (.plain (OpenSpec.ofChange flowCopiesSpec)) flowCopiesCard

/-- THE TIED CARD OF 'voussoirlaw18.FlowPlays'. -/
def flowPlaysCard : Claim7 := { stood := { row := flowPlaysRow, standIns := [], harness := (true, "b23459e233ff4bc4c33865f4cfa9ef6ea974e815d41460b596f16e73fe4a576b"), looks := true }, kinds := [], alts := [], laidByText := true, laidKinds := [.data, .widerDeep, .data, .wider], laidTests := true, laidLooks := .later }
def FlowPlaysCardSaid : Prop := Claim7.holds Tryd.pinned (.plain (OpenSpec.ofChange flowPlaysSpec)) flowPlaysCard

/-- THE TIED CARD OF 'voussoirlaw18.ChannelBack'. -/
def channelBackCard : Claim7 := { stood := { row := channelBackRow, standIns := [], harness := (true, "b23459e233ff4bc4c33865f4cfa9ef6ea974e815d41460b596f16e73fe4a576b"), looks := true }, kinds := [], alts := [], laidByText := true, laidKinds := [.data, .wider], laidTests := true, laidLooks := .later }
def ChannelBackCardSaid : Prop := Claim7.holds Tryd.pinned (.plain (OpenSpec.ofChange channelBackSpec)) channelBackCard

/-- THE TIED CARD OF 'voussoirlaw18.ChannelWhole'. -/
def channelWholeCard : Claim7 := { stood := { row := channelWholeRow, standIns := [], harness := (true, "b23459e233ff4bc4c33865f4cfa9ef6ea974e815d41460b596f16e73fe4a576b"), looks := true }, kinds := [], alts := [], laidByText := true, laidKinds := [.data, .wider], laidTests := true, laidLooks := .later }
def ChannelWholeCardSaid : Prop := Claim7.holds Tryd.pinned (.plain (OpenSpec.ofChange channelWholeSpec)) channelWholeCard

/-- THE TIED CARD OF 'voussoirlaw18.ChannelTells'. -/
def channelTellsCard : Claim7 := { stood := { row := channelTellsRow, standIns := [], harness := (true, "b23459e233ff4bc4c33865f4cfa9ef6ea974e815d41460b596f16e73fe4a576b"), looks := true }, kinds := [], alts := [], laidByText := true, laidKinds := [.data, .widerDeep, .data, .wider], laidTests := true, laidLooks := .later }
def ChannelTellsCardSaid : Prop := Claim7.holds Tryd.pinned (.plain (OpenSpec.ofChange channelTellsSpec)) channelTellsCard

/-- THE SECOND FORM's CARD OF 'voussoirlaw18.FlowApart'. -/
def flowApartUptoCard : Claim7 := { stood := { row := flowApartUptoRow, standIns := [], harness := (true, "b23459e233ff4bc4c33865f4cfa9ef6ea974e815d41460b596f16e73fe4a576b"), looks := true }, kinds := [], alts := [], laidByText := true, laidKinds := [.data, .wider], laidTests := true, laidLooks := .later }
def FlowApartUptoCardSaid : Prop := Claim7.holds Tryd.pinned (.plain (OpenSpec.upto flowApartSpec)) flowApartUptoCard

/-- THE SECOND FORM's CARD OF 'voussoirlaw18.FlowTakes'. -/
def flowTakesUptoCard : Claim7 := { stood := { row := flowTakesUptoRow, standIns := [], harness := (true, "b23459e233ff4bc4c33865f4cfa9ef6ea974e815d41460b596f16e73fe4a576b"), looks := true }, kinds := [], alts := [], laidByText := true, laidKinds := [.data, .wider], laidTests := true, laidLooks := .later }
def FlowTakesUptoCardSaid : Prop := Claim7.holds Tryd.pinned (.plain (OpenSpec.upto flowTakesSpec)) flowTakesUptoCard

/-- THE SECOND FORM's CARD OF 'voussoirlaw18.FlowCounts'. -/
def flowCountsUptoCard : Claim7 := { stood := { row := flowCountsUptoRow, standIns := [], harness := (true, "b23459e233ff4bc4c33865f4cfa9ef6ea974e815d41460b596f16e73fe4a576b"), looks := true }, kinds := [], alts := [], laidByText := true, laidKinds := [.data, .wider], laidTests := true, laidLooks := .later }
def FlowCountsUptoCardSaid : Prop := Claim7.holds Tryd.pinned (.plain (OpenSpec.upto flowCountsSpec)) flowCountsUptoCard

/-- THE SECOND FORM's CARD OF 'voussoirlaw18.ChannelOpens'. -/
def channelOpensUptoCard : Claim7 := { stood := { row := channelOpensUptoRow, standIns := [], harness := (true, "b23459e233ff4bc4c33865f4cfa9ef6ea974e815d41460b596f16e73fe4a576b"), looks := true }, kinds := [], alts := [], laidByText := true, laidKinds := [.data, .wider], laidTests := true, laidLooks := .later }
def ChannelOpensUptoCardSaid : Prop := Claim7.holds Tryd.pinned (.plain (OpenSpec.upto channelOpensSpec)) channelOpensUptoCard

/-- THE SECOND FORM's CARD OF 'voussoirlaw18.FlowOnce'. -/
def flowOnceUptoCard : Claim7 := { stood := { row := flowOnceUptoRow, standIns := [], harness := (true, "b23459e233ff4bc4c33865f4cfa9ef6ea974e815d41460b596f16e73fe4a576b"), looks := true }, kinds := [], alts := [], laidByText := true, laidKinds := [.data, .wider], laidTests := true, laidLooks := .later }
def FlowOnceUptoCardSaid : Prop := Claim7.holds Tryd.pinned (.plain (OpenSpec.upto flowOnceSpec)) flowOnceUptoCard

/-- THE SECOND FORM's CARD OF 'voussoirlaw18.FlowCopies'. -/
def flowCopiesUptoCard : Claim7 := { stood := { row := flowCopiesUptoRow, standIns := [], harness := (true, "b23459e233ff4bc4c33865f4cfa9ef6ea974e815d41460b596f16e73fe4a576b"), looks := true }, kinds := [], alts := [], laidByText := true, laidKinds := [.data, .wider], laidTests := true, laidLooks := .later }
def FlowCopiesUptoCardSaid : Prop := Claim7.holds Tryd.pinned (.plain (OpenSpec.upto flowCopiesSpec)) flowCopiesUptoCard

/-- THE SECOND FORM's CARD OF 'voussoirlaw18.FlowPlays'. -/
def flowPlaysUptoCard : Claim7 := { stood := { row := flowPlaysUptoRow, standIns := [], harness := (true, "b23459e233ff4bc4c33865f4cfa9ef6ea974e815d41460b596f16e73fe4a576b"), looks := true }, kinds := [], alts := [], laidByText := true, laidKinds := [.data, .widerDeep, .data, .wider], laidTests := true, laidLooks := .later }
def FlowPlaysUptoCardSaid : Prop := Claim7.holds Tryd.pinned (.plain (OpenSpec.upto flowPlaysSpec)) flowPlaysUptoCard

/-- THE SECOND FORM's CARD OF 'voussoirlaw18.ChannelBack'. -/
def channelBackUptoCard : Claim7 := { stood := { row := channelBackUptoRow, standIns := [], harness := (true, "b23459e233ff4bc4c33865f4cfa9ef6ea974e815d41460b596f16e73fe4a576b"), looks := true }, kinds := [], alts := [], laidByText := true, laidKinds := [.data, .wider], laidTests := true, laidLooks := .later }
def ChannelBackUptoCardSaid : Prop := Claim7.holds Tryd.pinned (.plain (OpenSpec.upto channelBackSpec)) channelBackUptoCard

/-- THE SECOND FORM's CARD OF 'voussoirlaw18.ChannelWhole'. -/
def channelWholeUptoCard : Claim7 := { stood := { row := channelWholeUptoRow, standIns := [], harness := (true, "b23459e233ff4bc4c33865f4cfa9ef6ea974e815d41460b596f16e73fe4a576b"), looks := true }, kinds := [], alts := [], laidByText := true, laidKinds := [.data, .wider], laidTests := true, laidLooks := .later }
def ChannelWholeUptoCardSaid : Prop := Claim7.holds Tryd.pinned (.plain (OpenSpec.upto channelWholeSpec)) channelWholeUptoCard

/-- THE SECOND FORM's CARD OF 'voussoirlaw18.ChannelTells'. -/
def channelTellsUptoCard : Claim7 := { stood := { row := channelTellsUptoRow, standIns := [], harness := (true, "b23459e233ff4bc4c33865f4cfa9ef6ea974e815d41460b596f16e73fe4a576b"), looks := true }, kinds := [], alts := [], laidByText := true, laidKinds := [.data, .widerDeep, .data, .wider], laidTests := true, laidLooks := .later }
def ChannelTellsUptoCardSaid : Prop := Claim7.holds Tryd.pinned (.plain (OpenSpec.upto channelTellsSpec)) channelTellsUptoCard
end Rows
end Go.Proofs.YtpekbnkmnellpaaDoor
