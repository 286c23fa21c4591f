/-
  DERIVED. GIVEN WITH THE SEED: THE CARDS: each row of YtichklplcpkjdaaDoorRows.lean that lists a variable, with what it lists TIED to the program's text (the seventh form; the later family's looks); each row that meets fmt, with fmt's text TOLD by the authors' own Lean function (tested against real Go, not proved from fmt's source: count such statements apart). THE CARD IS WHAT COUNTS. Prove the row's statement (the work); the ties are given (YtichklplcpkjdaaDoorTie.lean); close each card by the builder's one call (the guide's Derived/Test/ToyasCard.lean, 'card_holds'). Laid BY PROGRAM, IN A SANDBOX (cutbox-door.mjs). By AI agents, Wed Nov 11 2026. No macro, syntax, notation, axiom, sorry.
-/
import Derived.Test.YtichklplcpkjdaaDoorRows
import GoSem.ClaimSeven
namespace Go.Proofs.YtichklplcpkjdaaDoor
namespace Rows

/-- THE TIED CARD OF 'voussoirlaw09.StoreKeeps'. -/
def storeKeepsCard : Claim7 := { stood := { row := storeKeepsRow, standIns := [], harness := (true, "bb4e9ec6e177198bb3ac09a4e1b0845e16e84550bf475fc707b566efb162e196"), looks := false }, kinds := [], alts := [], laidByText := true, laidKinds := [.data, .data, .wider], laidTests := true, laidLooks := .later }
def StoreKeepsCardSaid : Prop := Claim7.holds Tryd.pinned (.plain (OpenSpec.ofChange storeKeepsSpec)) storeKeepsCard

/-- THE TIED CARD OF 'voussoirlaw09.StoreDiscards'. -/
def storeDiscardsCard : Claim7 := { stood := { row := storeDiscardsRow, standIns := [], harness := (true, "bb4e9ec6e177198bb3ac09a4e1b0845e16e84550bf475fc707b566efb162e196"), looks := false }, kinds := [], alts := [], laidByText := true, laidKinds := [.data, .data, .wider], laidTests := true, laidLooks := .later }
def StoreDiscardsCardSaid : Prop := Claim7.holds Tryd.pinned (.plain (OpenSpec.ofChange storeDiscardsSpec)) storeDiscardsCard

/-- THE TIED CARD OF 'voussoirlaw09.StoreStill'. -/
def storeStillCard : Claim7 := { stood := { row := storeStillRow, standIns := [], harness := (true, "bb4e9ec6e177198bb3ac09a4e1b0845e16e84550bf475fc707b566efb162e196"), looks := false }, kinds := [], alts := [], laidByText := true, laidKinds := [.data, .data, .wider], laidTests := true, laidLooks := .later }
def StoreStillCardSaid : Prop := Claim7.holds Tryd.pinned (.plain (OpenSpec.ofChange storeStillSpec)) storeStillCard

/-- THE TIED CARD OF 'voussoirlaw09.StoreGets'. -/
def storeGetsCard : Claim7 := { stood := { row := storeGetsRow, standIns := [], harness := (true, "bb4e9ec6e177198bb3ac09a4e1b0845e16e84550bf475fc707b566efb162e196"), looks := false }, kinds := [], alts := [], laidByText := true, laidKinds := [.data, .data, .wider], laidTests := true, laidLooks := .later }
def StoreGetsCardSaid : Prop := Claim7.holds Tryd.pinned (.plain (OpenSpec.ofChange storeGetsSpec)) storeGetsCard

/-- THE SECOND FORM's CARD OF 'voussoirlaw09.StoreKeeps'. -/
def storeKeepsUptoCard : Claim7 := { stood := { row := storeKeepsUptoRow, standIns := [], harness := (true, "bb4e9ec6e177198bb3ac09a4e1b0845e16e84550bf475fc707b566efb162e196"), looks := false }, kinds := [], alts := [], laidByText := true, laidKinds := [.data, .data, .wider], laidTests := true, laidLooks := .later }
def StoreKeepsUptoCardSaid : Prop := Claim7.holds Tryd.pinned (.plain (OpenSpec.upto storeKeepsSpec)) storeKeepsUptoCard

/-- THE SECOND FORM's CARD OF 'voussoirlaw09.StoreDiscards'. -/
def storeDiscardsUptoCard : Claim7 := { stood := { row := storeDiscardsUptoRow, standIns := [], harness := (true, "bb4e9ec6e177198bb3ac09a4e1b0845e16e84550bf475fc707b566efb162e196"), looks := false }, kinds := [], alts := [], laidByText := true, laidKinds := [.data, .data, .wider], laidTests := true, laidLooks := .later }
def StoreDiscardsUptoCardSaid : Prop := Claim7.holds Tryd.pinned (.plain (OpenSpec.upto storeDiscardsSpec)) storeDiscardsUptoCard

/-- THE SECOND FORM's CARD OF 'voussoirlaw09.StoreStill'. -/
def storeStillUptoCard : Claim7 := { stood := { row := storeStillUptoRow, standIns := [], harness := (true, "bb4e9ec6e177198bb3ac09a4e1b0845e16e84550bf475fc707b566efb162e196"), looks := false }, kinds := [], alts := [], laidByText := true, laidKinds := [.data, .data, .wider], laidTests := true, laidLooks := .later }
def StoreStillUptoCardSaid : Prop := Claim7.holds Tryd.pinned (.plain (OpenSpec.upto storeStillSpec)) storeStillUptoCard

/-- THE SECOND FORM's CARD OF 'voussoirlaw09.StoreGets'. -/
def storeGetsUptoCard : Claim7 := { stood := { row := storeGetsUptoRow, standIns := [], harness := (true, "bb4e9ec6e177198bb3ac09a4e1b0845e16e84550bf475fc707b566efb162e196"), looks := false }, kinds := [], alts := [], laidByText := true, laidKinds := [.data, .data, .wider], laidTests := true, laidLooks := .later }
def StoreGetsUptoCardSaid : Prop := Claim7.holds Tryd.pinned (.plain (OpenSpec.upto storeGetsSpec)) storeGetsUptoCard
end Rows
end Go.Proofs.YtichklplcpkjdaaDoor
