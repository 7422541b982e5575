/-
  DERIVED. GIVEN WITH THE SEED: THE CARDS: each row of YtfpfdnckibaldaaDoorRows.lean that lists a variable, with what it lists TIED to the program's text (the seventh form; the later family's looks); each row that meets fmt, with fmt's text TOLD by the authors' own Lean function (tested against real Go, not proved from fmt's source: count such statements apart). THE CARD IS WHAT COUNTS. Prove the row's statement (the work); the ties are given (YtfpfdnckibaldaaDoorTie.lean); close each card by the builder's one call (the guide's Derived/Test/ToyasCard.lean, 'card_holds'). Laid BY PROGRAM, IN A SANDBOX (cutbox-door.mjs). By AI agents, Wed Nov 11 2026. No macro, syntax, notation, axiom, sorry.
-/
import Derived.Test.YtfpfdnckibaldaaDoorRows
import GoSem.ClaimSeven
namespace Go.Proofs.YtfpfdnckibaldaaDoor
namespace Rows

/-- THE TIED CARD OF 'panniertop.WholeFields'. -/
def wholeFieldsCard : Claim7 := { stood := { row := wholeFieldsRow, standIns := [], harness := (true, "f35d9abd2889fbc5c2b74d26b661bccc71594c9c92cc8ce9f853560725e9c421"), looks := true }, kinds := [], alts := [], laidByText := true, laidKinds := [.handle], laidTests := true, laidLooks := .later }
def WholeFieldsCardSaid : Prop := Claim7.holds Tryd.pinned (.plain (OpenSpec.ofChange wholeFieldsSpec)) wholeFieldsCard

/-- THE TIED CARD OF 'panniertop.WholeEntry'. -/
def wholeEntryCard : Claim7 := { stood := { row := wholeEntryRow, standIns := [], harness := (true, "f35d9abd2889fbc5c2b74d26b661bccc71594c9c92cc8ce9f853560725e9c421"), looks := true }, kinds := [], alts := [], laidByText := true, laidKinds := [.data, .data, .data, .sentinel, .sentinel], laidTests := true, laidLooks := .later }
def WholeEntryCardSaid : Prop := Claim7.holds Tryd.pinned (.plain (OpenSpec.ofChange wholeEntrySpec)) wholeEntryCard

/-- THE SECOND FORM's CARD OF 'panniertop.WholeFields'. -/
def wholeFieldsUptoCard : Claim7 := { stood := { row := wholeFieldsUptoRow, standIns := [], harness := (true, "f35d9abd2889fbc5c2b74d26b661bccc71594c9c92cc8ce9f853560725e9c421"), looks := true }, kinds := [], alts := [], laidByText := true, laidKinds := [.handle], laidTests := true, laidLooks := .later }
def WholeFieldsUptoCardSaid : Prop := Claim7.holds Tryd.pinned (.plain (OpenSpec.upto wholeFieldsSpec)) wholeFieldsUptoCard

/-- THE SECOND FORM's CARD OF 'panniertop.WholeEntry'. -/
def wholeEntryUptoCard : Claim7 := { stood := { row := wholeEntryUptoRow, standIns := [], harness := (true, "f35d9abd2889fbc5c2b74d26b661bccc71594c9c92cc8ce9f853560725e9c421"), looks := true }, kinds := [], alts := [], laidByText := true, laidKinds := [.data, .data, .data, .sentinel, .sentinel], laidTests := true, laidLooks := .later }
def WholeEntryUptoCardSaid : Prop := Claim7.holds Tryd.pinned (.plain (OpenSpec.upto wholeEntrySpec)) wholeEntryUptoCard
end Rows
end Go.Proofs.YtfpfdnckibaldaaDoor
