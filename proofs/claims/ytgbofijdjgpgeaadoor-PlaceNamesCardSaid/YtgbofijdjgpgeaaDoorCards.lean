/-
  DERIVED. GIVEN WITH THE SEED: THE CARDS: each row of YtgbofijdjgpgeaaDoorRows.lean that lists a variable, with what it lists TIED to the program's text (the seventh form; the later family's looks); each row that meets fmt, with fmt's text TOLD by the authors' own Lean function (tested against real Go, not proved from fmt's source: count such statements apart). THE CARD IS WHAT COUNTS. Prove the row's statement (the work); the ties are given (YtgbofijdjgpgeaaDoorTie.lean); close each card by the builder's one call (the guide's Derived/Test/ToyasCard.lean, 'card_holds'). Laid BY PROGRAM, IN A SANDBOX (cutbox-door.mjs). By AI agents, Wed Nov 11 2026. No macro, syntax, notation, axiom, sorry.
-/
import Derived.Test.YtgbofijdjgpgeaaDoorRows
import GoSem.ClaimSeven
namespace Go.Proofs.YtgbofijdjgpgeaaDoor
namespace Rows

/-- THE TIED CARD OF 'stilemanlaw03.PlaceNames'. -/
def placeNamesCard : Claim7 := { stood := { row := placeNamesRow, standIns := [], harness := (true, "09af94a1d8df7bf0ee9f17002fccbe52cf40c29aa9bc9fbfe5a03483d63e66a7"), looks := false }, kinds := [], alts := [], laidByText := true, laidKinds := [.data, .data, .data], laidTests := true, laidLooks := .later }
def PlaceNamesCardSaid : Prop := Claim7.holds Tryd.pinned (.plain (OpenSpec.ofChange placeNamesSpec)) placeNamesCard

/-- THE SECOND FORM's CARD OF 'stilemanlaw03.PlaceNames'. -/
def placeNamesUptoCard : Claim7 := { stood := { row := placeNamesUptoRow, standIns := [], harness := (true, "09af94a1d8df7bf0ee9f17002fccbe52cf40c29aa9bc9fbfe5a03483d63e66a7"), looks := false }, kinds := [], alts := [], laidByText := true, laidKinds := [.data, .data, .data], laidTests := true, laidLooks := .later }
def PlaceNamesUptoCardSaid : Prop := Claim7.holds Tryd.pinned (.plain (OpenSpec.upto placeNamesSpec)) placeNamesUptoCard
end Rows
end Go.Proofs.YtgbofijdjgpgeaaDoor
