/-
  DERIVED. GIVEN WITH THE SEED: THE CARDS: each row of YtejmbmhehbcflaaDoorRows.lean that lists a variable, with what it lists TIED to the program's text (the seventh form; the later family's looks); each row that meets fmt, with fmt's text TOLD by the authors' own Lean function (tested against real Go, not proved from fmt's source: count such statements apart). THE CARD IS WHAT COUNTS. Prove the row's statement (the work); the ties are given (YtejmbmhehbcflaaDoorTie.lean); close each card by the builder's one call (the guide's Derived/Test/ToyasCard.lean, 'card_holds'). Laid BY PROGRAM, IN A SANDBOX (cutbox-door.mjs). By AI agents, Wed Nov 11 2026. No macro, syntax, notation, axiom, sorry.
-/
import Derived.Test.YtejmbmhehbcflaaDoorRows
import GoSem.ClaimSeven
namespace Go.Proofs.YtejmbmhehbcflaaDoor
namespace Rows

/-- THE TIED CARD OF 'stilemanlaw03.PlaceApart'. -/
def placeApartCard : Claim7 := { stood := { row := placeApartRow, standIns := [], harness := (true, "5cce427c5a7dcf603202dfad33299fcb80ae5d1c207ef0f52f76b12e5de6109d"), looks := true }, kinds := [], alts := [], laidByText := true, laidKinds := [.data, .data, .data], laidTests := true, laidLooks := .later }
def PlaceApartCardSaid : Prop := Claim7.holds Tryd.pinned (.plain (OpenSpec.ofChange placeApartSpec)) placeApartCard

/-- THE TIED CARD OF 'stilemanlaw05.NoteApart'. -/
def noteApartCard : Claim7 := { stood := { row := noteApartRow, standIns := [], harness := (true, "5cce427c5a7dcf603202dfad33299fcb80ae5d1c207ef0f52f76b12e5de6109d"), looks := true }, kinds := [], alts := [], laidByText := true, laidKinds := [.data, .data, .data], laidTests := true, laidLooks := .later }
def NoteApartCardSaid : Prop := Claim7.holds Tryd.pinned (.plain (OpenSpec.ofChange noteApartSpec)) noteApartCard

/-- THE TIED CARD OF 'stilemanlaw05.NoteOf'. -/
def noteOfCard : Claim7 := { stood := { row := noteOfRow, standIns := [], harness := (true, "5cce427c5a7dcf603202dfad33299fcb80ae5d1c207ef0f52f76b12e5de6109d"), looks := true }, kinds := [], alts := [], laidByText := true, laidKinds := [.data, .data, .data], laidTests := true, laidLooks := .later }
def NoteOfCardSaid : Prop := Claim7.holds Tryd.pinned (.plain (OpenSpec.ofChange noteOfSpec)) noteOfCard

/-- THE TIED CARD OF 'stilemanlaw04.AccApart'. -/
def accApartCard : Claim7 := { stood := { row := accApartRow, standIns := [], harness := (true, "5cce427c5a7dcf603202dfad33299fcb80ae5d1c207ef0f52f76b12e5de6109d"), looks := true }, kinds := [], alts := [], laidByText := true, laidKinds := [.data, .data, .data], laidTests := true, laidLooks := .later }
def AccApartCardSaid : Prop := Claim7.holds Tryd.pinned (.plain (OpenSpec.ofChange accApartSpec)) accApartCard

/-- THE TIED CARD OF 'stilemanlaw04.AccWrites'. -/
def accWritesCard : Claim7 := { stood := { row := accWritesRow, standIns := [], harness := (true, "5cce427c5a7dcf603202dfad33299fcb80ae5d1c207ef0f52f76b12e5de6109d"), looks := true }, kinds := [], alts := [], laidByText := true, laidKinds := [.data, .data, .data], laidTests := true, laidLooks := .later }
def AccWritesCardSaid : Prop := Claim7.holds Tryd.pinned (.plain (OpenSpec.ofChange accWritesSpec)) accWritesCard

/-- THE TIED CARD OF 'stilemanlaw05.NoteTexts'. -/
def noteTextsCard : Claim7 := { stood := { row := noteTextsRow, standIns := [], harness := (true, "5cce427c5a7dcf603202dfad33299fcb80ae5d1c207ef0f52f76b12e5de6109d"), looks := true }, kinds := [], alts := [], laidByText := true, laidKinds := [.data, .data, .data, .data, .sentinel, .sentinel, .pinned], laidTests := true, laidLooks := .later }
def NoteTextsCardSaid : Prop := Claim7.holds Tryd.pinned (.plain (OpenSpec.ofChange noteTextsSpec)) noteTextsCard

/-- THE TIED CARD OF 'stilemanlaw05.NoteReads'. -/
def noteReadsCard : Claim7 := { stood := { row := noteReadsRow, standIns := [], harness := (true, "5cce427c5a7dcf603202dfad33299fcb80ae5d1c207ef0f52f76b12e5de6109d"), looks := true }, kinds := [], alts := [], laidByText := true, laidKinds := [.data, .data, .data, .data, .sentinel, .sentinel, .pinned], laidTests := true, laidLooks := .later }
def NoteReadsCardSaid : Prop := Claim7.holds Tryd.pinned (.plain (OpenSpec.ofChange noteReadsSpec)) noteReadsCard

/-- THE TIED CARD OF 'stilemanlaw04.AccTexts'. -/
def accTextsCard : Claim7 := { stood := { row := accTextsRow, standIns := [], harness := (true, "5cce427c5a7dcf603202dfad33299fcb80ae5d1c207ef0f52f76b12e5de6109d"), looks := true }, kinds := [], alts := [], laidByText := true, laidKinds := [.data, .data, .data, .data, .sentinel, .sentinel, .pinned], laidTests := true, laidLooks := .later }
def AccTextsCardSaid : Prop := Claim7.holds Tryd.pinned (.plain (OpenSpec.ofChange accTextsSpec)) accTextsCard

/-- THE TIED CARD OF 'stilemanlaw04.AccReads'. -/
def accReadsCard : Claim7 := { stood := { row := accReadsRow, standIns := [], harness := (true, "5cce427c5a7dcf603202dfad33299fcb80ae5d1c207ef0f52f76b12e5de6109d"), looks := true }, kinds := [], alts := [], laidByText := true, laidKinds := [.data, .data, .data, .data, .sentinel, .sentinel, .pinned], laidTests := true, laidLooks := .later }
def AccReadsCardSaid : Prop := Claim7.holds Tryd.pinned (.plain (OpenSpec.ofChange accReadsSpec)) accReadsCard

/-- THE TIED CARD OF 'stilemanlaw19.ScriptParses'. -/
def scriptParsesCard : Claim7 := { stood := { row := scriptParsesRow, standIns := [], harness := (true, "5cce427c5a7dcf603202dfad33299fcb80ae5d1c207ef0f52f76b12e5de6109d"), looks := true }, kinds := [], alts := [], laidByText := true, laidKinds := [.data, .data, .data, .data, .sentinel, .sentinel, .pinned], laidTests := true, laidLooks := .later }
def ScriptParsesCardSaid : Prop := Claim7.holds Tryd.pinned (.plain (OpenSpec.ofChange scriptParsesSpec)) scriptParsesCard

/-- THE TIED CARD OF 'stilemanlaw19.ScriptBlanks'. -/
def scriptBlanksCard : Claim7 := { stood := { row := scriptBlanksRow, standIns := [], harness := (true, "5cce427c5a7dcf603202dfad33299fcb80ae5d1c207ef0f52f76b12e5de6109d"), looks := true }, kinds := [], alts := [], laidByText := true, laidKinds := [.data, .data, .data, .data, .sentinel, .sentinel, .pinned], laidTests := true, laidLooks := .later }
def ScriptBlanksCardSaid : Prop := Claim7.holds Tryd.pinned (.plain (OpenSpec.ofChange scriptBlanksSpec)) scriptBlanksCard

/-- THE TIED CARD OF 'stilemanlaw19.ScriptRounds'. -/
def scriptRoundsCard : Claim7 := { stood := { row := scriptRoundsRow, standIns := [], harness := (true, "5cce427c5a7dcf603202dfad33299fcb80ae5d1c207ef0f52f76b12e5de6109d"), looks := true }, kinds := [], alts := [], laidByText := true, laidKinds := [.data, .data, .data, .data, .sentinel, .sentinel, .pinned], laidTests := true, laidLooks := .later }
def ScriptRoundsCardSaid : Prop := Claim7.holds Tryd.pinned (.plain (OpenSpec.ofChange scriptRoundsSpec)) scriptRoundsCard

/-- THE TIED CARD OF 'stilemanlaw19.ScriptTexts'. -/
def scriptTextsCard : Claim7 := { stood := { row := scriptTextsRow, standIns := [], harness := (true, "5cce427c5a7dcf603202dfad33299fcb80ae5d1c207ef0f52f76b12e5de6109d"), looks := true }, kinds := [], alts := [], laidByText := true, laidKinds := [.data, .data, .data, .data, .sentinel, .sentinel, .pinned], laidTests := true, laidLooks := .later }
def ScriptTextsCardSaid : Prop := Claim7.holds Tryd.pinned (.plain (OpenSpec.ofChange scriptTextsSpec)) scriptTextsCard

/-- THE SECOND FORM's CARD OF 'stilemanlaw03.PlaceApart'. -/
def placeApartUptoCard : Claim7 := { stood := { row := placeApartUptoRow, standIns := [], harness := (true, "5cce427c5a7dcf603202dfad33299fcb80ae5d1c207ef0f52f76b12e5de6109d"), looks := true }, kinds := [], alts := [], laidByText := true, laidKinds := [.data, .data, .data], laidTests := true, laidLooks := .later }
def PlaceApartUptoCardSaid : Prop := Claim7.holds Tryd.pinned (.plain (OpenSpec.upto placeApartSpec)) placeApartUptoCard

/-- THE SECOND FORM's CARD OF 'stilemanlaw05.NoteApart'. -/
def noteApartUptoCard : Claim7 := { stood := { row := noteApartUptoRow, standIns := [], harness := (true, "5cce427c5a7dcf603202dfad33299fcb80ae5d1c207ef0f52f76b12e5de6109d"), looks := true }, kinds := [], alts := [], laidByText := true, laidKinds := [.data, .data, .data], laidTests := true, laidLooks := .later }
def NoteApartUptoCardSaid : Prop := Claim7.holds Tryd.pinned (.plain (OpenSpec.upto noteApartSpec)) noteApartUptoCard

/-- THE SECOND FORM's CARD OF 'stilemanlaw05.NoteOf'. -/
def noteOfUptoCard : Claim7 := { stood := { row := noteOfUptoRow, standIns := [], harness := (true, "5cce427c5a7dcf603202dfad33299fcb80ae5d1c207ef0f52f76b12e5de6109d"), looks := true }, kinds := [], alts := [], laidByText := true, laidKinds := [.data, .data, .data], laidTests := true, laidLooks := .later }
def NoteOfUptoCardSaid : Prop := Claim7.holds Tryd.pinned (.plain (OpenSpec.upto noteOfSpec)) noteOfUptoCard

/-- THE SECOND FORM's CARD OF 'stilemanlaw04.AccApart'. -/
def accApartUptoCard : Claim7 := { stood := { row := accApartUptoRow, standIns := [], harness := (true, "5cce427c5a7dcf603202dfad33299fcb80ae5d1c207ef0f52f76b12e5de6109d"), looks := true }, kinds := [], alts := [], laidByText := true, laidKinds := [.data, .data, .data], laidTests := true, laidLooks := .later }
def AccApartUptoCardSaid : Prop := Claim7.holds Tryd.pinned (.plain (OpenSpec.upto accApartSpec)) accApartUptoCard

/-- THE SECOND FORM's CARD OF 'stilemanlaw04.AccWrites'. -/
def accWritesUptoCard : Claim7 := { stood := { row := accWritesUptoRow, standIns := [], harness := (true, "5cce427c5a7dcf603202dfad33299fcb80ae5d1c207ef0f52f76b12e5de6109d"), looks := true }, kinds := [], alts := [], laidByText := true, laidKinds := [.data, .data, .data], laidTests := true, laidLooks := .later }
def AccWritesUptoCardSaid : Prop := Claim7.holds Tryd.pinned (.plain (OpenSpec.upto accWritesSpec)) accWritesUptoCard

/-- THE SECOND FORM's CARD OF 'stilemanlaw05.NoteTexts'. -/
def noteTextsUptoCard : Claim7 := { stood := { row := noteTextsUptoRow, standIns := [], harness := (true, "5cce427c5a7dcf603202dfad33299fcb80ae5d1c207ef0f52f76b12e5de6109d"), looks := true }, kinds := [], alts := [], laidByText := true, laidKinds := [.data, .data, .data, .data, .sentinel, .sentinel, .pinned], laidTests := true, laidLooks := .later }
def NoteTextsUptoCardSaid : Prop := Claim7.holds Tryd.pinned (.plain (OpenSpec.upto noteTextsSpec)) noteTextsUptoCard

/-- THE SECOND FORM's CARD OF 'stilemanlaw05.NoteReads'. -/
def noteReadsUptoCard : Claim7 := { stood := { row := noteReadsUptoRow, standIns := [], harness := (true, "5cce427c5a7dcf603202dfad33299fcb80ae5d1c207ef0f52f76b12e5de6109d"), looks := true }, kinds := [], alts := [], laidByText := true, laidKinds := [.data, .data, .data, .data, .sentinel, .sentinel, .pinned], laidTests := true, laidLooks := .later }
def NoteReadsUptoCardSaid : Prop := Claim7.holds Tryd.pinned (.plain (OpenSpec.upto noteReadsSpec)) noteReadsUptoCard

/-- THE SECOND FORM's CARD OF 'stilemanlaw04.AccTexts'. -/
def accTextsUptoCard : Claim7 := { stood := { row := accTextsUptoRow, standIns := [], harness := (true, "5cce427c5a7dcf603202dfad33299fcb80ae5d1c207ef0f52f76b12e5de6109d"), looks := true }, kinds := [], alts := [], laidByText := true, laidKinds := [.data, .data, .data, .data, .sentinel, .sentinel, .pinned], laidTests := true, laidLooks := .later }
def AccTextsUptoCardSaid : Prop := Claim7.holds Tryd.pinned (.plain (OpenSpec.upto accTextsSpec)) accTextsUptoCard

/-- THE SECOND FORM's CARD OF 'stilemanlaw04.AccReads'. -/
def accReadsUptoCard : Claim7 := { stood := { row := accReadsUptoRow, standIns := [], harness := (true, "5cce427c5a7dcf603202dfad33299fcb80ae5d1c207ef0f52f76b12e5de6109d"), looks := true }, kinds := [], alts := [], laidByText := true, laidKinds := [.data, .data, .data, .data, .sentinel, .sentinel, .pinned], laidTests := true, laidLooks := .later }
def AccReadsUptoCardSaid : Prop := Claim7.holds Tryd.pinned (.plain (OpenSpec.upto accReadsSpec)) accReadsUptoCard

/-- THE SECOND FORM's CARD OF 'stilemanlaw19.ScriptParses'. -/
def scriptParsesUptoCard : Claim7 := { stood := { row := scriptParsesUptoRow, standIns := [], harness := (true, "5cce427c5a7dcf603202dfad33299fcb80ae5d1c207ef0f52f76b12e5de6109d"), looks := true }, kinds := [], alts := [], laidByText := true, laidKinds := [.data, .data, .data, .data, .sentinel, .sentinel, .pinned], laidTests := true, laidLooks := .later }
def ScriptParsesUptoCardSaid : Prop := Claim7.holds Tryd.pinned (.plain (OpenSpec.upto scriptParsesSpec)) scriptParsesUptoCard

/-- THE SECOND FORM's CARD OF 'stilemanlaw19.ScriptBlanks'. -/
def scriptBlanksUptoCard : Claim7 := { stood := { row := scriptBlanksUptoRow, standIns := [], harness := (true, "5cce427c5a7dcf603202dfad33299fcb80ae5d1c207ef0f52f76b12e5de6109d"), looks := true }, kinds := [], alts := [], laidByText := true, laidKinds := [.data, .data, .data, .data, .sentinel, .sentinel, .pinned], laidTests := true, laidLooks := .later }
def ScriptBlanksUptoCardSaid : Prop := Claim7.holds Tryd.pinned (.plain (OpenSpec.upto scriptBlanksSpec)) scriptBlanksUptoCard

/-- THE SECOND FORM's CARD OF 'stilemanlaw19.ScriptRounds'. -/
def scriptRoundsUptoCard : Claim7 := { stood := { row := scriptRoundsUptoRow, standIns := [], harness := (true, "5cce427c5a7dcf603202dfad33299fcb80ae5d1c207ef0f52f76b12e5de6109d"), looks := true }, kinds := [], alts := [], laidByText := true, laidKinds := [.data, .data, .data, .data, .sentinel, .sentinel, .pinned], laidTests := true, laidLooks := .later }
def ScriptRoundsUptoCardSaid : Prop := Claim7.holds Tryd.pinned (.plain (OpenSpec.upto scriptRoundsSpec)) scriptRoundsUptoCard

/-- THE SECOND FORM's CARD OF 'stilemanlaw19.ScriptTexts'. -/
def scriptTextsUptoCard : Claim7 := { stood := { row := scriptTextsUptoRow, standIns := [], harness := (true, "5cce427c5a7dcf603202dfad33299fcb80ae5d1c207ef0f52f76b12e5de6109d"), looks := true }, kinds := [], alts := [], laidByText := true, laidKinds := [.data, .data, .data, .data, .sentinel, .sentinel, .pinned], laidTests := true, laidLooks := .later }
def ScriptTextsUptoCardSaid : Prop := Claim7.holds Tryd.pinned (.plain (OpenSpec.upto scriptTextsSpec)) scriptTextsUptoCard
end Rows
end Go.Proofs.YtejmbmhehbcflaaDoor
