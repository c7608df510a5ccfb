/-
  No cell of these rows narrows 'for every input' (looked for: loops, veiled, ifaces, maps, wideKeys, modest, calm, conditions, laid).
  DERIVED. THE GIVEN ROWS OF THIS SEAT. 11 by the template 'for every input the law returns true; each argument reads behind the call as it read before'; 0 by the template 'total and deterministic' (their statements: YtgbofijdjgpgeaaTotals.lean).
  GIVEN WITH THE SEED: the statements are not yours to turn. If you find one false, say at which input.
  Laid BY PROGRAM, IN A SANDBOX (cutbox-rows.mjs): the forced cells as the released guide's own fill.sh prints them over the translation 969d0978f5462788… (all of the seat's roots in one cut). By AI agents, Wed Nov 11 2026. No macro, syntax, notation, axiom, sorry.
-/
import Derived.Test.YtgbofijdjgpgeaaChecked
import GoSem.Claim
import GoSem.ClaimJoined
import GoSem.ClaimMapViews
import Derived.JoinedTies
import Derived.KernelRfl
namespace Go.Proofs.Ytgbofijdjgpgeaa
/- THE CELL 'sum', in the pinned program and in every row, IS THE sha256 OF THE DUMP (.gsa) THAT YtgbofijdjgpgeaaProg.lean LOADS. Nothing in Lean hashes anything: it is a label: what it is worth is what the hold of that sum in a sandbox is worth. -/
noncomputable def Try.pinned : Pinned := { name := "ytgbofijdjgpgeaa", sum := "969d0978f546278839c34712dd9b02431344270a072dbd8d39899078ef4f8f75", checked := Try.checked }
namespace Rows
def none {H : Type} : Left H := { results := [], args := [] }

/-- 'stilemanlaw24.BoundPicks': WHATEVER THE INPUT: true; the input reads as it did. -/
def boundPicksSpec : ChangeSpec := { name := "boundPicks", fn := fun _ => fun
  | [d1, d2, d3] => { results := [.lit (.bool true)], args := [d1, d2, d3] }
  | _ => none }
def boundPicksRow : OpenClaim := { program := "ytgbofijdjgpgeaa", sum := "969d0978f546278839c34712dd9b02431344270a072dbd8d39899078ef4f8f75", func := "stileman/stilemanlaw24.BoundPicks", spec := "boundPicks", apart := false }
def BoundPicksSaid : Prop := boundPicksRow.holds Try.pinned (OpenSpec.ofChange boundPicksSpec)

/-- ITS FALSE NEIGHBOUR: 'it returns false'. Refute it at one input. -/
def boundPicksWrong : ChangeSpec := { name := "boundPicks", fn := fun _ => fun
  | [d1, d2, d3] => { results := [.lit (.bool false)], args := [d1, d2, d3] }
  | _ => none }
def BoundPicksWrongFalsely : Prop := boundPicksRow.holds Try.pinned (OpenSpec.ofChange boundPicksWrong)

/-- 'stilemanlaw03.PlaceCells': WHATEVER THE INPUT: true; the input reads as it did. -/
def placeCellsSpec : ChangeSpec := { name := "placeCells", fn := fun _ => fun
  | [d1, d2] => { results := [.lit (.bool true)], args := [d1, d2] }
  | _ => none }
def placeCellsRow : OpenClaim := { program := "ytgbofijdjgpgeaa", sum := "969d0978f546278839c34712dd9b02431344270a072dbd8d39899078ef4f8f75", func := "stileman/stilemanlaw03.PlaceCells", spec := "placeCells", apart := false }
def PlaceCellsSaid : Prop := placeCellsRow.holds Try.pinned (OpenSpec.ofChange placeCellsSpec)

/-- ITS FALSE NEIGHBOUR: 'it returns false'. Refute it at one input. -/
def placeCellsWrong : ChangeSpec := { name := "placeCells", fn := fun _ => fun
  | [d1, d2] => { results := [.lit (.bool false)], args := [d1, d2] }
  | _ => none }
def PlaceCellsWrongFalsely : Prop := placeCellsRow.holds Try.pinned (OpenSpec.ofChange placeCellsWrong)

/-- 'stilemanlaw20.RecOverlaps': WHATEVER THE INPUT: true; the input reads as it did. -/
def recOverlapsSpec : ChangeSpec := { name := "recOverlaps", fn := fun _ => fun
  | [d1, d2] => { results := [.lit (.bool true)], args := [d1, d2] }
  | _ => none }
def recOverlapsRow : OpenClaim := { program := "ytgbofijdjgpgeaa", sum := "969d0978f546278839c34712dd9b02431344270a072dbd8d39899078ef4f8f75", func := "stileman/stilemanlaw20.RecOverlaps", spec := "recOverlaps", apart := false }
def RecOverlapsSaid : Prop := recOverlapsRow.holds Try.pinned (OpenSpec.ofChange recOverlapsSpec)

/-- ITS FALSE NEIGHBOUR: 'it returns false'. Refute it at one input. -/
def recOverlapsWrong : ChangeSpec := { name := "recOverlaps", fn := fun _ => fun
  | [d1, d2] => { results := [.lit (.bool false)], args := [d1, d2] }
  | _ => none }
def RecOverlapsWrongFalsely : Prop := recOverlapsRow.holds Try.pinned (OpenSpec.ofChange recOverlapsWrong)

/-- 'stilemanlaw26.SignalOnce': WHATEVER THE INPUT: true; the input reads as it did. -/
def signalOnceSpec : ChangeSpec := { name := "signalOnce", fn := fun _ => fun
  | [d] => { results := [.lit (.bool true)], args := [d] }
  | _ => none }
def signalOnceRow : OpenClaim := { program := "ytgbofijdjgpgeaa", sum := "969d0978f546278839c34712dd9b02431344270a072dbd8d39899078ef4f8f75", func := "stileman/stilemanlaw26.SignalOnce", spec := "signalOnce", apart := false }
def SignalOnceSaid : Prop := signalOnceRow.holds Try.pinned (OpenSpec.ofChange signalOnceSpec)

/-- ITS FALSE NEIGHBOUR: 'it returns false'. Refute it at one input. -/
def signalOnceWrong : ChangeSpec := { name := "signalOnce", fn := fun _ => fun
  | [d] => { results := [.lit (.bool false)], args := [d] }
  | _ => none }
def SignalOnceWrongFalsely : Prop := signalOnceRow.holds Try.pinned (OpenSpec.ofChange signalOnceWrong)

/-- 'stilemanlaw26.SignalPlays': WHATEVER THE INPUT: true; the input reads as it did. -/
def signalPlaysSpec : ChangeSpec := { name := "signalPlays", fn := fun _ => fun
  | [d] => { results := [.lit (.bool true)], args := [d] }
  | _ => none }
def signalPlaysRow : OpenClaim := { program := "ytgbofijdjgpgeaa", sum := "969d0978f546278839c34712dd9b02431344270a072dbd8d39899078ef4f8f75", func := "stileman/stilemanlaw26.SignalPlays", spec := "signalPlays", apart := false }
def SignalPlaysSaid : Prop := signalPlaysRow.holds Try.pinned (OpenSpec.ofChange signalPlaysSpec)

/-- ITS FALSE NEIGHBOUR: 'it returns false'. Refute it at one input. -/
def signalPlaysWrong : ChangeSpec := { name := "signalPlays", fn := fun _ => fun
  | [d] => { results := [.lit (.bool false)], args := [d] }
  | _ => none }
def SignalPlaysWrongFalsely : Prop := signalPlaysRow.holds Try.pinned (OpenSpec.ofChange signalPlaysWrong)

/-- 'stilemanlaw26.SignalNone': WHATEVER THE INPUT: true; the input reads as it did. -/
def signalNoneSpec : ChangeSpec := { name := "signalNone", fn := fun _ => fun
  | [d] => { results := [.lit (.bool true)], args := [d] }
  | _ => none }
def signalNoneRow : OpenClaim := { program := "ytgbofijdjgpgeaa", sum := "969d0978f546278839c34712dd9b02431344270a072dbd8d39899078ef4f8f75", func := "stileman/stilemanlaw26.SignalNone", spec := "signalNone", apart := false }
def SignalNoneSaid : Prop := signalNoneRow.holds Try.pinned (OpenSpec.ofChange signalNoneSpec)

/-- ITS FALSE NEIGHBOUR: 'it returns false'. Refute it at one input. -/
def signalNoneWrong : ChangeSpec := { name := "signalNone", fn := fun _ => fun
  | [d] => { results := [.lit (.bool false)], args := [d] }
  | _ => none }
def SignalNoneWrongFalsely : Prop := signalNoneRow.holds Try.pinned (OpenSpec.ofChange signalNoneWrong)

/-- 'stilemanlaw17.SuiteOnce': WHATEVER THE INPUT: true; the input reads as it did. -/
def suiteOnceSpec : ChangeSpec := { name := "suiteOnce", fn := fun _ => fun
  | [d1, d2] => { results := [.lit (.bool true)], args := [d1, d2] }
  | _ => none }
def suiteOnceRow : OpenClaim := { program := "ytgbofijdjgpgeaa", sum := "969d0978f546278839c34712dd9b02431344270a072dbd8d39899078ef4f8f75", func := "stileman/stilemanlaw17.SuiteOnce", spec := "suiteOnce", apart := false }
def SuiteOnceSaid : Prop := suiteOnceRow.holds Try.pinned (OpenSpec.ofChange suiteOnceSpec)

/-- ITS FALSE NEIGHBOUR: 'it returns false'. Refute it at one input. -/
def suiteOnceWrong : ChangeSpec := { name := "suiteOnce", fn := fun _ => fun
  | [d1, d2] => { results := [.lit (.bool false)], args := [d1, d2] }
  | _ => none }
def SuiteOnceWrongFalsely : Prop := suiteOnceRow.holds Try.pinned (OpenSpec.ofChange suiteOnceWrong)

/-- 'stilemanlaw03.PlaceFirst': WHATEVER THE INPUT: true; the input reads as it did. -/
def placeFirstSpec : ChangeSpec := { name := "placeFirst", fn := fun _ => fun
  | [d1, d2, d3] => { results := [.lit (.bool true)], args := [d1, d2, d3] }
  | _ => none }
def placeFirstRow : OpenClaim := { program := "ytgbofijdjgpgeaa", sum := "969d0978f546278839c34712dd9b02431344270a072dbd8d39899078ef4f8f75", func := "stileman/stilemanlaw03.PlaceFirst", spec := "placeFirst", apart := false }
def PlaceFirstSaid : Prop := placeFirstRow.holds Try.pinned (OpenSpec.ofChange placeFirstSpec)

/-- ITS FALSE NEIGHBOUR: 'it returns false'. Refute it at one input. -/
def placeFirstWrong : ChangeSpec := { name := "placeFirst", fn := fun _ => fun
  | [d1, d2, d3] => { results := [.lit (.bool false)], args := [d1, d2, d3] }
  | _ => none }
def PlaceFirstWrongFalsely : Prop := placeFirstRow.holds Try.pinned (OpenSpec.ofChange placeFirstWrong)

/-- 'stilemanlaw24.BoundWatches': WHATEVER THE INPUT: true; the input reads as it did. -/
def boundWatchesSpec : ChangeSpec := { name := "boundWatches", fn := fun _ => fun
  | [d1, d2, d3, d4] => { results := [.lit (.bool true)], args := [d1, d2, d3, d4] }
  | _ => none }
def boundWatchesRow : OpenClaim := { program := "ytgbofijdjgpgeaa", sum := "969d0978f546278839c34712dd9b02431344270a072dbd8d39899078ef4f8f75", func := "stileman/stilemanlaw24.BoundWatches", spec := "boundWatches", apart := false }
def BoundWatchesSaid : Prop := boundWatchesRow.holds Try.pinned (OpenSpec.ofChange boundWatchesSpec)

/-- ITS FALSE NEIGHBOUR: 'it returns false'. Refute it at one input. -/
def boundWatchesWrong : ChangeSpec := { name := "boundWatches", fn := fun _ => fun
  | [d1, d2, d3, d4] => { results := [.lit (.bool false)], args := [d1, d2, d3, d4] }
  | _ => none }
def BoundWatchesWrongFalsely : Prop := boundWatchesRow.holds Try.pinned (OpenSpec.ofChange boundWatchesWrong)

/-- 'stilemanlaw20.RecChecks': WHATEVER THE INPUT: true; the input reads as it did. -/
def recChecksSpec : ChangeSpec := { name := "recChecks", fn := fun _ => fun
  | [d1, d2] => { results := [.lit (.bool true)], args := [d1, d2] }
  | _ => none }
def recChecksRow : OpenClaim := { program := "ytgbofijdjgpgeaa", sum := "969d0978f546278839c34712dd9b02431344270a072dbd8d39899078ef4f8f75", func := "stileman/stilemanlaw20.RecChecks", spec := "recChecks", apart := false }
def RecChecksSaid : Prop := recChecksRow.holds Try.pinned (OpenSpec.ofChange recChecksSpec)

/-- ITS FALSE NEIGHBOUR: 'it returns false'. Refute it at one input. -/
def recChecksWrong : ChangeSpec := { name := "recChecks", fn := fun _ => fun
  | [d1, d2] => { results := [.lit (.bool false)], args := [d1, d2] }
  | _ => none }
def RecChecksWrongFalsely : Prop := recChecksRow.holds Try.pinned (OpenSpec.ofChange recChecksWrong)

/-- 'stilemanlaw25.StarveScripts': WHATEVER THE INPUT: true; the input reads as it did. -/
def starveScriptsSpec : ChangeSpec := { name := "starveScripts", fn := fun _ => fun
  | [d1, d2] => { results := [.lit (.bool true)], args := [d1, d2] }
  | _ => none }
def starveScriptsRow : OpenClaim := { program := "ytgbofijdjgpgeaa", sum := "969d0978f546278839c34712dd9b02431344270a072dbd8d39899078ef4f8f75", func := "stileman/stilemanlaw25.StarveScripts", spec := "starveScripts", apart := false }
def StarveScriptsSaid : Prop := starveScriptsRow.holds Try.pinned (OpenSpec.ofChange starveScriptsSpec)

/-- ITS FALSE NEIGHBOUR: 'it returns false'. Refute it at one input. -/
def starveScriptsWrong : ChangeSpec := { name := "starveScripts", fn := fun _ => fun
  | [d1, d2] => { results := [.lit (.bool false)], args := [d1, d2] }
  | _ => none }
def StarveScriptsWrongFalsely : Prop := starveScriptsRow.holds Try.pinned (OpenSpec.ofChange starveScriptsWrong)

/- THE SECOND FORM. 'bulk': how many values and letters a reading holds, each counted each time it is reached (what is shared counts as often as it is met; a slice's spare places count too). A statement '..UptoSaid' is the law's where the arguments, and the package variables that the reading takes, are together of bulk at most 1048576: NARROWER than '..Said'. Prove '..Said' where nothing that the law and all that it calls make is longer than what came in: it says more and counts as full. Else prove '..UptoSaid'. A law counts once. -/
mutual
def uptoBulk {H : Type} : DataW H → Nat
  | .lit (.string bytes) => bytes.length + 1
  | .lit _ => 1
  | .nil => 1
  | .ptr d => uptoBulk d + 1
  | .slice elems spare => uptoBulkAll elems + uptoBulkAll spare + 1
  | .agg parts => uptoBulkAll parts + 1
  | .iface _ d => uptoBulk d + 1
  | .map entries => uptoBulkEntries entries + 1
  | .held _ => 1
def uptoBulkAll {H : Type} : List (DataW H) → Nat
  | [] => 0
  | d :: r => uptoBulk d + uptoBulkAll r
def uptoBulkEntries {H : Type} : List (Lit × DataW H) → Nat
  | [] => 0
  | x :: r => uptoBulkEntry x + uptoBulkEntries r
def uptoBulkEntry {H : Type} : Lit × DataW H → Nat
  | (.string bytes, d) => bytes.length + uptoBulk d + 1
  | (_, d) => uptoBulk d + 1
 end
def uptoSmall : (H : Type) → List (DataW H) → Bool := fun _ ds => decide (uptoBulkAll ds ≤ 1048576)
def OpenSpec.upto (s : _root_.Go.ChangeSpec) : _root_.Go.OpenSpec := { _root_.Go.OpenSpec.ofChange s with cond := some uptoSmall }

/-- 'stilemanlaw24.BoundPicks', WHERE WHAT IT READS IS OF BULK AT MOST 1048576: true; the input reads as it did. -/
def boundPicksUptoRow : OpenClaim := { program := "ytgbofijdjgpgeaa", sum := "969d0978f546278839c34712dd9b02431344270a072dbd8d39899078ef4f8f75", func := "stileman/stilemanlaw24.BoundPicks", spec := "boundPicks", apart := false, narrowed := true }
def BoundPicksUptoSaid : Prop := boundPicksUptoRow.holds Try.pinned (OpenSpec.upto boundPicksSpec)

/-- 'stilemanlaw03.PlaceCells', WHERE WHAT IT READS IS OF BULK AT MOST 1048576: true; the input reads as it did. -/
def placeCellsUptoRow : OpenClaim := { program := "ytgbofijdjgpgeaa", sum := "969d0978f546278839c34712dd9b02431344270a072dbd8d39899078ef4f8f75", func := "stileman/stilemanlaw03.PlaceCells", spec := "placeCells", apart := false, narrowed := true }
def PlaceCellsUptoSaid : Prop := placeCellsUptoRow.holds Try.pinned (OpenSpec.upto placeCellsSpec)

/-- 'stilemanlaw20.RecOverlaps', WHERE WHAT IT READS IS OF BULK AT MOST 1048576: true; the input reads as it did. -/
def recOverlapsUptoRow : OpenClaim := { program := "ytgbofijdjgpgeaa", sum := "969d0978f546278839c34712dd9b02431344270a072dbd8d39899078ef4f8f75", func := "stileman/stilemanlaw20.RecOverlaps", spec := "recOverlaps", apart := false, narrowed := true }
def RecOverlapsUptoSaid : Prop := recOverlapsUptoRow.holds Try.pinned (OpenSpec.upto recOverlapsSpec)

/-- 'stilemanlaw26.SignalOnce', WHERE WHAT IT READS IS OF BULK AT MOST 1048576: true; the input reads as it did. -/
def signalOnceUptoRow : OpenClaim := { program := "ytgbofijdjgpgeaa", sum := "969d0978f546278839c34712dd9b02431344270a072dbd8d39899078ef4f8f75", func := "stileman/stilemanlaw26.SignalOnce", spec := "signalOnce", apart := false, narrowed := true }
def SignalOnceUptoSaid : Prop := signalOnceUptoRow.holds Try.pinned (OpenSpec.upto signalOnceSpec)

/-- 'stilemanlaw26.SignalPlays', WHERE WHAT IT READS IS OF BULK AT MOST 1048576: true; the input reads as it did. -/
def signalPlaysUptoRow : OpenClaim := { program := "ytgbofijdjgpgeaa", sum := "969d0978f546278839c34712dd9b02431344270a072dbd8d39899078ef4f8f75", func := "stileman/stilemanlaw26.SignalPlays", spec := "signalPlays", apart := false, narrowed := true }
def SignalPlaysUptoSaid : Prop := signalPlaysUptoRow.holds Try.pinned (OpenSpec.upto signalPlaysSpec)

/-- 'stilemanlaw26.SignalNone', WHERE WHAT IT READS IS OF BULK AT MOST 1048576: true; the input reads as it did. -/
def signalNoneUptoRow : OpenClaim := { program := "ytgbofijdjgpgeaa", sum := "969d0978f546278839c34712dd9b02431344270a072dbd8d39899078ef4f8f75", func := "stileman/stilemanlaw26.SignalNone", spec := "signalNone", apart := false, narrowed := true }
def SignalNoneUptoSaid : Prop := signalNoneUptoRow.holds Try.pinned (OpenSpec.upto signalNoneSpec)

/-- 'stilemanlaw17.SuiteOnce', WHERE WHAT IT READS IS OF BULK AT MOST 1048576: true; the input reads as it did. -/
def suiteOnceUptoRow : OpenClaim := { program := "ytgbofijdjgpgeaa", sum := "969d0978f546278839c34712dd9b02431344270a072dbd8d39899078ef4f8f75", func := "stileman/stilemanlaw17.SuiteOnce", spec := "suiteOnce", apart := false, narrowed := true }
def SuiteOnceUptoSaid : Prop := suiteOnceUptoRow.holds Try.pinned (OpenSpec.upto suiteOnceSpec)

/-- 'stilemanlaw03.PlaceFirst', WHERE WHAT IT READS IS OF BULK AT MOST 1048576: true; the input reads as it did. -/
def placeFirstUptoRow : OpenClaim := { program := "ytgbofijdjgpgeaa", sum := "969d0978f546278839c34712dd9b02431344270a072dbd8d39899078ef4f8f75", func := "stileman/stilemanlaw03.PlaceFirst", spec := "placeFirst", apart := false, narrowed := true }
def PlaceFirstUptoSaid : Prop := placeFirstUptoRow.holds Try.pinned (OpenSpec.upto placeFirstSpec)

/-- 'stilemanlaw24.BoundWatches', WHERE WHAT IT READS IS OF BULK AT MOST 1048576: true; the input reads as it did. -/
def boundWatchesUptoRow : OpenClaim := { program := "ytgbofijdjgpgeaa", sum := "969d0978f546278839c34712dd9b02431344270a072dbd8d39899078ef4f8f75", func := "stileman/stilemanlaw24.BoundWatches", spec := "boundWatches", apart := false, narrowed := true }
def BoundWatchesUptoSaid : Prop := boundWatchesUptoRow.holds Try.pinned (OpenSpec.upto boundWatchesSpec)

/-- 'stilemanlaw20.RecChecks', WHERE WHAT IT READS IS OF BULK AT MOST 1048576: true; the input reads as it did. -/
def recChecksUptoRow : OpenClaim := { program := "ytgbofijdjgpgeaa", sum := "969d0978f546278839c34712dd9b02431344270a072dbd8d39899078ef4f8f75", func := "stileman/stilemanlaw20.RecChecks", spec := "recChecks", apart := false, narrowed := true }
def RecChecksUptoSaid : Prop := recChecksUptoRow.holds Try.pinned (OpenSpec.upto recChecksSpec)

/-- 'stilemanlaw25.StarveScripts', WHERE WHAT IT READS IS OF BULK AT MOST 1048576: true; the input reads as it did. -/
def starveScriptsUptoRow : OpenClaim := { program := "ytgbofijdjgpgeaa", sum := "969d0978f546278839c34712dd9b02431344270a072dbd8d39899078ef4f8f75", func := "stileman/stilemanlaw25.StarveScripts", spec := "starveScripts", apart := false, narrowed := true }
def StarveScriptsUptoSaid : Prop := starveScriptsUptoRow.holds Try.pinned (OpenSpec.upto starveScriptsSpec)

end Rows
end Go.Proofs.Ytgbofijdjgpgeaa
