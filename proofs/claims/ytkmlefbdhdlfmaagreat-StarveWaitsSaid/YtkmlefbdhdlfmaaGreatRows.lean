/-
  No cell of these rows narrows 'for every input' (looked for: loops, veiled, ifaces, maps, wideKeys, modest, calm, conditions, laid).
  DERIVED. THE GIVEN ROWS OF THIS SEAT. 10 by the template 'for every input the law returns true; each argument reads behind the call as it read before'; 0 by the template 'total and deterministic' (their statements: YtkmlefbdhdlfmaaGreatTotals.lean).
  GIVEN WITH THE SEED: the statements are not yours to turn. If you find one false, say at which input.
  Laid BY PROGRAM, IN A SANDBOX (cutbox-rows.mjs): the forced cells as the released guide's own fill.sh prints them over the translation 6622fbd71d0c9438… (all of the seat's roots in one cut). By AI agents, Wed Nov 11 2026. No macro, syntax, notation, axiom, sorry.
-/
import Derived.Test.YtkmlefbdhdlfmaaGreatChecked
import GoSem.Claim
import GoSem.ClaimJoined
import GoSem.ClaimMapViews
import Derived.JoinedTies
import Derived.KernelRfl
namespace Go.Proofs.YtkmlefbdhdlfmaaGreat
/- THE CELL 'sum', in the pinned program and in every row, IS THE sha256 OF THE DUMP (.gsa) THAT YtkmlefbdhdlfmaaGreatProg.lean LOADS. Nothing in Lean hashes anything: it is a label: what it is worth is what the hold of that sum in a sandbox is worth. -/
noncomputable def Tryz.pinned : Pinned := { name := "ytkmlefbdhdlfmaagreat", sum := "6622fbd71d0c9438f6c0d936e085aa5aa3e0429501a9f1036ec785564b7eafd3", checked := Tryz.checked }
namespace Rows
def none {H : Type} : Left H := { results := [], args := [] }

/-- 'stilemanlaw18.WorldSkips': WHATEVER THE INPUT: true; the input reads as it did. -/
def worldSkipsSpec : ChangeSpec := { name := "worldSkips", fn := fun _ => fun
  | [d1, d2, d3, d4, d5] => { results := [.lit (.bool true)], args := [d1, d2, d3, d4, d5] }
  | _ => none }
def worldSkipsRow : OpenClaim := { program := "ytkmlefbdhdlfmaagreat", sum := "6622fbd71d0c9438f6c0d936e085aa5aa3e0429501a9f1036ec785564b7eafd3", func := "stileman/stilemanlaw18.WorldSkips", spec := "worldSkips", inPlace := ["slices.overlaps[stileman/api.Note]"], unfollowed := true, recurses := true, apart := false }
def WorldSkipsSaid : Prop := worldSkipsRow.holds Tryz.pinned (OpenSpec.ofChange worldSkipsSpec)

/-- ITS FALSE NEIGHBOUR: 'it returns false'. Refute it at one input. -/
def worldSkipsWrong : ChangeSpec := { name := "worldSkips", fn := fun _ => fun
  | [d1, d2, d3, d4, d5] => { results := [.lit (.bool false)], args := [d1, d2, d3, d4, d5] }
  | _ => none }
def WorldSkipsWrongFalsely : Prop := worldSkipsRow.holds Tryz.pinned (OpenSpec.ofChange worldSkipsWrong)

/-- 'stilemanlaw18.WorldAccess': WHATEVER THE INPUT: true; the input reads as it did. -/
def worldAccessSpec : ChangeSpec := { name := "worldAccess", fn := fun _ => fun
  | [d1, d2, d3, d4, d5] => { results := [.lit (.bool true)], args := [d1, d2, d3, d4, d5] }
  | _ => none }
def worldAccessRow : OpenClaim := { program := "ytkmlefbdhdlfmaagreat", sum := "6622fbd71d0c9438f6c0d936e085aa5aa3e0429501a9f1036ec785564b7eafd3", func := "stileman/stilemanlaw18.WorldAccess", spec := "worldAccess", inPlace := ["slices.overlaps[stileman/api.Note]"], unfollowed := true, recurses := true, apart := false }
def WorldAccessSaid : Prop := worldAccessRow.holds Tryz.pinned (OpenSpec.ofChange worldAccessSpec)

/-- ITS FALSE NEIGHBOUR: 'it returns false'. Refute it at one input. -/
def worldAccessWrong : ChangeSpec := { name := "worldAccess", fn := fun _ => fun
  | [d1, d2, d3, d4, d5] => { results := [.lit (.bool false)], args := [d1, d2, d3, d4, d5] }
  | _ => none }
def WorldAccessWrongFalsely : Prop := worldAccessRow.holds Tryz.pinned (OpenSpec.ofChange worldAccessWrong)

/-- 'stilemanlaw18.WorldRuns': WHATEVER THE INPUT: true; the input reads as it did. -/
def worldRunsSpec : ChangeSpec := { name := "worldRuns", fn := fun _ => fun
  | [d1, d2, d3, d4, d5] => { results := [.lit (.bool true)], args := [d1, d2, d3, d4, d5] }
  | _ => none }
def worldRunsRow : OpenClaim := { program := "ytkmlefbdhdlfmaagreat", sum := "6622fbd71d0c9438f6c0d936e085aa5aa3e0429501a9f1036ec785564b7eafd3", func := "stileman/stilemanlaw18.WorldRuns", spec := "worldRuns", inPlace := ["slices.overlaps[stileman/api.Note]"], unfollowed := true, recurses := true, apart := false }
def WorldRunsSaid : Prop := worldRunsRow.holds Tryz.pinned (OpenSpec.ofChange worldRunsSpec)

/-- ITS FALSE NEIGHBOUR: 'it returns false'. Refute it at one input. -/
def worldRunsWrong : ChangeSpec := { name := "worldRuns", fn := fun _ => fun
  | [d1, d2, d3, d4, d5] => { results := [.lit (.bool false)], args := [d1, d2, d3, d4, d5] }
  | _ => none }
def WorldRunsWrongFalsely : Prop := worldRunsRow.holds Tryz.pinned (OpenSpec.ofChange worldRunsWrong)

/-- 'stilemanlaw22.ExclTogether': WHATEVER THE INPUT: true; the input reads as it did. -/
def exclTogetherSpec : ChangeSpec := { name := "exclTogether", fn := fun _ => fun
  | [d1, d2, d3, d4] => { results := [.lit (.bool true)], args := [d1, d2, d3, d4] }
  | _ => none }
def exclTogetherRow : OpenClaim := { program := "ytkmlefbdhdlfmaagreat", sum := "6622fbd71d0c9438f6c0d936e085aa5aa3e0429501a9f1036ec785564b7eafd3", func := "stileman/stilemanlaw22.ExclTogether", spec := "exclTogether", inPlace := ["slices.overlaps[stileman/api.Note]"], unfollowed := true, recurses := true, apart := false }
def ExclTogetherSaid : Prop := exclTogetherRow.holds Tryz.pinned (OpenSpec.ofChange exclTogetherSpec)

/-- ITS FALSE NEIGHBOUR: 'it returns false'. Refute it at one input. -/
def exclTogetherWrong : ChangeSpec := { name := "exclTogether", fn := fun _ => fun
  | [d1, d2, d3, d4] => { results := [.lit (.bool false)], args := [d1, d2, d3, d4] }
  | _ => none }
def ExclTogetherWrongFalsely : Prop := exclTogetherRow.holds Tryz.pinned (OpenSpec.ofChange exclTogetherWrong)

/-- 'stilemanlaw22.ExclWorlds': WHATEVER THE INPUT: true; the input reads as it did. -/
def exclWorldsSpec : ChangeSpec := { name := "exclWorlds", fn := fun _ => fun
  | [d1, d2, d3, d4, d5] => { results := [.lit (.bool true)], args := [d1, d2, d3, d4, d5] }
  | _ => none }
def exclWorldsRow : OpenClaim := { program := "ytkmlefbdhdlfmaagreat", sum := "6622fbd71d0c9438f6c0d936e085aa5aa3e0429501a9f1036ec785564b7eafd3", func := "stileman/stilemanlaw22.ExclWorlds", spec := "exclWorlds", inPlace := ["slices.overlaps[stileman/api.Note]"], unfollowed := true, recurses := true, apart := false }
def ExclWorldsSaid : Prop := exclWorldsRow.holds Tryz.pinned (OpenSpec.ofChange exclWorldsSpec)

/-- ITS FALSE NEIGHBOUR: 'it returns false'. Refute it at one input. -/
def exclWorldsWrong : ChangeSpec := { name := "exclWorlds", fn := fun _ => fun
  | [d1, d2, d3, d4, d5] => { results := [.lit (.bool false)], args := [d1, d2, d3, d4, d5] }
  | _ => none }
def ExclWorldsWrongFalsely : Prop := exclWorldsRow.holds Tryz.pinned (OpenSpec.ofChange exclWorldsWrong)

/-- 'stilemanlaw23.OrderPhases': WHATEVER THE INPUT: true; the input reads as it did. -/
def orderPhasesSpec : ChangeSpec := { name := "orderPhases", fn := fun _ => fun
  | [d1, d2, d3, d4, d5] => { results := [.lit (.bool true)], args := [d1, d2, d3, d4, d5] }
  | _ => none }
def orderPhasesRow : OpenClaim := { program := "ytkmlefbdhdlfmaagreat", sum := "6622fbd71d0c9438f6c0d936e085aa5aa3e0429501a9f1036ec785564b7eafd3", func := "stileman/stilemanlaw23.OrderPhases", spec := "orderPhases", inPlace := ["slices.overlaps[stileman/api.Note]"], unfollowed := true, recurses := true, apart := false }
def OrderPhasesSaid : Prop := orderPhasesRow.holds Tryz.pinned (OpenSpec.ofChange orderPhasesSpec)

/-- ITS FALSE NEIGHBOUR: 'it returns false'. Refute it at one input. -/
def orderPhasesWrong : ChangeSpec := { name := "orderPhases", fn := fun _ => fun
  | [d1, d2, d3, d4, d5] => { results := [.lit (.bool false)], args := [d1, d2, d3, d4, d5] }
  | _ => none }
def OrderPhasesWrongFalsely : Prop := orderPhasesRow.holds Tryz.pinned (OpenSpec.ofChange orderPhasesWrong)

/-- 'stilemanlaw23.OrderFair': WHATEVER THE INPUT: true; the input reads as it did. -/
def orderFairSpec : ChangeSpec := { name := "orderFair", fn := fun _ => fun
  | [d1, d2, d3, d4, d5] => { results := [.lit (.bool true)], args := [d1, d2, d3, d4, d5] }
  | _ => none }
def orderFairRow : OpenClaim := { program := "ytkmlefbdhdlfmaagreat", sum := "6622fbd71d0c9438f6c0d936e085aa5aa3e0429501a9f1036ec785564b7eafd3", func := "stileman/stilemanlaw23.OrderFair", spec := "orderFair", inPlace := ["slices.overlaps[stileman/api.Note]"], unfollowed := true, recurses := true, apart := false }
def OrderFairSaid : Prop := orderFairRow.holds Tryz.pinned (OpenSpec.ofChange orderFairSpec)

/-- ITS FALSE NEIGHBOUR: 'it returns false'. Refute it at one input. -/
def orderFairWrong : ChangeSpec := { name := "orderFair", fn := fun _ => fun
  | [d1, d2, d3, d4, d5] => { results := [.lit (.bool false)], args := [d1, d2, d3, d4, d5] }
  | _ => none }
def OrderFairWrongFalsely : Prop := orderFairRow.holds Tryz.pinned (OpenSpec.ofChange orderFairWrong)

/-- 'stilemanlaw25.StarveFair': WHATEVER THE INPUT: true; the input reads as it did. -/
def starveFairSpec : ChangeSpec := { name := "starveFair", fn := fun _ => fun
  | [d1, d2, d3, d4] => { results := [.lit (.bool true)], args := [d1, d2, d3, d4] }
  | _ => none }
def starveFairRow : OpenClaim := { program := "ytkmlefbdhdlfmaagreat", sum := "6622fbd71d0c9438f6c0d936e085aa5aa3e0429501a9f1036ec785564b7eafd3", func := "stileman/stilemanlaw25.StarveFair", spec := "starveFair", inPlace := ["slices.overlaps[stileman/api.Note]"], unfollowed := true, recurses := true, apart := false }
def StarveFairSaid : Prop := starveFairRow.holds Tryz.pinned (OpenSpec.ofChange starveFairSpec)

/-- ITS FALSE NEIGHBOUR: 'it returns false'. Refute it at one input. -/
def starveFairWrong : ChangeSpec := { name := "starveFair", fn := fun _ => fun
  | [d1, d2, d3, d4] => { results := [.lit (.bool false)], args := [d1, d2, d3, d4] }
  | _ => none }
def StarveFairWrongFalsely : Prop := starveFairRow.holds Tryz.pinned (OpenSpec.ofChange starveFairWrong)

/-- 'stilemanlaw25.StarveWaits': WHATEVER THE INPUT: true; the input reads as it did. -/
def starveWaitsSpec : ChangeSpec := { name := "starveWaits", fn := fun _ => fun
  | [d1, d2, d3, d4] => { results := [.lit (.bool true)], args := [d1, d2, d3, d4] }
  | _ => none }
def starveWaitsRow : OpenClaim := { program := "ytkmlefbdhdlfmaagreat", sum := "6622fbd71d0c9438f6c0d936e085aa5aa3e0429501a9f1036ec785564b7eafd3", func := "stileman/stilemanlaw25.StarveWaits", spec := "starveWaits", inPlace := ["slices.overlaps[stileman/api.Note]"], unfollowed := true, recurses := true, apart := false }
def StarveWaitsSaid : Prop := starveWaitsRow.holds Tryz.pinned (OpenSpec.ofChange starveWaitsSpec)

/-- ITS FALSE NEIGHBOUR: 'it returns false'. Refute it at one input. -/
def starveWaitsWrong : ChangeSpec := { name := "starveWaits", fn := fun _ => fun
  | [d1, d2, d3, d4] => { results := [.lit (.bool false)], args := [d1, d2, d3, d4] }
  | _ => none }
def StarveWaitsWrongFalsely : Prop := starveWaitsRow.holds Tryz.pinned (OpenSpec.ofChange starveWaitsWrong)

/-- 'stilemanlaw24.BoundLives': WHATEVER THE INPUT: true; the input reads as it did. -/
def boundLivesSpec : ChangeSpec := { name := "boundLives", fn := fun _ => fun
  | [d1, d2, d3, d4, d5] => { results := [.lit (.bool true)], args := [d1, d2, d3, d4, d5] }
  | _ => none }
def boundLivesRow : OpenClaim := { program := "ytkmlefbdhdlfmaagreat", sum := "6622fbd71d0c9438f6c0d936e085aa5aa3e0429501a9f1036ec785564b7eafd3", func := "stileman/stilemanlaw24.BoundLives", spec := "boundLives", inPlace := ["slices.overlaps[stileman/api.Note]"], unfollowed := true, recurses := true, apart := false }
def BoundLivesSaid : Prop := boundLivesRow.holds Tryz.pinned (OpenSpec.ofChange boundLivesSpec)

/-- ITS FALSE NEIGHBOUR: 'it returns false'. Refute it at one input. -/
def boundLivesWrong : ChangeSpec := { name := "boundLives", fn := fun _ => fun
  | [d1, d2, d3, d4, d5] => { results := [.lit (.bool false)], args := [d1, d2, d3, d4, d5] }
  | _ => none }
def BoundLivesWrongFalsely : Prop := boundLivesRow.holds Tryz.pinned (OpenSpec.ofChange boundLivesWrong)

/- THE SECOND FORM. 'bulk': how many values and letters a reading holds, each counted each time it is reached (what is shared counts as often as it is met; a slice's spare places count too). A statement '..UptoSaid' is the law's where the arguments, and the package variables that the reading takes, are together of bulk at most 1048576: NARROWER than '..Said'. Prove '..Said' where nothing that the law and all that it calls make is longer than what came in: it says more and counts as full. Else prove '..UptoSaid'. A law counts once. -/
mutual
def uptoBulk {H : Type} : DataW H → Nat
  | .lit (.string bytes) => bytes.length + 1
  | .lit _ => 1
  | .nil => 1
  | .ptr d => uptoBulk d + 1
  | .slice elems spare => uptoBulkAll elems + uptoBulkAll spare + 1
  | .agg parts => uptoBulkAll parts + 1
  | .iface _ d => uptoBulk d + 1
  | .map entries => uptoBulkEntries entries + 1
  | .held _ => 1
def uptoBulkAll {H : Type} : List (DataW H) → Nat
  | [] => 0
  | d :: r => uptoBulk d + uptoBulkAll r
def uptoBulkEntries {H : Type} : List (Lit × DataW H) → Nat
  | [] => 0
  | x :: r => uptoBulkEntry x + uptoBulkEntries r
def uptoBulkEntry {H : Type} : Lit × DataW H → Nat
  | (.string bytes, d) => bytes.length + uptoBulk d + 1
  | (_, d) => uptoBulk d + 1
 end
def uptoSmall : (H : Type) → List (DataW H) → Bool := fun _ ds => decide (uptoBulkAll ds ≤ 1048576)
def OpenSpec.upto (s : _root_.Go.ChangeSpec) : _root_.Go.OpenSpec := { _root_.Go.OpenSpec.ofChange s with cond := some uptoSmall }

/-- 'stilemanlaw18.WorldSkips', WHERE WHAT IT READS IS OF BULK AT MOST 1048576: true; the input reads as it did. -/
def worldSkipsUptoRow : OpenClaim := { program := "ytkmlefbdhdlfmaagreat", sum := "6622fbd71d0c9438f6c0d936e085aa5aa3e0429501a9f1036ec785564b7eafd3", func := "stileman/stilemanlaw18.WorldSkips", spec := "worldSkips", inPlace := ["slices.overlaps[stileman/api.Note]"], unfollowed := true, recurses := true, apart := false, narrowed := true }
def WorldSkipsUptoSaid : Prop := worldSkipsUptoRow.holds Tryz.pinned (OpenSpec.upto worldSkipsSpec)

/-- 'stilemanlaw18.WorldAccess', WHERE WHAT IT READS IS OF BULK AT MOST 1048576: true; the input reads as it did. -/
def worldAccessUptoRow : OpenClaim := { program := "ytkmlefbdhdlfmaagreat", sum := "6622fbd71d0c9438f6c0d936e085aa5aa3e0429501a9f1036ec785564b7eafd3", func := "stileman/stilemanlaw18.WorldAccess", spec := "worldAccess", inPlace := ["slices.overlaps[stileman/api.Note]"], unfollowed := true, recurses := true, apart := false, narrowed := true }
def WorldAccessUptoSaid : Prop := worldAccessUptoRow.holds Tryz.pinned (OpenSpec.upto worldAccessSpec)

/-- 'stilemanlaw18.WorldRuns', WHERE WHAT IT READS IS OF BULK AT MOST 1048576: true; the input reads as it did. -/
def worldRunsUptoRow : OpenClaim := { program := "ytkmlefbdhdlfmaagreat", sum := "6622fbd71d0c9438f6c0d936e085aa5aa3e0429501a9f1036ec785564b7eafd3", func := "stileman/stilemanlaw18.WorldRuns", spec := "worldRuns", inPlace := ["slices.overlaps[stileman/api.Note]"], unfollowed := true, recurses := true, apart := false, narrowed := true }
def WorldRunsUptoSaid : Prop := worldRunsUptoRow.holds Tryz.pinned (OpenSpec.upto worldRunsSpec)

/-- 'stilemanlaw22.ExclTogether', WHERE WHAT IT READS IS OF BULK AT MOST 1048576: true; the input reads as it did. -/
def exclTogetherUptoRow : OpenClaim := { program := "ytkmlefbdhdlfmaagreat", sum := "6622fbd71d0c9438f6c0d936e085aa5aa3e0429501a9f1036ec785564b7eafd3", func := "stileman/stilemanlaw22.ExclTogether", spec := "exclTogether", inPlace := ["slices.overlaps[stileman/api.Note]"], unfollowed := true, recurses := true, apart := false, narrowed := true }
def ExclTogetherUptoSaid : Prop := exclTogetherUptoRow.holds Tryz.pinned (OpenSpec.upto exclTogetherSpec)

/-- 'stilemanlaw22.ExclWorlds', WHERE WHAT IT READS IS OF BULK AT MOST 1048576: true; the input reads as it did. -/
def exclWorldsUptoRow : OpenClaim := { program := "ytkmlefbdhdlfmaagreat", sum := "6622fbd71d0c9438f6c0d936e085aa5aa3e0429501a9f1036ec785564b7eafd3", func := "stileman/stilemanlaw22.ExclWorlds", spec := "exclWorlds", inPlace := ["slices.overlaps[stileman/api.Note]"], unfollowed := true, recurses := true, apart := false, narrowed := true }
def ExclWorldsUptoSaid : Prop := exclWorldsUptoRow.holds Tryz.pinned (OpenSpec.upto exclWorldsSpec)

/-- 'stilemanlaw23.OrderPhases', WHERE WHAT IT READS IS OF BULK AT MOST 1048576: true; the input reads as it did. -/
def orderPhasesUptoRow : OpenClaim := { program := "ytkmlefbdhdlfmaagreat", sum := "6622fbd71d0c9438f6c0d936e085aa5aa3e0429501a9f1036ec785564b7eafd3", func := "stileman/stilemanlaw23.OrderPhases", spec := "orderPhases", inPlace := ["slices.overlaps[stileman/api.Note]"], unfollowed := true, recurses := true, apart := false, narrowed := true }
def OrderPhasesUptoSaid : Prop := orderPhasesUptoRow.holds Tryz.pinned (OpenSpec.upto orderPhasesSpec)

/-- 'stilemanlaw23.OrderFair', WHERE WHAT IT READS IS OF BULK AT MOST 1048576: true; the input reads as it did. -/
def orderFairUptoRow : OpenClaim := { program := "ytkmlefbdhdlfmaagreat", sum := "6622fbd71d0c9438f6c0d936e085aa5aa3e0429501a9f1036ec785564b7eafd3", func := "stileman/stilemanlaw23.OrderFair", spec := "orderFair", inPlace := ["slices.overlaps[stileman/api.Note]"], unfollowed := true, recurses := true, apart := false, narrowed := true }
def OrderFairUptoSaid : Prop := orderFairUptoRow.holds Tryz.pinned (OpenSpec.upto orderFairSpec)

/-- 'stilemanlaw25.StarveFair', WHERE WHAT IT READS IS OF BULK AT MOST 1048576: true; the input reads as it did. -/
def starveFairUptoRow : OpenClaim := { program := "ytkmlefbdhdlfmaagreat", sum := "6622fbd71d0c9438f6c0d936e085aa5aa3e0429501a9f1036ec785564b7eafd3", func := "stileman/stilemanlaw25.StarveFair", spec := "starveFair", inPlace := ["slices.overlaps[stileman/api.Note]"], unfollowed := true, recurses := true, apart := false, narrowed := true }
def StarveFairUptoSaid : Prop := starveFairUptoRow.holds Tryz.pinned (OpenSpec.upto starveFairSpec)

/-- 'stilemanlaw25.StarveWaits', WHERE WHAT IT READS IS OF BULK AT MOST 1048576: true; the input reads as it did. -/
def starveWaitsUptoRow : OpenClaim := { program := "ytkmlefbdhdlfmaagreat", sum := "6622fbd71d0c9438f6c0d936e085aa5aa3e0429501a9f1036ec785564b7eafd3", func := "stileman/stilemanlaw25.StarveWaits", spec := "starveWaits", inPlace := ["slices.overlaps[stileman/api.Note]"], unfollowed := true, recurses := true, apart := false, narrowed := true }
def StarveWaitsUptoSaid : Prop := starveWaitsUptoRow.holds Tryz.pinned (OpenSpec.upto starveWaitsSpec)

/-- 'stilemanlaw24.BoundLives', WHERE WHAT IT READS IS OF BULK AT MOST 1048576: true; the input reads as it did. -/
def boundLivesUptoRow : OpenClaim := { program := "ytkmlefbdhdlfmaagreat", sum := "6622fbd71d0c9438f6c0d936e085aa5aa3e0429501a9f1036ec785564b7eafd3", func := "stileman/stilemanlaw24.BoundLives", spec := "boundLives", inPlace := ["slices.overlaps[stileman/api.Note]"], unfollowed := true, recurses := true, apart := false, narrowed := true }
def BoundLivesUptoSaid : Prop := boundLivesUptoRow.holds Tryz.pinned (OpenSpec.upto boundLivesSpec)

end Rows
end Go.Proofs.YtkmlefbdhdlfmaaGreat
