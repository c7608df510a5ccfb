/- What the printed contracts declare first (print.sh), gathered. -/
import Derived.Test.YtejmbmhehbcflaaGreatProg
import Derived.Below
import Derived.Deep.Draws
import Derived.Deep.AppendLies
import Derived.Maps.AppendAt
import Derived.OwnWalk
import Derived.Laws.BytesArg
import Derived.Laws.MakeOwn
import Derived.Laws.OwnMore
import Derived.Deep.OwnRows
import Derived.Tactics
import Derived.Lib.ConvBytes
import Derived.Laws.Slices
import Derived.WalkKit
import Derived.KernelRfl
import Derived.RowKit3
import Derived.Deep.LoopGhost
import Derived.Deep.QuietTactic
import Derived.BigQuiet
import Derived.WideLaws
import Derived.Deep.DeepCutAuto
import Derived.Deep.CutBlock
import Derived.Deep.RegionHeld3
import Derived.Laws.Rows
import Derived.Lib.AppendStr
import Derived.ArgAppend
import Derived.Laws.IdiomCopy
import Derived.OrdersHeld
import Derived.Laws.BitsLemmas
import Derived.RowKit
import Derived.Test.YtejmbmhehbcflaaGreatWWords
import Derived.Test.YtejmbmhehbcflaaGreatWLast
import Derived.Test.YtejmbmhehbcflaaGreatWTab
import Derived.Test.YtejmbmhehbcflaaGreatWFour
import Derived.Test.YtejmbmhehbcflaaGreatWQPut
import Derived.Test.YtejmbmhehbcflaaGreatWApart
import Derived.Test.YtejmbmhehbcflaaGreatWArr
import Derived.Test.YtejmbmhehbcflaaGreatWZeros
import Derived.Test.YtejmbmhehbcflaaGreatWFoot
import Derived.Test.YtejmbmhehbcflaaGreatWKept
import Derived.Test.YtejmbmhehbcflaaGreatWShare
import Derived.Test.YtejmbmhehbcflaaGreatWN
import Derived.Test.YtejmbmhehbcflaaGreatWFootNe
import Derived.Test.YtejmbmhehbcflaaGreatWAt
import Derived.Test.YtejmbmhehbcflaaGreatWEqStruct
import Derived.Test.YtejmbmhehbcflaaGreatWRepsOne
import Derived.Test.YtejmbmhehbcflaaGreatWInv
import Derived.Test.YtejmbmhehbcflaaGreatWInvWords
import Derived.Test.YtejmbmhehbcflaaGreatWGuard
import Derived.Test.YtejmbmhehbcflaaGreatWNEv
import Derived.Test.YtejmbmhehbcflaaGreatWMore
namespace Go.Proofs.YtejmbmhehbcflaaGreat.Pr
open Go.RowKit Go.Proofs.YtejmbmhehbcflaaGreatW.PrintWords Go.Proofs.YtejmbmhehbcflaaGreatW.PrintLast Go.Proofs.YtejmbmhehbcflaaGreatW.PrintMore
attribute [local go_sem] max2_int min2_int max_two min_two max_three min_three max_four min_four   -- for this text's walks alone
set_option linter.unusedVariables false
set_option linter.unusedSimpArgs false

def errW : Option Int → Value
  | none => .nilIface
  | some c => .iface 0 (.int .i64 c)
theorem errW_none : errW none = .nilIface := rfl
theorem errW_some (c : Int) : errW (some c) = .iface 0 (.int .i64 c) := rfl

theorem info9 : (Tryz.prog.info? 9).map (fun i => (i.zero, i.size, i.bytes)) = some (some (.string ⟨#[]⟩), 1, 16) := by kernel_rfl
-- the values' own types

end Go.Proofs.YtejmbmhehbcflaaGreat.Pr
