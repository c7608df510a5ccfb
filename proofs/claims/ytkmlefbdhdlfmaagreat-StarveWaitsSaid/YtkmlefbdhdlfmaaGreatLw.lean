/- Equality of structs and of rows; a world that isn't made. -/
import Derived.Test.YtkmlefbdhdlfmaaGreatRn
import Derived.Test.YtkmlefbdhdlfmaaGreatQ2
namespace Go.Proofs.YtkmlefbdhdlfmaaGreat.Wo
open Go.RowKit Go.Proofs.YtkmlefbdhdlfmaaGreatW.PrintWords Go.Proofs.YtkmlefbdhdlfmaaGreatW.PrintMore Go.Proofs.YtkmlefbdhdlfmaaGreatW.PrintLast
open Stile
set_option linter.unusedSimpArgs false
set_option linter.unusedVariables false
set_option maxRecDepth 100000
variable {w w1 w2 w0 V V1 : World} {a pm g t kf n b B p cap gc gt : Nat} {W : Stile.W} {l : List (Int × Int)} {ok : Nat → Prop}
theorem w32_wf {x : Int} (h : (Lit.int .u32 x).wf = true) : W32 x := by
 have h1 : (decide (IntKind.u32.min ≤ x) && decide (x ≤ IntKind.u32.max)) = true := h
 rw [Bool.and_eq_true, decide_eq_true_eq, decide_eq_true_eq] at h1
 have e0 : IntKind.u32.min = 0 := by decide
 have e1 : IntKind.u32.max = 4294967295 := by decide
 unfold W32
 omega
end Go.Proofs.YtkmlefbdhdlfmaaGreat.Wo
