/- Words of the print, cut to what this claim needs. -/
import Derived.Test.YtkmlefbdhdlfmaaGreatWLast
import Derived.Test.YtkmlefbdhdlfmaaGreatWWords
namespace Go.Proofs.YtkmlefbdhdlfmaaGreatW.PrintLast
open Go.Proofs.YtkmlefbdhdlfmaaGreatW.PrintWords (Aside0)
section
variable {md : Region.Mode} {ops : Array Oper} {T : Bool × List (List Nat × List Nat)} {l l' li lj lk : Array Bool} {ds : List Nat} {i j k : Nat}
theorem gd (l : Array Bool) (j : Nat) (b : Bool) : l.getD j b = l.toList.getD j b := by simp [Array.getD_eq_getD_getElem?, List.getD_eq_getElem?_getD]
end
end Go.Proofs.YtkmlefbdhdlfmaaGreatW.PrintLast
