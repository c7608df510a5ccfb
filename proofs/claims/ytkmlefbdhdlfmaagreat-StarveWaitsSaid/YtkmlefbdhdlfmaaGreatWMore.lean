/- Words of the print, cut to what this claim needs. -/
import Derived.Test.YtkmlefbdhdlfmaaGreatWWords
import Derived.Test.YtkmlefbdhdlfmaaGreatWLast
import Derived.Test.YtkmlefbdhdlfmaaGreatWApart
import Derived.Test.YtkmlefbdhdlfmaaGreatWFoot
import Derived.Test.YtkmlefbdhdlfmaaGreatWKept
import Derived.Test.YtkmlefbdhdlfmaaGreatWN
namespace Go.Proofs.YtkmlefbdhdlfmaaGreatW.PrintMore
open Go.RowKit Go.Proofs.YtkmlefbdhdlfmaaGreatW.PrintWords
namespace Kd
open Go.Proofs.YtkmlefbdhdlfmaaGreatW.PrintWords.Kd
end Kd
namespace Kd
open Go.Proofs.YtkmlefbdhdlfmaaGreatW.PrintWords.Kd
end Kd
end Go.Proofs.YtkmlefbdhdlfmaaGreatW.PrintMore
namespace Go.Proofs.YtkmlefbdhdlfmaaGreatW.PrintWords
open Go.RowKit
section
variable {P : Program} {ops : Array Oper} {rest : List Oper} {o : Oper} {a : Act} {Q : Exit → Act → World → Prop} {W : World}
theorem gate_callee {f : FuncId} {as : Array Operand} {ts : Array TypeId} (_ho : o.op = .call { callee := .value (.func f), args := as, argTypes := ts }) (h : wpList P ops Q (o :: rest) a W) : wpList P ops Q (o :: rest) a W := h
theorem gate_builtin {b : Builtin} {xs : Array Operand} {ts : Array TypeId} (_ho : o.op = .call { callee := .builtin b, args := xs, argTypes := ts }) (h : wpList P ops Q (o :: rest) a W) : wpList P ops Q (o :: rest) a W := h
end
theorem drewN_self (w : World) (n : Nat) : w.drewN n = w.drewN n := rfl
namespace Kd
end Kd
end Go.Proofs.YtkmlefbdhdlfmaaGreatW.PrintWords
namespace Go.Proofs.YtkmlefbdhdlfmaaGreatW.PrintWords
open Go.RowKit
namespace Kd
def V {α : Type} (d : Kd α) (_e : Nat) (W : World) (_base : Nat) (ok : Nat → Prop) (v : Value) (xs : List α) : Prop := ∃ A c, v = .slice A xs.length c ∧ xs.length ≤ c ∧ F d W ok A xs.length xs
end Kd
end Go.Proofs.YtkmlefbdhdlfmaaGreatW.PrintWords
