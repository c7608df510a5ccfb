/- The reference's text of a note, as the printed contracts ask for it. -/
import Derived.Test.YtejmbmhehbcflaaDoorRTx
namespace Go.Proofs.YtejmbmhehbcflaaDoor.Pr
open Go.RowKit Go.Proofs.YtejmbmhehbcflaaDoorW.PrintWords Go.Proofs.YtejmbmhehbcflaaDoorW.PrintMore Go.Proofs.YtejmbmhehbcflaaDoorW.PrintLast

def stilemanref05_Text.f (_ : Nat) (a b c d : Int) : Option ByteArray := some (Note.textB a b c d)
theorem stilemanref05_Text.mono : ∀ a0 a1 a2 a3 k, LeO (stilemanref05_Text.f k a0 a1 a2 a3) (stilemanref05_Text.f (k + 1) a0 a1 a2 a3) := fun _ _ _ _ _ => LeO.refl _
theorem stilemanref05_Text.calls (k : Nat) (a0_0 : Int) (a0_1 : Int) (a0_2 : Int) (a0_3 : Int) (r : ByteArray) (w : World) (h : stilemanref05_Text.f k a0_0 a0_1 a0_2 a0_3 = some r) :
    Calls Tryd.prog 28 #[.agg #[.int .i64 a0_0, .int .i64 a0_1, .int .i64 a0_2, .int .i64 a0_3]] w fun e w' => e = .returned (.string r) ∧ Below w.heap.size w w' := by
  obtain rfl := Option.some.inj h
  exact Note.rtext_walk a0_0 a0_1 a0_2 a0_3 w

end Go.Proofs.YtejmbmhehbcflaaDoor.Pr
