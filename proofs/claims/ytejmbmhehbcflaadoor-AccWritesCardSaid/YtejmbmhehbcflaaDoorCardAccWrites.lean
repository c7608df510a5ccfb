/- The tied card of the law AccWrites: The law AccWrites returns true for every access: whether it changes a word is just what is seen when it is done on a cell that has what was there. Conditions: the row's own (the listed tables are as the program's text lays them; the card ties them to it). -/
import Derived.Test.YtejmbmhehbcflaaDoorRowAccWrites
import Derived.Test.YtejmbmhehbcflaaDoorCards
import Derived.Test.YtejmbmhehbcflaaDoorTie
import Derived.SevenTiedAt
namespace Go.Proofs.YtejmbmhehbcflaaDoor
open Go
theorem accWrites_holds : Rows.AccWritesCardSaid :=
  Claim7.holds_tied_plain_at .later [] [.data, .data, .data] true (true, "5cce427c5a7dcf603202dfad33299fcb80ae5d1c207ef0f52f76b12e5de6109d") true
    accWrites.over (fun _ h => by cases h) (by kernel_rfl) (fun _ h => by cases h) accWrites_row_tie rfl ⟨rfl, rfl⟩ (by kernel_rfl) rfl
    (fun f fn hf hfn => by
      obtain rfl : f = 7 := Option.some.inj ((show Tryd.prog.funcNamed "stileman/stilemanlaw04.AccWrites" = some 7 by kernel_rfl).symm.trans hf) |>.symm
      obtain rfl : fn = Tryd.f7 := (Option.some.inj (Tryd.func7.symm.trans hfn)).symm
      exact ⟨by kernel_rfl, fun j t ht => by
        rw [Tryd.params7] at ht
        have hm : t ∈ ([48] : List TypeId) := by simpa using Array.mem_of_getElem? ht
        have hall : (([48] : List TypeId).all fun u => !Tryd.prog.wantsStandIn u) = true := by kernel_rfl
        exact (show Tryd.prog.wantsStandIn t = false by simpa using List.all_eq_true.1 hall t hm)⟩)
    (by kernel_rfl)
#print axioms accWrites_holds
end Go.Proofs.YtejmbmhehbcflaaDoor
