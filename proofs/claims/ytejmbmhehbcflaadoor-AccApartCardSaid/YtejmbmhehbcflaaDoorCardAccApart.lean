/- The tied card of the law AccApart: The law AccApart returns true for every two accesses: right accesses have the same text just if they are the same. Conditions: the row's own (the listed tables are as the program's text lays them; the card ties them to it). -/
import Derived.Test.YtejmbmhehbcflaaDoorRowAccApart
import Derived.Test.YtejmbmhehbcflaaDoorCards
import Derived.Test.YtejmbmhehbcflaaDoorTie
import Derived.SevenTiedAt
namespace Go.Proofs.YtejmbmhehbcflaaDoor
open Go
theorem accApart_holds : Rows.AccApartCardSaid :=
  Claim7.holds_tied_plain_at .later [] [.data, .data, .data] true (true, "5cce427c5a7dcf603202dfad33299fcb80ae5d1c207ef0f52f76b12e5de6109d") true
    accApart.over (fun _ h => by cases h) (by kernel_rfl) (fun _ h => by cases h) accApart_row_tie rfl ⟨rfl, rfl⟩ (by kernel_rfl) rfl
    (fun f fn hf hfn => by
      obtain rfl : f = 6 := Option.some.inj ((show Tryd.prog.funcNamed "stileman/stilemanlaw04.AccApart" = some 6 by kernel_rfl).symm.trans hf) |>.symm
      obtain rfl : fn = Tryd.f6 := (Option.some.inj (Tryd.func6.symm.trans hfn)).symm
      exact ⟨by kernel_rfl, fun j t ht => by
        rw [Tryd.params6] at ht
        have hm : t ∈ ([48, 48] : List TypeId) := by simpa using Array.mem_of_getElem? ht
        have hall : (([48, 48] : List TypeId).all fun u => !Tryd.prog.wantsStandIn u) = true := by kernel_rfl
        exact (show Tryd.prog.wantsStandIn t = false by simpa using List.all_eq_true.1 hall t hm)⟩)
    (by kernel_rfl)
#print axioms accApart_holds
end Go.Proofs.YtejmbmhehbcflaaDoor
