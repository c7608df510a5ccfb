/- The tied card of the law AccReads: The law AccReads returns true for every text: it is that of an access, or of none, as the document says. Conditions: the own ones of the row (the listed variables are as the text of the program lays them; the card ties them to it). -/
import Derived.Test.YtejmbmhehbcflaaDoorRowAccReads
import Derived.Test.YtejmbmhehbcflaaDoorCards
import Derived.Test.YtejmbmhehbcflaaDoorTie
import Derived.SevenTiedAt
namespace Go.Proofs.YtejmbmhehbcflaaDoor
open Go
theorem accReads_holds : Rows.AccReadsCardSaid :=
  Claim7.holds_tied_plain_at .later [] [.data, .data, .data, .data, .sentinel, .sentinel, .pinned] true (true, "5cce427c5a7dcf603202dfad33299fcb80ae5d1c207ef0f52f76b12e5de6109d") true
    accReads.over (fun _ h => by cases h) (by kernel_rfl) (fun _ h => by cases h) accReads_row_tie rfl ⟨rfl, rfl⟩ (by kernel_rfl) rfl
    (fun f fn hf hfn => by
      obtain rfl : f = 11 := Option.some.inj ((show Tryd.prog.funcNamed "stileman/stilemanlaw04.AccReads" = some 11 by kernel_rfl).symm.trans hf) |>.symm
      obtain rfl : fn = Tryd.f11 := (Option.some.inj (Tryd.func11.symm.trans hfn)).symm
      exact ⟨by kernel_rfl, fun j t ht => by
        rw [Tryd.params11] at ht
        have hm : t ∈ ([9] : List TypeId) := by simpa using Array.mem_of_getElem? ht
        have hall : (([9] : List TypeId).all fun u => !Tryd.prog.wantsStandIn u) = true := by kernel_rfl
        exact (show Tryd.prog.wantsStandIn t = false by simpa using List.all_eq_true.1 hall t hm)⟩)
    (by kernel_rfl)
#print axioms accReads_holds
end Go.Proofs.YtejmbmhehbcflaaDoor
