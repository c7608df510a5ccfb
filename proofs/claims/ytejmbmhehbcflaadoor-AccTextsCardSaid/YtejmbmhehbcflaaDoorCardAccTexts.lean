/- The tied card of the law AccTexts: The law AccTexts returns true for every access: it is right, and has the text, that the document says; a right one is read from it again. Conditions: the own ones of the row (the listed variables are as the text of the program lays them; the card ties them to it). -/
import Derived.Test.YtejmbmhehbcflaaDoorRowAccTexts
import Derived.Test.YtejmbmhehbcflaaDoorCards
import Derived.Test.YtejmbmhehbcflaaDoorTie
import Derived.SevenTiedAt
namespace Go.Proofs.YtejmbmhehbcflaaDoor
open Go
theorem accTexts_holds : Rows.AccTextsCardSaid :=
  Claim7.holds_tied_plain_at .later [] [.data, .data, .data, .data, .sentinel, .sentinel, .pinned] true (true, "5cce427c5a7dcf603202dfad33299fcb80ae5d1c207ef0f52f76b12e5de6109d") true
    accTexts.over (fun _ h => by cases h) (by kernel_rfl) (fun _ h => by cases h) accTexts_row_tie rfl ⟨rfl, rfl⟩ (by kernel_rfl) rfl
    (fun f fn hf hfn => by
      obtain rfl : f = 10 := Option.some.inj ((show Tryd.prog.funcNamed "stileman/stilemanlaw04.AccTexts" = some 10 by kernel_rfl).symm.trans hf) |>.symm
      obtain rfl : fn = Tryd.f10 := (Option.some.inj (Tryd.func10.symm.trans hfn)).symm
      exact ⟨by kernel_rfl, fun j t ht => by
        rw [Tryd.params10] at ht
        have hm : t ∈ ([48] : List TypeId) := by simpa using Array.mem_of_getElem? ht
        have hall : (([48] : List TypeId).all fun u => !Tryd.prog.wantsStandIn u) = true := by kernel_rfl
        exact (show Tryd.prog.wantsStandIn t = false by simpa using List.all_eq_true.1 hall t hm)⟩)
    (by kernel_rfl)
#print axioms accTexts_holds
end Go.Proofs.YtejmbmhehbcflaaDoor
