/- The tied card of the law PlaceNames: the law returns true for every number of tasks, kind and cell; its listed tables are tied to the program's text. No further conditions. -/
import Derived.Test.YtgbofijdjgpgeaaDoorRowPlaceNames
import Derived.Test.YtgbofijdjgpgeaaDoorCards
import Derived.Test.YtgbofijdjgpgeaaDoorTie
import Derived.SevenTiedAt
namespace Go.Proofs.YtgbofijdjgpgeaaDoor
open Go
theorem placeNames_holds : Rows.PlaceNamesCardSaid :=
  Claim7.holds_tied_plain_at .later [] [.data, .data, .data] true (true, "09af94a1d8df7bf0ee9f17002fccbe52cf40c29aa9bc9fbfe5a03483d63e66a7") false
    placeNames.over (fun _ h => by cases h) (by kernel_rfl) (fun _ h => by cases h) placeNames_row_tie rfl ⟨rfl, rfl⟩ (by kernel_rfl) rfl
    (fun f fn hf hfn => by
      obtain rfl : f = 3 := Option.some.inj ((show Tryd.prog.funcNamed "stileman/stilemanlaw03.PlaceNames" = some 3 by kernel_rfl).symm.trans hf) |>.symm
      obtain rfl : fn = Tryd.f3 := (Option.some.inj (Tryd.func3.symm.trans hfn)).symm
      exact ⟨by kernel_rfl, fun j t ht => by
        rw [Tryd.params3] at ht
        have hm : t ∈ [3, 3, 3] := by simpa using Array.mem_of_getElem? ht
        have hall : ([3, 3, 3].all fun u => !Tryd.prog.wantsStandIn u) = true := by kernel_rfl
        exact (show Tryd.prog.wantsStandIn t = false by simpa using List.all_eq_true.1 hall t hm)⟩)
    (by kernel_rfl)
#print axioms placeNames_holds
end Go.Proofs.YtgbofijdjgpgeaaDoor
