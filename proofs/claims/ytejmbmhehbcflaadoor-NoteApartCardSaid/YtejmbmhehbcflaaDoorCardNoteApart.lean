/- The tied card of the law NoteApart: The law NoteApart returns true for every two notes: right notes have the same text just if they are the same. Conditions: the row's own (the listed tables are as the program's text lays them; the card ties them to it); the proof uses none of them. -/
import Derived.Test.YtejmbmhehbcflaaDoorRowNoteApart
import Derived.Test.YtejmbmhehbcflaaDoorCards
import Derived.Test.YtejmbmhehbcflaaDoorTie
import Derived.SevenTiedAt
namespace Go.Proofs.YtejmbmhehbcflaaDoor
open Go
theorem noteApart_holds : Rows.NoteApartCardSaid :=
  Claim7.holds_tied_plain_at .later [] [.data, .data, .data] true (true, "5cce427c5a7dcf603202dfad33299fcb80ae5d1c207ef0f52f76b12e5de6109d") true
    noteApart.over (fun _ h => by cases h) (by kernel_rfl) (fun _ h => by cases h) noteApart_row_tie rfl ⟨rfl, rfl⟩ (by kernel_rfl) rfl
    (fun f fn hf hfn => by
      obtain rfl : f = 4 := Option.some.inj ((show Tryd.prog.funcNamed "stileman/stilemanlaw05.NoteApart" = some 4 by kernel_rfl).symm.trans hf) |>.symm
      obtain rfl : fn = Tryd.f4 := (Option.some.inj (Tryd.func4.symm.trans hfn)).symm
      exact ⟨by kernel_rfl, fun j t ht => by
        rw [Tryd.params4] at ht
        have hm : t ∈ ([35, 35] : List TypeId) := by simpa using Array.mem_of_getElem? ht
        have hall : (([35, 35] : List TypeId).all fun u => !Tryd.prog.wantsStandIn u) = true := by kernel_rfl
        exact (show Tryd.prog.wantsStandIn t = false by simpa using List.all_eq_true.1 hall t hm)⟩)
    (by kernel_rfl)
#print axioms noteApart_holds
end Go.Proofs.YtejmbmhehbcflaaDoor
