/- The tied card of the law NoteOf: The law NoteOf returns true for every notes, task and whats: those of a task, of some whats, are what the document says, in their order; rows are the texts. Conditions: the row's own (the listed tables are as the program's text lays them; the card ties them to it). -/
import Derived.Test.YtejmbmhehbcflaaDoorRowNoteOf
import Derived.Test.YtejmbmhehbcflaaDoorCards
import Derived.Test.YtejmbmhehbcflaaDoorTie
import Derived.SevenTiedAt
namespace Go.Proofs.YtejmbmhehbcflaaDoor
open Go
theorem noteOf_holds : Rows.NoteOfCardSaid :=
  Claim7.holds_tied_plain_at .later [] [.data, .data, .data] true (true, "5cce427c5a7dcf603202dfad33299fcb80ae5d1c207ef0f52f76b12e5de6109d") true
    noteOf.over (fun _ h => by cases h) (by kernel_rfl) (fun _ h => by cases h) noteOf_row_tie rfl ⟨rfl, rfl⟩ (by kernel_rfl) rfl
    (fun f fn hf hfn => by
      obtain rfl : f = 5 := Option.some.inj ((show Tryd.prog.funcNamed "stileman/stilemanlaw05.NoteOf" = some 5 by kernel_rfl).symm.trans hf) |>.symm
      obtain rfl : fn = Tryd.f5 := (Option.some.inj (Tryd.func5.symm.trans hfn)).symm
      exact ⟨by kernel_rfl, fun j t ht => by
        rw [Tryd.params5] at ht
        have hm : t ∈ ([39, 3, 29] : List TypeId) := by simpa using Array.mem_of_getElem? ht
        have hall : (([39, 3, 29] : List TypeId).all fun u => !Tryd.prog.wantsStandIn u) = true := by kernel_rfl
        exact (show Tryd.prog.wantsStandIn t = false by simpa using List.all_eq_true.1 hall t hm)⟩)
    (by kernel_rfl)
#print axioms noteOf_holds
end Go.Proofs.YtejmbmhehbcflaaDoor
