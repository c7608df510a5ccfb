/- Of each of the eight operations exactly one holding lets it begin, and behind it something else may be begun, for every two bytes. -/
import Derived.Test.YtgbofijdjgpgeaaPSuiteOncex2
namespace Go.Proofs.Ytgbofijdjgpgeaa.Pure
open Go.RowKit Go.Proofs.Ytgbofijdjgpgeaa.PSuiteOnce Go.Proofs.YtgbofijdjgpgeaaW.PrintWords Go.Proofs.YtgbofijdjgpgeaaW.PrintLast

theorem bounds_u8 {a : Int} (h : (Lit.int .u8 a).wf = true) : 0 ≤ a ∧ a ≤ 255 := by
  have h' : (decide ((0 : Int) ≤ a) && decide (a ≤ (255 : Int))) = true := h
  simpa using h'

set_option maxRecDepth 100000 in
theorem all_cases : ((List.range 8).all fun o => (List.range 256).all fun x => decide (stilemanlaw17_SuiteOnce.l0 40 (x : Int) ((o : Int) + 1) 0 0 = some true)) = true := by decide +kernel

theorem SuiteOnce : stilemanlaw17_SuiteOnce.Pure := by
  intro a b ha hb
  refine ⟨40, ?_⟩
  unfold stilemanlaw17_SuiteOnce.f
  have ha' : 0 ≤ a ∧ a ≤ 255 := bounds_u8 ha
  have hb' : 0 ≤ b ∧ b ≤ 255 := bounds_u8 hb
  have h := all_cases
  rw [List.all_eq_true] at h
  have h1 := h (a.toNat % 8) (List.mem_range.2 (by omega))
  rw [List.all_eq_true] at h1
  have h2 := of_decide_eq_true (h1 b.toNat (List.mem_range.2 (by omega)))
  have e1 : wrap64 (1 + (Int.tmod (wrap64 a) 8)) = ((a.toNat % 8 : Nat) : Int) + 1 := by
    have x : wrap64 a = a := by unfold wrap64; omega
    rw [x, Int.tmod_eq_emod_of_nonneg ha'.1]
    unfold wrap64
    omega
  have e2 : ((b.toNat : Nat) : Int) = b := by omega
  rw [e1]
  rw [e2] at h2
  exact h2

end Go.Proofs.Ytgbofijdjgpgeaa.Pure
