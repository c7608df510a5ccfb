/- (*World).Run; the example of the world's laws. -/
import Derived.Test.YtkmlefbdhdlfmaaGreatSt
namespace Go.Proofs.YtkmlefbdhdlfmaaGreat.Wo
open Go.RowKit Go.Proofs.YtkmlefbdhdlfmaaGreatW.PrintWords Go.Proofs.YtkmlefbdhdlfmaaGreatW.PrintMore Go.Proofs.YtkmlefbdhdlfmaaGreatW.PrintLast
open Stile
set_option linter.unusedSimpArgs false
set_option linter.unusedVariables false
set_option maxRecDepth 100000
variable {w w1 w2 w0 V V1 : World} {a pm g t kf n b B p cap gc gt : Nat} {W : Stile.W} {l : List (Int × Int)} {ok : Nat → Prop}
theorem nk_K {x : Note} {cs : List Value} (h : nk.K w x cs) : cs = [.int .i64 x.task, .int .i64 x.what, .int .i64 x.op, .int .i64 x.arg] := by
 obtain ⟨_, _, rfl, rfl, ⟨_, _, rfl, rfl, ⟨_, _, rfl, rfl, rfl⟩⟩⟩ := h
 rfl
theorem at_nk {A : Option Addr} {xs : List Note} (h : nk.C w A n xs) (k : Nat) (hk : k < n) : ∃ ad, A = some ad ∧ w.cell? (ad.add (k * 4)) = some (.int .i64 (xs.getD k ⟨0, 0, 0, 0⟩).task) ∧ w.cell? ⟨(ad.add (k * 4)).block, (ad.add (k * 4)).off + 1, none⟩ = some (.int .i64 (xs.getD k ⟨0, 0, 0, 0⟩).what) ∧
  w.cell? ⟨(ad.add (k * 4)).block, (ad.add (k * 4)).off + 2, none⟩ = some (.int .i64 (xs.getD k ⟨0, 0, 0, 0⟩).op) ∧ w.cell? ⟨(ad.add (k * 4)).block, (ad.add (k * 4)).off + 3, none⟩ = some (.int .i64 (xs.getD k ⟨0, 0, 0, 0⟩).arg) := by
 obtain ⟨ad, c, e, _, hK, hc0⟩ := Kd.C_get h ⟨0, 0, 0, 0⟩ (k : Int) (by omega) (by omega)
 have hc : ∀ j u, c[j]? = some u → w.cell? (ad.add (k * 4 + j)) = some u := hc0
 obtain rfl := nk_K hK
 refine ⟨ad, e, hc 0 _ rfl, ?_, ?_, ?_⟩
 ·rw [← add_field _ _ 1 (by omega)]
  exact hc 1 _ rfl
 ·rw [← add_field _ _ 2 (by omega)]
  exact hc 2 _ rfl
 ·rw [← add_field _ _ 3 (by omega)]
  exact hc 3 _ rfl
end Go.Proofs.YtkmlefbdhdlfmaaGreat.Wo
