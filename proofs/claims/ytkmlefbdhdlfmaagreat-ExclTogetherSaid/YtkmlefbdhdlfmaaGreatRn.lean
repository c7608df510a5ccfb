/- (*World).Run; the example of the world's laws. -/
import Derived.Test.YtkmlefbdhdlfmaaGreatSt
namespace Go.Proofs.YtkmlefbdhdlfmaaGreat.Wo
open Go.RowKit Go.Proofs.YtkmlefbdhdlfmaaGreatW.PrintWords Go.Proofs.YtkmlefbdhdlfmaaGreatW.PrintMore Go.Proofs.YtkmlefbdhdlfmaaGreatW.PrintLast
open Stile
set_option linter.unusedSimpArgs false
set_option linter.unusedVariables false
set_option maxRecDepth 100000
variable {w w1 w2 w0 V V1 : World} {a pm g t kf n b B p cap gc gt : Nat} {W : Stile.W} {l : List (Int × Int)} {ok : Nat → Prop}

theorem nk_K {x : Note} {cs : List Value} (h : nk.K w x cs) : cs = [.int .i64 x.task, .int .i64 x.what, .int .i64 x.op, .int .i64 x.arg] := by
  obtain ⟨_, _, rfl, rfl, ⟨_, _, rfl, rfl, ⟨_, _, rfl, rfl, rfl⟩⟩⟩ := h
  rfl
theorem at_nk {A : Option Addr} {xs : List Note} (h : nk.C w A n xs) (k : Nat) (hk : k < n) : ∃ ad, A = some ad ∧ w.cell? (ad.add (k * 4)) = some (.int .i64 (xs.getD k ⟨0, 0, 0, 0⟩).task) ∧ w.cell? ⟨(ad.add (k * 4)).block, (ad.add (k * 4)).off + 1, none⟩ = some (.int .i64 (xs.getD k ⟨0, 0, 0, 0⟩).what) ∧
    w.cell? ⟨(ad.add (k * 4)).block, (ad.add (k * 4)).off + 2, none⟩ = some (.int .i64 (xs.getD k ⟨0, 0, 0, 0⟩).op) ∧ w.cell? ⟨(ad.add (k * 4)).block, (ad.add (k * 4)).off + 3, none⟩ = some (.int .i64 (xs.getD k ⟨0, 0, 0, 0⟩).arg) := by
  obtain ⟨ad, c, e, _, hK, hc0⟩ := Kd.C_get h ⟨0, 0, 0, 0⟩ (k : Int) (by omega) (by omega)
  have hc : ∀ j u, c[j]? = some u → w.cell? (ad.add (k * 4 + j)) = some u := hc0
  obtain rfl := nk_K hK
  refine ⟨ad, e, hc 0 _ rfl, ?_, ?_, ?_⟩
  · rw [← add_field _ _ 1 (by omega)]
    exact hc 1 _ rfl
  · rw [← add_field _ _ 2 (by omega)]
    exact hc 2 _ rfl
  · rw [← add_field _ _ 3 (by omega)]
    exact hc 3 _ rfl
theorem Wd.blocks (h : Wd w a pm g t kf W) (ha : w1.heap[a]? = w.heap[a]?) (hp : w1.heap[pm]? = w.heap[pm]?) (hg : w1.heap[g]? = w.heap[g]?) (ht : w1.heap[t]? = w.heap[t]?) : Wd w1 a pm g t kf W := by
  obtain ⟨⟨cap, hh⟩, hm, htk, hf⟩ := h
  exact ⟨⟨cap, ha.trans hh⟩, hm.of_blocks hp hg, htk.of_block ht, hf⟩
theorem pick_few (h : Stile.Good W) (i op : Int) : (pick W i op).1.notes.length ≤ 12 := by
  unfold pick
  split
  · rename_i hi
    split
    · split
      · rename_i ho
        unfold begin_
        dsimp only
        split
        · exact Nat.succ_le_succ (step_few (begin_set h i op ho) i (by rw [taskAt_set i hi]; show op ≠ 0; omega))
        · show 2 ≤ 12
          decide
      · exact Nat.zero_le _
    · split
      · exact Nat.zero_le _
      · rename_i hop _
        exact Nat.le_trans (step_few h i hop) (by decide)
  · exact Nat.zero_le _
theorem field_exec {P : Program} {o : Oper} {a : Act} {t f : Nat} {x : Operand} {xv v : Value} {w : World} (ho : o.op = .field t x f) (hx : a.eval x = xv) (h : (Instr.field t xv f).run P w = .ok v w) : (execOp a.eval o).run P w = .ok (.value v) w := by
  unfold execOp
  simp [ho, hx, h]
theorem field_notes (b : Bool) (k c x y o : Int) (nv : Value) (w : World) (h1 : nv.oneCell' = true) : (Instr.field 41 (.agg #[.bool b, .int .i64 k, .int .i64 c, .int .u32 x, .int .u32 y, .int .u32 o, nv]) 2).run Tryz.prog w = .ok nv w := by
  unfold Instr.field
  simp [run_underlying Tryz.underlying41, asAgg, part]
theorem take_next {α : Type} {l : List α} {k : Nat} {x : α} (h : l[k]? = some x) : l.take (k + 1) = l.take k ++ [x] := by
  rw [List.take_add_one, h]
  rfl
end Go.Proofs.YtkmlefbdhdlfmaaGreat.Wo
