/- (*World).Run; the example of the world's laws. -/
import Derived.Test.YtkmlefbdhdlfmaaGreatSt
namespace Go.Proofs.YtkmlefbdhdlfmaaGreat.Wo
open Go.RowKit Go.Proofs.YtkmlefbdhdlfmaaGreatW.PrintWords Go.Proofs.YtkmlefbdhdlfmaaGreatW.PrintMore Go.Proofs.YtkmlefbdhdlfmaaGreatW.PrintLast
open Stile
set_option linter.unusedSimpArgs false
set_option linter.unusedVariables false
set_option maxRecDepth 100000
variable {w w1 w2 w0 V V1 : World} {a pm g t kf n b B p cap gc gt : Nat} {W : Stile.W} {l : List (Int × Int)} {ok : Nat → Prop}

abbrev pk : Kd (Int × Int) := Kd.pair (Kd.int .i64) (Kd.int .i64)
theorem pk_K {x : Int × Int} {cs : List Value} (h : pk.K w x cs) : cs = [.int .i64 x.1, .int .i64 x.2] := by
  obtain ⟨_, _, rfl, rfl, rfl⟩ := h
  rfl
theorem pk_M (x : Int × Int) : pk.M w B ok x [.int .i64 x.1, .int .i64 x.2] := ⟨_, _, rfl, rfl, rfl⟩
theorem nk_K {x : Note} {cs : List Value} (h : nk.K w x cs) : cs = [.int .i64 x.task, .int .i64 x.what, .int .i64 x.op, .int .i64 x.arg] := by
  obtain ⟨_, _, rfl, rfl, ⟨_, _, rfl, rfl, ⟨_, _, rfl, rfl, rfl⟩⟩⟩ := h
  rfl
theorem at_pk {A : Option Addr} {xs : List (Int × Int)} (h : pk.C w A n xs) (k : Nat) (hk : k < n) : ∃ ad x, A = some ad ∧ xs[k]? = some x ∧ w.cell? (ad.add (k * 2)) = some (.int .i64 x.1) ∧ w.cell? ⟨(ad.add (k * 2)).block, (ad.add (k * 2)).off + 1, none⟩ = some (.int .i64 x.2) := by
  have hn := h.1
  obtain ⟨ad, c, e, _, hK, hc0⟩ := Kd.C_get h (0, 0) (k : Int) (by omega) (by omega)
  have hc : ∀ j u, c[j]? = some u → w.cell? (ad.add (k * 2 + j)) = some u := hc0
  obtain rfl := pk_K hK
  have hx : xs[k]? = some (xs.getD (k : Int).toNat (0, 0)) := by
    rw [Int.toNat_natCast, List.getD_eq_getElem?_getD, List.getElem?_eq_getElem (by omega)]
    rfl
  refine ⟨ad, _, e, hx, hc 0 _ rfl, ?_⟩
  rw [← add_field _ _ 1 (by omega)]
  exact hc 1 _ rfl
theorem at_nk {A : Option Addr} {xs : List Note} (h : nk.C w A n xs) (k : Nat) (hk : k < n) : ∃ ad, A = some ad ∧ w.cell? (ad.add (k * 4)) = some (.int .i64 (xs.getD k ⟨0, 0, 0, 0⟩).task) ∧ w.cell? ⟨(ad.add (k * 4)).block, (ad.add (k * 4)).off + 1, none⟩ = some (.int .i64 (xs.getD k ⟨0, 0, 0, 0⟩).what) ∧
    w.cell? ⟨(ad.add (k * 4)).block, (ad.add (k * 4)).off + 2, none⟩ = some (.int .i64 (xs.getD k ⟨0, 0, 0, 0⟩).op) ∧ w.cell? ⟨(ad.add (k * 4)).block, (ad.add (k * 4)).off + 3, none⟩ = some (.int .i64 (xs.getD k ⟨0, 0, 0, 0⟩).arg) := by
  obtain ⟨ad, c, e, _, hK, hc0⟩ := Kd.C_get h ⟨0, 0, 0, 0⟩ (k : Int) (by omega) (by omega)
  have hc : ∀ j u, c[j]? = some u → w.cell? (ad.add (k * 4 + j)) = some u := hc0
  obtain rfl := nk_K hK
  refine ⟨ad, e, hc 0 _ rfl, ?_, ?_, ?_⟩
  · rw [← add_field _ _ 1 (by omega)]
    exact hc 1 _ rfl
  · rw [← add_field _ _ 2 (by omega)]
    exact hc 2 _ rfl
  · rw [← add_field _ _ 3 (by omega)]
    exact hc 3 _ rfl
theorem Wd.blocks (h : Wd w a pm g t kf W) (ha : w1.heap[a]? = w.heap[a]?) (hp : w1.heap[pm]? = w.heap[pm]?) (hg : w1.heap[g]? = w.heap[g]?) (ht : w1.heap[t]? = w.heap[t]?) : Wd w1 a pm g t kf W := by
  obtain ⟨⟨cap, hh⟩, hm, htk, hf⟩ := h
  exact ⟨⟨cap, ha.trans hh⟩, hm.of_blocks hp hg, htk.of_block ht, hf⟩
theorem runPicks_snoc (x : Int × Int) : ∀ (l : List (Int × Int)) (W : Stile.W), runPicks W (l ++ [x]) = ((runPicks W l).1 ++ (pick (runPicks W l).2 x.1 x.2).1.notes, (pick (runPicks W l).2 x.1 x.2).2)
  | [], W => by simp [runPicks]
  | y :: l, W => by simp [runPicks, runPicks_snoc x l]
theorem runPicks_good : ∀ (l : List (Int × Int)) {W : Stile.W}, Stile.Good W → Stile.Good (runPicks W l).2
  | [], _, h => h
  | x :: l, _, h => runPicks_good l (pick_good h x.1 x.2)
theorem pick_few (h : Stile.Good W) (i op : Int) : (pick W i op).1.notes.length ≤ 12 := by
  unfold pick
  split
  · rename_i hi
    split
    · split
      · rename_i ho
        unfold begin_
        dsimp only
        split
        · exact Nat.succ_le_succ (step_few (begin_set h i op ho) i (by rw [taskAt_set i hi]; show op ≠ 0; omega))
        · show 2 ≤ 12
          decide
      · exact Nat.zero_le _
    · split
      · exact Nat.zero_le _
      · rename_i hop _
        exact Nat.le_trans (step_few h i hop) (by decide)
  · exact Nat.zero_le _
theorem runPicks_few : ∀ (l : List (Int × Int)) {W : Stile.W}, Stile.Good W → (runPicks W l).1.length ≤ 12 * l.length
  | [], _, h => Nat.zero_le _
  | x :: l, W, h => by
    have h1 := pick_few h x.1 x.2
    have h2 := runPicks_few l (pick_good h x.1 x.2)
    show (_ ++ _ : List Note).length ≤ _
    rw [List.length_append, List.length_cons]
    omega
theorem field_exec {P : Program} {o : Oper} {a : Act} {t f : Nat} {x : Operand} {xv v : Value} {w : World} (ho : o.op = .field t x f) (hx : a.eval x = xv) (h : (Instr.field t xv f).run P w = .ok v w) : (execOp a.eval o).run P w = .ok (.value v) w := by
  unfold execOp
  simp [ho, hx, h]
theorem field_notes (b : Bool) (k c x y o : Int) (nv : Value) (w : World) (h1 : nv.oneCell' = true) : (Instr.field 41 (.agg #[.bool b, .int .i64 k, .int .i64 c, .int .u32 x, .int .u32 y, .int .u32 o, nv]) 2).run Tryz.prog w = .ok nv w := by
  unfold Instr.field
  simp [run_underlying Tryz.underlying41, asAgg, part]
theorem take_next {α : Type} {l : List α} {k : Nat} {x : α} (h : l[k]? = some x) : l.take (k + 1) = l.take k ++ [x] := by
  rw [List.take_add_one, h]
  rfl
set_option maxHeartbeats 4000000 in
theorem run_picks (h : Wd w a pm g t kf W) (hG : Stile.Good W) (A : Option Addr) (c : Nat) (hC : ∀ w', Bt g t w w' → pk.C w' A l.length l) (hl : l.length ≤ 2000) :
    Calls Tryz.prog 23 #[.pointer (some ⟨a, 0, none⟩), .slice A l.length c] w fun e w' => ∃ nv, e = .returned nv ∧ nk.R 44 w' w.heap.size (fun k => k ≠ g ∧ k ≠ t) nv (runPicks W l).1 ∧ Wd w' a pm g t kf (runPicks W l).2 ∧ Bt g t w w' := by
  obtain ⟨m, hm⟩ : ∃ m, m = l.length := ⟨_, rfl⟩
  have hlt := h.lt
  rw [← hm] at hC hl ⊢
  replace h := Lib.hid h
  replace hG := Lib.hid hG
  replace hC := Lib.hid hC
  replace hm := Lib.hid hm
  replace hlt := Lib.hid hlt
  go_enter Tryz.func23, Tryz.ntmps23
  go_wp2
  go_loopw [10, 5] (fun i v wr => ∃ k : Nat, k ≤ m ∧ i = .int .i64 k ∧ Hid (nk.R 44 wr w.heap.size (fun k => k ≠ g ∧ k ≠ t) v (runPicks W (l.take k)).1) ∧ Hid (Wd wr a pm g t kf (runPicks W (l.take k)).2) ∧ Hid (Bt g t w wr)) (fun i _ _ => m - (intOf i).toNat)
  case atStart => exact ⟨0, Nat.zero_le _, rfl, Lib.hid (Kd.R_nil _ _ _ _ _), h, Lib.hid (Bt.refl _ _ _)⟩
  case round =>
    obtain ⟨k, hk, rfl, hR, hW, hB⟩ := hrel
    by_cases hkm : k < m
    · obtain ⟨ad, x, rfl, hx, d0, d1⟩ := at_pk (hC.out _ hB.out) k hkm
      obtain ⟨x0, x1⟩ := x
      have hnext : runPicks W (l.take (k + 1)) = ((runPicks W (l.take k)).1 ++ (pick (runPicks W (l.take k)).2 x0 x1).1.notes, (pick (runPicks W (l.take k)).2 x0 x1).2) := by rw [take_next hx, runPicks_snoc]
      have hGk := runPicks_good (l.take k) hG.out
      have hfew := runPicks_few (l.take k) hG.out
      have hfew2 := pick_few hGk x0 x1
      have hlen : (l.take k).length ≤ 2000 := by rw [List.length_take]; omega
      have hcap : ((runPicks W (l.take k)).1.length + (pick (runPicks W (l.take k)).2 x0 x1).1.notes.length) * 32 ≤ 140737488355328 := by omega
      replace hnext := Lib.hid hnext
      replace hGk := Lib.hid hGk
      replace hcap := Lib.hid hcap
      clear hfew hfew2 hlen
      replace hx := Lib.hid hx
      go_upto_region 5 with (fail)
      have hz1 : Below wr.heap.size wr (wr.alloc (.cells #[.int .i64 x0, .int .i64 x1] 30)) := below_alloc (Below.refl _ wr) _
      have hx1 := heap_alloc_new wr (.cells #[.int .i64 x0, .int .i64 x1] 30)
      have e0 := cell_of_heap (j := 0) hx1 rfl
      have e1 := cell_of_heap (j := 1) hx1 rfl
      have hW1 := Lib.hid (hW.out.below hz1)
      have hB1 := Lib.hid (hB.out.trans (Bt.of_below hz1))
      have hR1 := Lib.hid (Kd.R_below hR.out hz1)
      replace hx1 := Lib.hid hx1
      clear hz1 d0 d1 hR hW hB
      generalize (wr.alloc (.cells #[.int .i64 x0, .int .i64 x1] 30)) = W1 at hx1 e0 e1 hW1 hB1 hR1 ⊢
      generalize wr.heap.size = bx at hx1 e0 e1 ⊢
      go_wp2_with (first
        | (go_at_call 17; go_must (refine (pick_run hW1.out hGk.out x0 x1).mono ?_; rintro e w2 ⟨nv, rfl, hN, hW2, hB2⟩; have hR2 := Lib.hid (Kd.R_step hR1.out (fun q hq hlt => hB2.block q hlt hq.1 hq.2)); have hB3 := Lib.hid (hB1.out.trans hB2); obtain ⟨An, cn, rfl⟩ := Kd.R_slice hN; have hNC := Lib.hid (Kd.R_reads' hN).2.2; replace hW2 := Lib.hid hW2; clear hN hB2; clear hR1; unfold evV; obtain ⟨ev, hev⟩ : ∃ ev, ev = (pick (runPicks W (l.take k)).2 x0 x1).1 := ⟨_, rfl⟩; rw [← hev] at hNC hcap ⊢; replace hev := Lib.hid hev))
        | ((with_reducible refine gate_ (.field 41 (.tmp 17) 2) rfl ?_); go_must (refine wp_value (v := .slice An ev.notes.length cn) (some 18) rfl rfl (field_exec rfl rfl (field_notes _ _ _ _ _ _ _ _ rfl)) ?_))
        | ((with_reducible refine gate_builtin (b := .append) (xs := #[.tmp 14, .tmp 18]) rfl ?_); at_builtin; go_must (
            refine Kd.R_append_rows nk (w0 := w2) (W := w2) w.heap.size rfl (.tmp 14) (.tmp 18) 39 44 (.agg #[.int .i64 0, .int .i64 0, .int .i64 0, .int .i64 0]) 32 rfl Tryz.underlying39 info_note rfl (by decide) (by decide) u5 (runPicks W (l.take k)).1 ev.notes An ev.notes.length cn (fun k => k ≠ g ∧ k ≠ t) (fun _ => False) rfl rfl hR2.out hNC.out (fun x cs h => by rw [nk_K h]; exact nk_M x) (fun _ hk => hk.elim) (fun q hq => ⟨by have := hlt.out.2.2.1; have := hB3.out.size; omega, by have := hlt.out.2.2.2; have := hB3.out.size; omega⟩) (Below.refl _ _) hB3.out.size hcap.out ?_;
            intro v3 w3 hR3 hb3 _ _;
            (have hW3 := Lib.hid (hW2.out.blocks (hb3.block a hlt.out.1) (hb3.block pm hlt.out.2.1) (hb3.block g hlt.out.2.2.1) (hb3.block t hlt.out.2.2.2)));
            (have hB4 : Hid (Bt g t w w3) := Lib.hid ⟨hb3.os.trans hB3.out.os, hb3.tape.trans hB3.out.tape, hb3.output.trans hB3.out.output, Nat.le_trans hB3.out.size hb3.size, fun q hq h1 h2 => (hb3.block q hq).trans (hB3.out.block q hq h1 h2)⟩);
            replace hR3 := Lib.hid hR3))
        )
      go_roundw
      case rel => exact ⟨k + 1, by omega, by go_num, Lib.hid (by rw [hnext.out, ← hev.out]; exact hR3.out), Lib.hid (by rw [hnext.out]; exact hW3.out), hB4⟩
      case measure => simp [intOf]; omega
    · obtain rfl : m = k := by omega
      have hall : l.take m = l := by rw [hm.out, List.take_length]
      rw [hall] at hR hW
      go_wp2
      go_ret
      exact ⟨_, rfl, hR.out, hW.out, hB.out⟩

end Go.Proofs.YtkmlefbdhdlfmaaGreat.Wo
