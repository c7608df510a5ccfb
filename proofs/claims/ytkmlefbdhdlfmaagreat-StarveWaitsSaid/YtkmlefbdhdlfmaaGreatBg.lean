/- An operation begins; a pick: against the plain text. -/
import Derived.Test.YtkmlefbdhdlfmaaGreatIns
namespace Go.Proofs.YtkmlefbdhdlfmaaGreat.Wo
open Go.RowKit Go.Proofs.YtkmlefbdhdlfmaaGreatW.PrintWords Go.Proofs.YtkmlefbdhdlfmaaGreatW.PrintMore Go.Proofs.YtkmlefbdhdlfmaaGreatW.PrintLast
open Stile
set_option linter.unusedSimpArgs false
set_option linter.unusedVariables false
set_option maxRecDepth 100000
variable {w w1 w2 w0 V V1 : World} {a pm g t kf n b B p : Nat} {W W2 : Stile.W} {ev : Array Value}
theorem Lv.step (h : Lv w0 V a pm g t kf b W ev) (hw : Wd V1 a pm g t kf W2) (hB : Bt g t V V1) : Lv w0 V1 a pm g t kf b W2 ev := by
 have hf := h.far
 exact ⟨hw, (hB.block b (blk_lt h.ev) (by omega) (by omega)).trans h.ev, h.bt.trans hB, h.lo, hf⟩
theorem R_base {xs : List Note} {nv : Value} {ok : Nat → Prop} (hR : nk.R 44 w B ok nv xs) {x : Nat} (hx : x < B) : some x ≠ nv.ownBlock := by
 intro k
 have := (Kd.R_bound hR).1 x k.symm
 omega
theorem R_two {x y : Note} (h : w.heap[n]? = some (.cells (noteC x ++ noteC y).toArray 44 (0, 0))) (hB : B ≤ n) : nk.R 44 w B (fun _ => True) (.slice (some ⟨n, 0, none⟩) 2 2) [x, y] :=
 R_of_own ⟨rfl, .inr ⟨n, 2, _, rfl, hB, h, Nat.le_refl _, by decide, rfl, rfl⟩⟩
set_option maxHeartbeats 4000000 in
theorem begin_no (h : Wd w a pm g t kf W) (k : Nat) (hk : k < W.t.length) (op : Int) (hm : may op (W.t.getD k ⟨0, .zero⟩).hold = false) :
 Calls Tryz.prog 47 #[.pointer (some ⟨a, 0, none⟩), .int .i64 k, .int .i64 op] w fun e w' => ∃ nv, e = .returned (.agg #[.bool true, .int .i64 0, .int .i64 0, .int .u32 0, .int .u32 0, .int .u32 0, nv]) ∧ nk.R 44 w' w.heap.size (fun _ => True) nv [⟨k, 1, op, 0⟩, ⟨k, 11, op, 3⟩] ∧ Wd w' a pm g t kf W ∧ Bt g t w w' := by
 have ht := fun V (hV : Wd V a pm g t kf W) => task_walk hV (k : Int)
 rw [if_pos (by unfold there; omega), Int.toNat_natCast] at ht
 obtain ⟨xh, hx⟩ : ∃ xh, xh = (W.t.getD k ⟨0, .zero⟩).hold := ⟨_, rfl⟩
 rw [← hx] at hm
 obtain ⟨b, hb⟩ : ∃ b, b = w.heap.size := ⟨_, rfl⟩
 rw [← hb]
 have hlt := h.lt
 have L0 : Lv w (w.alloc (.cells #[.bool false, .int .i64 0, .int .i64 0, .int .u32 0, .int .u32 0, .int .u32 0, .slice none 0 0] 41)) a pm g t kf b W #[.bool false, .int .i64 0, .int .i64 0, .int .u32 0, .int .u32 0, .int .u32 0, .slice none 0 0] := ⟨h.alloc _, by rw [hb]; exact heap_alloc_new _ _, (Bt.refl g t w).alloc _, Nat.le_of_eq hb.symm, by omega, by omega, by omega, by omega⟩
 replace ht := Lib.hid ht
 replace h := Lib.hid h
 replace hx := Lib.hid hx
 replace hk := Lib.hid hk
 replace hm := Lib.hid hm
 go_enter Tryz.func47, Tryz.ntmps47
 go_upto_region 1 with (fail)
 rw [← hb]
 replace hb := Lib.hid hb
 generalize (w.alloc (.cells #[.bool false, .int .i64 0, .int .i64 0, .int .u32 0, .int .u32 0, .int .u32 0, .slice none 0 0] 41)) = V0 at L0 ⊢
 clear hlt
 replace L0 := Lib.hid L0
 go_upto_region 3 with (go_at_call 45; go_must (refine (ht.out _ L0.out.wd).mono ?_; rintro e w1 ⟨rfl, rfl⟩))
 obtain ⟨cb, hcbe⟩ : ∃ cb, cb = w1.heap.size := ⟨_, rfl⟩
 rw [← hcbe]
 have hbc : b < cb := by rw [hcbe]; exact blk_lt L0.out.ev
 have hcb : (w1.alloc (.cells #[.int .i64 k, .int .i64 1, .int .i64 op, .int .i64 0] 44)).heap[cb]? = some (.cells #[.int .i64 k, .int .i64 1, .int .i64 op, .int .i64 0] 44 (0, 0)) := by rw [hcbe]; exact heap_alloc_new _ _
 have L1 := L0.out.alloc (.cells #[.int .i64 k, .int .i64 1, .int .i64 op, .int .i64 0] 44)
 replace hcbe := Lib.hid hcbe
 generalize (w1.alloc (.cells #[.int .i64 k, .int .i64 1, .int .i64 op, .int .i64 0] 44)) = V1 at hcb L1 ⊢
 clear L0
 have ch : V1.cell? ⟨t, k * 11, none⟩ = some (.int .i64 xh) := by
  have := L1.wd.tasks.cell (i := k) (j := 0) hk.out (by decide)
  rw [hx.out]; exact this
 have yh := L1.wd.tasks.frozen (k * 11)
 have q0 := cell_of_heap (j := 0) hcb rfl
 have q1 := cell_of_heap (j := 1) hcb rfl
 have q2 := cell_of_heap (j := 2) hcb rfl
 have q3 := cell_of_heap (j := 3) hcb rfl
 replace hcb := Lib.hid hcb
 replace L1 := Lib.hid L1
 go_upto_region 4 with (go_at_call 85; go_must (refine (may_walk op xh _).mono ?_; rintro e w2 ⟨rfl, rfl⟩; rw [hm.out]))
 clear ch yh
 obtain ⟨nb, hnb⟩ : ∃ nb, nb = w2.heap.size := ⟨_, rfl⟩
 have L2 := Lib.hid (L1.out.alloc (.cells #[.int .i64 k, .int .i64 1, .int .i64 op, .int .i64 0, .int .i64 k, .int .i64 11, .int .i64 op, .int .i64 3] 44))
 go_wp2_with ((with_reducible refine gate_store rfl ?_); refine wp_store rfl rfl rfl rfl rfl (run_store_run 41 (.agg #[.bool true, .int .i64 0, .int .i64 0, .int .u32 0, .int .u32 0, .int .u32 0, .slice (some ⟨w2.heap.size, 0, none⟩) 2 2]) [.bool true, .int .i64 0, .int .i64 0, .int .u32 0, .int .u32 0, .int .u32 0, .slice (some ⟨w2.heap.size, 0, none⟩) 2 2] (o := 0) L2.out.ev rfl (by kernel_rfl) (Nat.le_refl _) (by simp [Value.oneCell'])) ?_)
 have hR2 := R_two (w := w2.alloc (.cells #[.int .i64 k, .int .i64 1, .int .i64 op, .int .i64 0, .int .i64 k, .int .i64 11, .int .i64 op, .int .i64 3] 44)) (x := ⟨k, 1, op, 0⟩) (y := ⟨k, 11, op, 3⟩) (n := w2.heap.size) (B := b) (heap_alloc_new w2 _) (Nat.le_of_lt (blk_lt L1.out.ev))
 have L3 := L2.out.put [.bool true, .int .i64 0, .int .i64 0, .int .u32 0, .int .u32 0, .int .u32 0, .slice (some ⟨w2.heap.size, 0, none⟩) 2 2] rfl
 have hR3 := R_cellsFar hR2 L2.out.ev (by decide) 0 [.bool true, .int .i64 0, .int .i64 0, .int .u32 0, .int .u32 0, .int .u32 0, .slice (some ⟨w2.heap.size, 0, none⟩) 2 2]
 (try simp only [Exit.inBlock, Exit.then])
 refine bodyPost_ret (results_single rfl (.cell b 41 #[.bool true, .int .i64 0, .int .i64 0, .int .u32 0, .int .u32 0, .int .u32 0, .slice (some ⟨w2.heap.size, 0, none⟩) 2 2] (0, 0) _ rfl L3.ev Tryz.underlying41 rfl (by kernel_rfl) .nil)) rfl ?_
 exact ⟨_, rfl, hR3, L3.wd, L3.bt⟩
set_option maxHeartbeats 4000000 in
theorem begin_yes (h : Wd w a pm g t kf W) (k : Nat) (hk : k < W.t.length) (op : Int) (hm : may op (W.t.getD k ⟨0, .zero⟩).hold = true) (a0 a1 a2 a3 a4 : Int) (ns : List Note) (hlen : ns.length ≤ 1500)
 (hS : ∀ V, Wd V a pm g t kf { W with t := W.t.set k ⟨atHold op (W.t.getD k ⟨0, .zero⟩).hold, ⟨op, 0, 0, 0, 0, false, 0, 0, false, 0⟩⟩ } → Calls Tryz.prog 48 #[.pointer (some ⟨a, 0, none⟩), .int .i64 k] V fun e w' => ∃ nv, e = .returned (.agg #[.bool true, .int .i64 a0, .int .i64 a1, .int .u32 a2, .int .u32 a3, .int .u32 a4, nv]) ∧ nk.R 44 w' V.heap.size (fun _ => True) nv ns ∧ Wd w' a pm g t kf W2 ∧ Bt g t V w') :
 Calls Tryz.prog 47 #[.pointer (some ⟨a, 0, none⟩), .int .i64 k, .int .i64 op] w fun e w' => ∃ nv, e = .returned (.agg #[.bool true, .int .i64 a0, .int .i64 a1, .int .u32 a2, .int .u32 a3, .int .u32 a4, nv]) ∧ nk.R 44 w' w.heap.size (fun _ => True) nv (⟨k, 1, op, 0⟩ :: ns) ∧ Wd w' a pm g t kf W2 ∧ Bt g t w w' := by
 replace hS := Lib.hid hS
 have ht := fun V (hV : Wd V a pm g t kf W) => task_walk hV (k : Int)
 rw [if_pos (by unfold there; omega), Int.toNat_natCast] at ht
 obtain ⟨xh, hx⟩ : ∃ xh, xh = (W.t.getD k ⟨0, .zero⟩).hold := ⟨_, rfl⟩
 rw [← hx] at hm
 obtain ⟨b, hb⟩ : ∃ b, b = w.heap.size := ⟨_, rfl⟩
 rw [← hb]
 have hlt := h.lt
 have L0 : Lv w (w.alloc (.cells #[.bool false, .int .i64 0, .int .i64 0, .int .u32 0, .int .u32 0, .int .u32 0, .slice none 0 0] 41)) a pm g t kf b W #[.bool false, .int .i64 0, .int .i64 0, .int .u32 0, .int .u32 0, .int .u32 0, .slice none 0 0] := ⟨h.alloc _, by rw [hb]; exact heap_alloc_new _ _, (Bt.refl g t w).alloc _, Nat.le_of_eq hb.symm, by omega, by omega, by omega, by omega⟩
 replace ht := Lib.hid ht
 replace h := Lib.hid h
 replace hx := Lib.hid hx
 replace hk := Lib.hid hk
 replace hm := Lib.hid hm
 go_enter Tryz.func47, Tryz.ntmps47
 go_upto_region 1 with (fail)
 rw [← hb]
 replace hb := Lib.hid hb
 generalize (w.alloc (.cells #[.bool false, .int .i64 0, .int .i64 0, .int .u32 0, .int .u32 0, .int .u32 0, .slice none 0 0] 41)) = V0 at L0 ⊢
 clear hlt
 replace L0 := Lib.hid L0
 go_upto_region 3 with (go_at_call 45; go_must (refine (ht.out _ L0.out.wd).mono ?_; rintro e w1 ⟨rfl, rfl⟩))
 obtain ⟨cb, hcbe⟩ : ∃ cb, cb = w1.heap.size := ⟨_, rfl⟩
 rw [← hcbe]
 have hbc : b < cb := by rw [hcbe]; exact blk_lt L0.out.ev
 have hcb : (w1.alloc (.cells #[.int .i64 k, .int .i64 1, .int .i64 op, .int .i64 0] 44)).heap[cb]? = some (.cells #[.int .i64 k, .int .i64 1, .int .i64 op, .int .i64 0] 44 (0, 0)) := by rw [hcbe]; exact heap_alloc_new _ _
 have L1 := L0.out.alloc (.cells #[.int .i64 k, .int .i64 1, .int .i64 op, .int .i64 0] 44)
 replace hcbe := Lib.hid hcbe
 generalize (w1.alloc (.cells #[.int .i64 k, .int .i64 1, .int .i64 op, .int .i64 0] 44)) = V1 at hcb L1 ⊢
 clear L0
 have ch : V1.cell? ⟨t, k * 11, none⟩ = some (.int .i64 xh) := by
  have := L1.wd.tasks.cell (i := k) (j := 0) hk.out (by decide)
  rw [hx.out]; exact this
 have yh := L1.wd.tasks.frozen (k * 11)
 replace hlen := Lib.hid hlen
 replace hcb := Lib.hid hcb
 replace L1 := Lib.hid L1
 go_upto_region 6 with (first
  | (go_at_call 85; go_must (refine (may_walk op xh _).mono ?_; rintro e w2 ⟨rfl, rfl⟩; rw [hm.out]))
  | (go_at_call 86; go_must (refine (atHold_walk op xh _).mono ?_; rintro e w2 ⟨rfl, rfl⟩)))
 clear ch yh
 have L2 : Lv w (w2.setCell ⟨t, k * 11, none⟩ (.int .i64 (atHold op xh))) a pm g t kf b _ #[.bool false, .int .i64 0, .int .i64 0, .int .u32 0, .int .u32 0, .int .u32 0, .slice none 0 0] := L1.out.task k 0 hk.out [.int .i64 (atHold op xh)] (by simp) ⟨atHold op xh, _⟩ (hold_task _ _)
 have hcb2 := (setCells_far (w := w2) (g := t) [.int .i64 (atHold op xh)] (k * 11) cb (by have := L1.out.far; omega)).trans hcb.out
 change (w2.setCell ⟨t, k * 11, none⟩ (.int .i64 (atHold op xh))).heap[cb]? = _ at hcb2
 clear L1 hcb
 obtain ⟨W9, hW9⟩ : ∃ W9, W9 = ({ W with t := W.t.set k ⟨atHold op xh, (W.t.getD k ⟨0, .zero⟩).f⟩ } : Stile.W) := ⟨_, rfl⟩
 replace L2 : Lv w (w2.setCell ⟨t, k * 11, none⟩ (.int .i64 (atHold op xh))) a pm g t kf b W9 #[.bool false, .int .i64 0, .int .i64 0, .int .u32 0, .int .u32 0, .int .u32 0, .slice none 0 0] := by rw [hW9]; exact L2
 have hk9 : k < W9.t.length := by rw [hW9]; have := hk.out; simpa using this
 generalize (w2.setCell ⟨t, k * 11, none⟩ (.int .i64 (atHold op xh))) = V2 at L2 hcb2 ⊢
 replace hW9 := Lib.hid hW9
 replace L2 := Lib.hid L2
 replace hk9 := Lib.hid hk9
 replace hcb2 := Lib.hid hcb2
 go_upto_region 7 with ((with_reducible refine gate_store rfl ?_); refine wp_store rfl rfl rfl rfl rfl (L2.out.wd.tasks.run k 1 hk9.out 51 (.agg #[.int .i64 op, .int .i64 0, .int .u32 0, .int .u32 0, .int .i64 0, .bool false, .int .i64 0, .int .i64 0, .bool false, .int .i64 0]) [.int .i64 op, .int .i64 0, .int .u32 0, .int .u32 0, .int .i64 0, .bool false, .int .i64 0, .int .i64 0, .bool false, .int .i64 0] rfl (by kernel_rfl) (by simp) (by simp [Value.oneCell'])) ?_)
 have L3 := L2.out.task k 1 hk9.out [.int .i64 op, .int .i64 0, .int .u32 0, .int .u32 0, .int .i64 0, .bool false, .int .i64 0, .int .i64 0, .bool false, .int .i64 0] (by simp) ⟨(W9.t.getD k ⟨0, .zero⟩).hold, ⟨op, 0, 0, 0, 0, false, 0, 0, false, 0⟩⟩ (frame_task _ ⟨op, 0, 0, 0, 0, false, 0, 0, false, 0⟩)
 have hcb3 := (setCells_far (w := V2) (g := t) [.int .i64 op, .int .i64 0, .int .u32 0, .int .u32 0, .int .i64 0, .bool false, .int .i64 0, .int .i64 0, .bool false, .int .i64 0] (k * 11 + 1) cb (by have := L2.out.far; omega)).trans hcb2.out
 clear L2 hcb2
 have hfin : ({ W9 with t := W9.t.set k ⟨(W9.t.getD k ⟨0, .zero⟩).hold, ⟨op, 0, 0, 0, 0, false, 0, 0, false, 0⟩⟩ } : Stile.W) = { W with t := W.t.set k ⟨atHold op (W.t.getD k ⟨0, .zero⟩).hold, ⟨op, 0, 0, 0, 0, false, 0, 0, false, 0⟩⟩ } := by
  have hk1 := hk.out
  rw [hW9.out, ← hx.out]
  simp [List.getD_eq_getElem?_getD, hk1]
 rw [hfin] at L3
 clear hfin
 generalize (V2.setCells t (k * 11 + 1) [.int .i64 op, .int .i64 0, .int .u32 0, .int .u32 0, .int .i64 0, .bool false, .int .i64 0, .int .i64 0, .bool false, .int .i64 0]) = V3 at L3 hcb3 ⊢
 replace L3 := Lib.hid L3
 replace hcb3 := Lib.hid hcb3
 go_upto_region 8 with (go_at_call 48; go_must (refine (hS.out _ L3.out.wd).mono ?_; rintro e w4 ⟨nv, rfl, hR4, hw4, hB4⟩; obtain ⟨A4, c4, rfl⟩ := Kd.R_slice hR4; have L4 := L3.out.step hw4 hB4; have hcl : cb < V3.heap.size := blk_lt hcb3.out; have hcb4 := (hB4.block cb hcl (by have := L4.far; omega) (by have := L4.far; omega)).trans hcb3.out; clear hw4 hB4 L3 hcb3; replace hR4 := Lib.hid hR4; replace L4 := Lib.hid L4; replace hcb4 := Lib.hid hcb4; replace hcl := Lib.hid hcl))
 obtain ⟨e1, he1e⟩ : ∃ e1, e1 = w4.heap.size := ⟨_, rfl⟩
 rw [← he1e]
 have hbe : b < e1 := by rw [he1e]; exact blk_lt L4.out.ev
 have hce : cb ≠ e1 := by have := blk_lt hcb4.out; omega
 have he1 : (w4.alloc (.cells #[.bool true, .int .i64 a0, .int .i64 a1, .int .u32 a2, .int .u32 a3, .int .u32 a4, .slice A4 ns.length c4] 41)).heap[e1]? = some (.cells #[.bool true, .int .i64 a0, .int .i64 a1, .int .u32 a2, .int .u32 a3, .int .u32 a4, .slice A4 ns.length c4] 41 (0, 0)) := by rw [he1e]; exact heap_alloc_new _ _
 have L5 := L4.out.alloc (.cells #[.bool true, .int .i64 a0, .int .i64 a1, .int .u32 a2, .int .u32 a3, .int .u32 a4, .slice A4 ns.length c4] 41)
 have hcb5 := blk_alloc hcb4.out (.cells #[.bool true, .int .i64 a0, .int .i64 a1, .int .u32 a2, .int .u32 a3, .int .u32 a4, .slice A4 ns.length c4] 41)
 have hbV : b ≤ V3.heap.size := by have := hcl.out; omega
 have hR5 := Kd.R_lower (Kd.R_below hR4.out (below_alloc (Below.refl _ w4) (.cells #[.bool true, .int .i64 a0, .int .i64 a1, .int .u32 a2, .int .u32 a3, .int .u32 a4, .slice A4 ns.length c4] 41))) hbV
 have hne5 := R_base (Kd.R_below hR4.out (below_alloc (Below.refl _ w4) (.cells #[.bool true, .int .i64 a0, .int .i64 a1, .int .u32 a2, .int .u32 a3, .int .u32 a4, .slice A4 ns.length c4] 41))) hcl.out
 replace he1e := Lib.hid he1e
 generalize (w4.alloc (.cells #[.bool true, .int .i64 a0, .int .i64 a1, .int .u32 a2, .int .u32 a3, .int .u32 a4, .slice A4 ns.length c4] 41)) = V5 at he1 L5 hcb5 hR5 hne5 ⊢
 clear hR4 L4 hcb4
 have q0 := cell_of_heap (j := 0) hcb5 rfl
 have q1 := cell_of_heap (j := 1) hcb5 rfl
 have q2 := cell_of_heap (j := 2) hcb5 rfl
 have q3 := cell_of_heap (j := 3) hcb5 rfl
 have r6 := cell_of_heap (j := 6) he1 rfl
 have hb5 : b ≤ V5.heap.size := Nat.le_of_lt (blk_lt L5.ev)
 replace he1 := Lib.hid he1
 replace L5 := Lib.hid L5
 replace hcb5 := Lib.hid hcb5
 replace hR5 := Lib.hid hR5
 go_upto_region 9 with (go_at_call 87; go_must (refine (insert_walk hR5.out hb5 hlen.out ⟨k, 1, op, 0⟩).mono ?_; rintro e w6 ⟨v6, rfl, hR6, hg6, hB6⟩; obtain ⟨A6, c6, rfl⟩ := Kd.R_slice hR6; have L6 := L5.out.grownR hR5.out hg6 hB6; have he6 := (hg6.block e1 (blk_lt he1.out) (R_ne hR5.out he1.out (by decide))).trans he1.out; clear hg6 hB6 q0 q1 q2 q3 r6; have s6 := cell_of_heap (j := 6) he6 rfl; have y6 := blk_frozen he6 6; replace hR6 := Lib.hid hR6; replace L6 := Lib.hid L6; replace he6 := Lib.hid he6))
 clear s6 y6
 obtain ⟨v8, hv8⟩ : ∃ v8 : Value, v8 = .slice A6 ((⟨k, 1, op, 0⟩ : Note) :: ns).length c6 := ⟨_, rfl⟩
 have L8 := L6.out.far_cell e1 6 hbe v8
 have he8 := blk_set he6.out 6 v8
 have hR8 : nk.R 44 (w6.setCell ⟨e1, 6, none⟩ v8) b (fun _ => True) v8 (⟨k, 1, op, 0⟩ :: ns) := by rw [hv8]; exact R_cellsFar hR6.out he6.out (by decide) 6 [_]
 rw [hv8] at he8 L8 hR8
 clear hv8 L6 he6 hR6 he1 L5 hR5 hcb5
 have hl8 : ((⟨k, 1, op, 0⟩ : Note) :: ns).length = ns.length + 1 := rfl
 rw [hl8] at he8 L8 hR8
 try rw [hl8]
 replace he8 : _ = some (Obj.cells #[.bool true, .int .i64 a0, .int .i64 a1, .int .u32 a2, .int .u32 a3, .int .u32 a4, .slice A6 (ns.length + 1) c6] 41 (0, 0)) := he8
 generalize (w6.setCell ⟨e1, 6, none⟩ (.slice A6 (ns.length + 1) c6)) = V8 at L8 he8 hR8 ⊢
 have r0 := cell_of_heap (j := 0) he8 rfl
 have r1 := cell_of_heap (j := 1) he8 rfl
 have r2 := cell_of_heap (j := 2) he8 rfl
 have r3 := cell_of_heap (j := 3) he8 rfl
 have r4 := cell_of_heap (j := 4) he8 rfl
 have r5 := cell_of_heap (j := 5) he8 rfl
 have r6 := cell_of_heap (j := 6) he8 rfl
 replace he8 := Lib.hid he8
 replace L8 := Lib.hid L8
 replace hR8 := Lib.hid hR8
 go_wp2_with ((with_reducible refine gate_store rfl ?_); refine wp_store rfl rfl rfl rfl rfl (run_store_run 41 (.agg #[.bool true, .int .i64 a0, .int .i64 a1, .int .u32 a2, .int .u32 a3, .int .u32 a4, .slice A6 (ns.length + 1) c6]) [.bool true, .int .i64 a0, .int .i64 a1, .int .u32 a2, .int .u32 a3, .int .u32 a4, .slice A6 (ns.length + 1) c6] (o := 0) L8.out.ev rfl (by kernel_rfl) (Nat.le_refl _) (by simp [Value.oneCell'])) ?_)
 have L9 := L8.out.put [.bool true, .int .i64 a0, .int .i64 a1, .int .u32 a2, .int .u32 a3, .int .u32 a4, .slice A6 (ns.length + 1) c6] rfl
 have hR9 := R_cellsFar hR8.out L8.out.ev (by decide) 0 [.bool true, .int .i64 a0, .int .i64 a1, .int .u32 a2, .int .u32 a3, .int .u32 a4, .slice A6 (ns.length + 1) c6]
 (try simp only [Exit.inBlock, Exit.then])
 refine bodyPost_ret (results_single rfl (.cell b 41 #[.bool true, .int .i64 a0, .int .i64 a1, .int .u32 a2, .int .u32 a3, .int .u32 a4, .slice A6 (ns.length + 1) c6] (0, 0) _ rfl L9.ev Tryz.underlying41 rfl (by kernel_rfl) .nil)) rfl ?_
 exact ⟨_, rfl, hR9, L9.wd, L9.bt⟩
end Go.Proofs.YtkmlefbdhdlfmaaGreat.Wo
