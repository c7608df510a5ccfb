/- Wake-ups, step by step; who is stuck; a step of a run: against the plain texts. -/
import Derived.Test.YtkmlefbdhdlfmaaGreatLn
import Derived.Test.YtkmlefbdhdlfmaaGreatWorld
namespace Go.Proofs.YtkmlefbdhdlfmaaGreat.Wo
open Go.RowKit Go.Proofs.YtkmlefbdhdlfmaaGreatW.PrintWords Go.Proofs.YtkmlefbdhdlfmaaGreatW.PrintMore Go.Proofs.YtkmlefbdhdlfmaaGreatW.PrintLast
open Stile
set_option linter.unusedSimpArgs false
set_option linter.unusedVariables false
set_option maxRecDepth 100000
variable {w w1 w2 w0 : World} {B p pm g m : Nat} {l : List Int} {r r1 : Run} {Q : Ending → World → Prop}
theorem e140 {P : Prop} (h : P := by
 exact ⟨rfl, hb0.os, hb0.tape, hb0.output, hb0.size, fun k hk => hb0.block k hk (Nat.ne_of_lt hk)⟩) : P := h
theorem e141 {P : Prop} (h : P := by
 replace h2 := blk_set h2 0 (.bool false)
 replace h3 := blk_far h3 (p := ⟨b + 1 + 1, 0, none⟩) (by show b + 1 + 1 + 1 ≠ b + 1 + 1; omega) (.bool false)
 replace m0 := m0.far ⟨b + 1 + 1, 0, none⟩ (by show b + 1 + 1 ≠ pm; omega) (by show b + 1 + 1 ≠ g; omega) (.bool false)
 replace b0 := b0.set ⟨b + 1 + 1, 0, none⟩ (by right; show w.heap.size ≤ b + 1 + 1; omega) (.bool false)
 replace h2 := blk_set h2 1 (.int .i64 0)
 replace h3 := blk_far h3 (p := ⟨b + 1 + 1, 1, none⟩) (by show b + 1 + 1 + 1 ≠ b + 1 + 1; omega) (.int .i64 0)
 replace m0 := m0.far ⟨b + 1 + 1, 1, none⟩ (by show b + 1 + 1 ≠ pm; omega) (by show b + 1 + 1 ≠ g; omega) (.int .i64 0)
 replace b0 := b0.set ⟨b + 1 + 1, 1, none⟩ (by right; show w.heap.size ≤ b + 1 + 1; omega) (.int .i64 0)
 replace h2 := blk_set h2 2 (.int .i64 0)
 replace h3 := blk_far h3 (p := ⟨b + 1 + 1, 2, none⟩) (by show b + 1 + 1 + 1 ≠ b + 1 + 1; omega) (.int .i64 0)
 replace m0 := m0.far ⟨b + 1 + 1, 2, none⟩ (by show b + 1 + 1 ≠ pm; omega) (by show b + 1 + 1 ≠ g; omega) (.int .i64 0)
 replace b0 := b0.set ⟨b + 1 + 1, 2, none⟩ (by right; show w.heap.size ≤ b + 1 + 1; omega) (.int .i64 0)
 replace h2 := blk_set h2 3 (.bool false)
 replace h3 := blk_far h3 (p := ⟨b + 1 + 1, 3, none⟩) (by show b + 1 + 1 + 1 ≠ b + 1 + 1; omega) (.bool false)
 replace m0 := m0.far ⟨b + 1 + 1, 3, none⟩ (by show b + 1 + 1 ≠ pm; omega) (by show b + 1 + 1 ≠ g; omega) (.bool false)
 replace b0 := b0.set ⟨b + 1 + 1, 3, none⟩ (by right; show w.heap.size ≤ b + 1 + 1; omega) (.bool false)
 replace h2 := blk_far h2 (p := ⟨b + 1 + 1 + 1, 0, none⟩) (by show b + 1 + 1 ≠ b + 1 + 1 + 1; omega) (.int .i64 0)
 replace h3 := blk_set h3 0 (.int .i64 0)
 replace m0 := m0.far ⟨b + 1 + 1 + 1, 0, none⟩ (by show b + 1 + 1 + 1 ≠ pm; omega) (by show b + 1 + 1 + 1 ≠ g; omega) (.int .i64 0)
 replace b0 := b0.set ⟨b + 1 + 1 + 1, 0, none⟩ (by right; show w.heap.size ≤ b + 1 + 1 + 1; omega) (.int .i64 0)
 replace h2 := blk_far h2 (p := ⟨b + 1 + 1 + 1, 1, none⟩) (by show b + 1 + 1 ≠ b + 1 + 1 + 1; omega) (.int .i64 0)
 replace h3 := blk_set h3 1 (.int .i64 0)
 replace m0 := m0.far ⟨b + 1 + 1 + 1, 1, none⟩ (by show b + 1 + 1 + 1 ≠ pm; omega) (by show b + 1 + 1 + 1 ≠ g; omega) (.int .i64 0)
 replace b0 := b0.set ⟨b + 1 + 1 + 1, 1, none⟩ (by right; show w.heap.size ≤ b + 1 + 1 + 1; omega) (.int .i64 0)
 replace h2 := blk_far h2 (p := ⟨b + 1 + 1 + 1, 2, none⟩) (by show b + 1 + 1 ≠ b + 1 + 1 + 1; omega) (.int .u32 0)
 replace h3 := blk_set h3 2 (.int .u32 0)
 replace m0 := m0.far ⟨b + 1 + 1 + 1, 2, none⟩ (by show b + 1 + 1 + 1 ≠ pm; omega) (by show b + 1 + 1 + 1 ≠ g; omega) (.int .u32 0)
 replace b0 := b0.set ⟨b + 1 + 1 + 1, 2, none⟩ (by right; show w.heap.size ≤ b + 1 + 1 + 1; omega) (.int .u32 0)
 replace h2 := blk_far h2 (p := ⟨b + 1 + 1 + 1, 3, none⟩) (by show b + 1 + 1 ≠ b + 1 + 1 + 1; omega) (.int .u32 0)
 replace h3 := blk_set h3 3 (.int .u32 0)
 replace m0 := m0.far ⟨b + 1 + 1 + 1, 3, none⟩ (by show b + 1 + 1 + 1 ≠ pm; omega) (by show b + 1 + 1 + 1 ≠ g; omega) (.int .u32 0)
 replace b0 := b0.set ⟨b + 1 + 1 + 1, 3, none⟩ (by right; show w.heap.size ≤ b + 1 + 1 + 1; omega) (.int .u32 0)
 replace h2 := blk_far h2 (p := ⟨b + 1 + 1 + 1, 4, none⟩) (by show b + 1 + 1 ≠ b + 1 + 1 + 1; omega) (.int .u32 0)
 replace h3 := blk_set h3 4 (.int .u32 0)
 replace m0 := m0.far ⟨b + 1 + 1 + 1, 4, none⟩ (by show b + 1 + 1 + 1 ≠ pm; omega) (by show b + 1 + 1 + 1 ≠ g; omega) (.int .u32 0)
 replace b0 := b0.set ⟨b + 1 + 1 + 1, 4, none⟩ (by right; show w.heap.size ≤ b + 1 + 1 + 1; omega) (.int .u32 0)
 (try simp only [Exit.inBlock, Exit.then])
 refine bodyPost_ret (results_list (vs := [.agg #[.bool false, .int .i64 0, .int .i64 0, .bool false], .agg #[.int .i64 0, .int .i64 0, .int .u32 0, .int .u32 0, .int .u32 0]]) rfl (by simp) (.cell (b + 1 + 1) 49 #[.bool false, .int .i64 0, .int .i64 0, .bool false] (0, 0) _ rfl h2 Tryz.underlying49 rfl (by kernel_rfl) (.cell (b + 1 + 1 + 1) 38 #[.int .i64 0, .int .i64 0, .int .u32 0, .int .u32 0, .int .u32 0] (0, 0) _ rfl h3 Tryz.underlying38 rfl (by kernel_rfl) .nil))) rfl ?_
 exact ⟨rfl, m0, b0⟩) : P := h
theorem e142 {P : Prop} (h : P := by
 rintro w' ⟨s0, s1, s2, s3, s4, s5, s6, s7, s8, s9⟩
 go_simp
 with_reducible rfl) : P := h
theorem e143 {P : Prop} (h : P := by
 go_wp2
 (try simp only [Exit.inBlock, Exit.then])
 refine bodyPost_ret (results_list (vs := [.agg #[.bool y0, .int .i64 y1, .int .i64 y2, .bool y3], .agg #[.int .i64 a0, .int .i64 a1, .int .u32 a2, .int .u32 a3, .int .u32 a4]]) rfl (by simp) (.cell (b + 1 + 1) 49 #[.bool y0, .int .i64 y1, .int .i64 y2, .bool y3] (0, 0) _ rfl h2 Tryz.underlying49 rfl (by kernel_rfl) (.cell (b + 1 + 1 + 1) 38 #[.int .i64 a0, .int .i64 a1, .int .u32 a2, .int .u32 a3, .int .u32 a4] (0, 0) _ rfl h3 Tryz.underlying38 rfl (by kernel_rfl) .nil))) rfl ?_
 exact ⟨rfl, m0, b0⟩) : P := h
theorem e144 {P : Prop} (h : P := by
 rintro w' ⟨s0, s1, s2, s3, s4, s5, s6, s7, s8⟩
 go_simp
 with_reducible rfl) : P := h
set_option maxHeartbeats 2000000 in
theorem next_stop (n x1 x2 : Int) (x0 x3 : Bool) (hi : 0 ≤ x2 ∧ x2 ≤ 1000) (hge : x2 + 1 ≥ n) (w : World) : Calls Tryz.prog 184 #[.agg #[.int .i64 n], .agg #[.bool x0, .int .i64 x1, .int .i64 x2, .bool x3]] w fun e w' => e = .returned (.agg #[.bool false, .int .i64 0, .int .i64 0, .bool false]) ∧ Below w.heap.size w w' := by
 obtain ⟨b, hb⟩ : ∃ b, b = w.heap.size := ⟨_, rfl⟩
 obtain ⟨W, hW⟩ : ∃ W, W = (((w.alloc (.cells #[.int .i64 n] 94)).alloc (.cells #[.bool x0, .int .i64 x1, .int .i64 x2, .bool x3] 49)).alloc (.cells #[.bool false, .int .i64 0, .int .i64 0, .bool false] 49)) := ⟨_, rfl⟩
 have hx0 : W.heap[b]? = some (.cells #[.int .i64 n] 94 (0, 0)) := by
  rw [hW, hb]
  refine blk_alloc (blk_alloc ?_ _) _
  simpa using heap_alloc_new w (.cells #[.int .i64 n] 94)
 have hx1 : W.heap[b + 1]? = some (.cells #[.bool x0, .int .i64 x1, .int .i64 x2, .bool x3] 49 (0, 0)) := by
  rw [hW, hb]
  refine blk_alloc ?_ _
  simpa using heap_alloc_new (w.alloc (.cells #[.int .i64 n] 94)) (.cells #[.bool x0, .int .i64 x1, .int .i64 x2, .bool x3] 49)
 have hx2 : W.heap[b + 1 + 1]? = some (.cells #[.bool false, .int .i64 0, .int .i64 0, .bool false] 49 (0, 0)) := by
  rw [hW, hb]
  simpa using heap_alloc_new ((w.alloc (.cells #[.int .i64 n] 94)).alloc (.cells #[.bool x0, .int .i64 x1, .int .i64 x2, .bool x3] 49)) (.cells #[.bool false, .int .i64 0, .int .i64 0, .bool false] 49)
 have hbs : w.heap.size ≤ b := Nat.le_of_eq hb.symm
 have hwr : wrap64 (x2 + 1) = x2 + 1 := by unfold wrap64; omega
 have hgb : decide (x2 + 1 ≥ n) = true := decide_eq_true hge
 have hB : But w.heap.size w W := by rw [hW]; exact (((But.refl _ w).alloc _).alloc _).alloc _
 have q0_0 := cell_of_heap (j := 0) hx0 rfl
 have q1_0 := cell_of_heap (j := 0) hx1 rfl
 have q1_1 := cell_of_heap (j := 1) hx1 rfl
 have q1_2 := cell_of_heap (j := 2) hx1 rfl
 have q1_3 := cell_of_heap (j := 3) hx1 rfl
 have q2_0 := cell_of_heap (j := 0) hx2 rfl
 have q2_1 := cell_of_heap (j := 1) hx2 rfl
 have q2_2 := cell_of_heap (j := 2) hx2 rfl
 have q2_3 := cell_of_heap (j := 3) hx2 rfl
 have y1_0 := blk_frozen hx1 0
 have y1_1 := blk_frozen hx1 1
 have y1_2 := blk_frozen hx1 2
 have y1_3 := blk_frozen hx1 3
 have y2_0 := blk_frozen hx2 0
 have y2_1 := blk_frozen hx2 1
 have y2_2 := blk_frozen hx2 2
 have y2_3 := blk_frozen hx2 3
 replace hge := Lib.hid hge
 go_enter Tryz.func184, Tryz.ntmps184
 go_upto_region 1 with (fail)
 rw [← hW, ← hb]
 replace hb := Lib.hid hb
 replace hW := Lib.hid hW
 replace hx0 := Lib.hid hx0
 replace hx1 := Lib.hid hx1
 replace hx2 := Lib.hid hx2
 replace hB := Lib.hid hB
 go_wp2
 have h2 := hx2.out
 have hb0 := hB.out
 replace h2 := blk_far h2 (p := ⟨b + 1, 3, none⟩) (by show b + 1 + 1 ≠ b + 1; omega) (.bool false)
 replace h2 := blk_far h2 (p := ⟨b + 1, 2, none⟩) (by show b + 1 + 1 ≠ b + 1; omega) (.int .i64 (x2 + 1))
 replace h2 := blk_set h2 0 (.bool false)
 replace h2 := blk_set h2 1 (.int .i64 0)
 replace h2 := blk_set h2 2 (.int .i64 0)
 replace h2 := blk_set h2 3 (.bool false)
 replace hb0 := hb0.set ⟨b + 1, 3, none⟩ (by right; show w.heap.size ≤ b + 1; omega) (.bool false)
 replace hb0 := hb0.set ⟨b + 1, 2, none⟩ (by right; show w.heap.size ≤ b + 1; omega) (.int .i64 (x2 + 1))
 replace hb0 := hb0.set ⟨b + 1 + 1, 0, none⟩ (by right; show w.heap.size ≤ b + 1 + 1; omega) (.bool false)
 replace hb0 := hb0.set ⟨b + 1 + 1, 1, none⟩ (by right; show w.heap.size ≤ b + 1 + 1; omega) (.int .i64 0)
 replace hb0 := hb0.set ⟨b + 1 + 1, 2, none⟩ (by right; show w.heap.size ≤ b + 1 + 1; omega) (.int .i64 0)
 replace hb0 := hb0.set ⟨b + 1 + 1, 3, none⟩ (by right; show w.heap.size ≤ b + 1 + 1; omega) (.bool false)
 (try simp only [Exit.inBlock, Exit.then])
 refine bodyPost_ret (results_single rfl (.cell (b + 1 + 1) 49 #[.bool false, .int .i64 0, .int .i64 0, .bool false] (0, 0) _ rfl h2 Tryz.underlying49 rfl (by kernel_rfl) .nil)) rfl ?_
 exact e140
set_option maxHeartbeats 2000000 in
theorem next_on (n x1 x2 : Int) (x0 x3 : Bool) (hi : 0 ≤ x2 ∧ x2 ≤ 1000) (hge : ¬ x2 + 1 ≥ n) (w : World) : Calls Tryz.prog 184 #[.agg #[.int .i64 n], .agg #[.bool x0, .int .i64 x1, .int .i64 x2, .bool x3]] w fun e w' => e = .returned (.agg #[.bool x0, .int .i64 x1, .int .i64 (x2 + 1), .bool false]) ∧ Below w.heap.size w w' := by
 obtain ⟨b, hb⟩ : ∃ b, b = w.heap.size := ⟨_, rfl⟩
 obtain ⟨W, hW⟩ : ∃ W, W = (((w.alloc (.cells #[.int .i64 n] 94)).alloc (.cells #[.bool x0, .int .i64 x1, .int .i64 x2, .bool x3] 49)).alloc (.cells #[.bool false, .int .i64 0, .int .i64 0, .bool false] 49)) := ⟨_, rfl⟩
 have hx0 : W.heap[b]? = some (.cells #[.int .i64 n] 94 (0, 0)) := by
  rw [hW, hb]
  refine blk_alloc (blk_alloc ?_ _) _
  simpa using heap_alloc_new w (.cells #[.int .i64 n] 94)
 have hx1 : W.heap[b + 1]? = some (.cells #[.bool x0, .int .i64 x1, .int .i64 x2, .bool x3] 49 (0, 0)) := by
  rw [hW, hb]
  refine blk_alloc ?_ _
  simpa using heap_alloc_new (w.alloc (.cells #[.int .i64 n] 94)) (.cells #[.bool x0, .int .i64 x1, .int .i64 x2, .bool x3] 49)
 have hx2 : W.heap[b + 1 + 1]? = some (.cells #[.bool false, .int .i64 0, .int .i64 0, .bool false] 49 (0, 0)) := by
  rw [hW, hb]
  simpa using heap_alloc_new ((w.alloc (.cells #[.int .i64 n] 94)).alloc (.cells #[.bool x0, .int .i64 x1, .int .i64 x2, .bool x3] 49)) (.cells #[.bool false, .int .i64 0, .int .i64 0, .bool false] 49)
 have hbs : w.heap.size ≤ b := Nat.le_of_eq hb.symm
 have hwr : wrap64 (x2 + 1) = x2 + 1 := by unfold wrap64; omega
 have hgb : decide (x2 + 1 ≥ n) = false := decide_eq_false hge
 have hB : But w.heap.size w W := by rw [hW]; exact (((But.refl _ w).alloc _).alloc _).alloc _
 have q0_0 := cell_of_heap (j := 0) hx0 rfl
 have q1_0 := cell_of_heap (j := 0) hx1 rfl
 have q1_1 := cell_of_heap (j := 1) hx1 rfl
 have q1_2 := cell_of_heap (j := 2) hx1 rfl
 have q1_3 := cell_of_heap (j := 3) hx1 rfl
 have q2_0 := cell_of_heap (j := 0) hx2 rfl
 have q2_1 := cell_of_heap (j := 1) hx2 rfl
 have q2_2 := cell_of_heap (j := 2) hx2 rfl
 have q2_3 := cell_of_heap (j := 3) hx2 rfl
 have y1_0 := blk_frozen hx1 0
 have y1_1 := blk_frozen hx1 1
 have y1_2 := blk_frozen hx1 2
 have y1_3 := blk_frozen hx1 3
 have y2_0 := blk_frozen hx2 0
 have y2_1 := blk_frozen hx2 1
 have y2_2 := blk_frozen hx2 2
 have y2_3 := blk_frozen hx2 3
 replace hge := Lib.hid hge
 go_enter Tryz.func184, Tryz.ntmps184
 go_upto_region 1 with (fail)
 rw [← hW, ← hb]
 replace hb := Lib.hid hb
 replace hW := Lib.hid hW
 replace hx0 := Lib.hid hx0
 replace hx1 := Lib.hid hx1
 replace hx2 := Lib.hid hx2
 replace hB := Lib.hid hB
 go_wp2
 have h2 := hx2.out
 have hb0 := hB.out
 replace h2 := blk_far h2 (p := ⟨b + 1, 3, none⟩) (by show b + 1 + 1 ≠ b + 1; omega) (.bool false)
 replace h2 := blk_far h2 (p := ⟨b + 1, 2, none⟩) (by show b + 1 + 1 ≠ b + 1; omega) (.int .i64 (x2 + 1))
 replace h2 := blk_set h2 0 (.bool x0)
 replace h2 := blk_set h2 1 (.int .i64 x1)
 replace h2 := blk_set h2 2 (.int .i64 (x2 + 1))
 replace h2 := blk_set h2 3 (.bool false)
 replace hb0 := hb0.set ⟨b + 1, 3, none⟩ (by right; show w.heap.size ≤ b + 1; omega) (.bool false)
 replace hb0 := hb0.set ⟨b + 1, 2, none⟩ (by right; show w.heap.size ≤ b + 1; omega) (.int .i64 (x2 + 1))
 replace hb0 := hb0.set ⟨b + 1 + 1, 0, none⟩ (by right; show w.heap.size ≤ b + 1 + 1; omega) (.bool x0)
 replace hb0 := hb0.set ⟨b + 1 + 1, 1, none⟩ (by right; show w.heap.size ≤ b + 1 + 1; omega) (.int .i64 x1)
 replace hb0 := hb0.set ⟨b + 1 + 1, 2, none⟩ (by right; show w.heap.size ≤ b + 1 + 1; omega) (.int .i64 (x2 + 1))
 replace hb0 := hb0.set ⟨b + 1 + 1, 3, none⟩ (by right; show w.heap.size ≤ b + 1 + 1; omega) (.bool false)
 (try simp only [Exit.inBlock, Exit.then])
 refine bodyPost_ret (results_single rfl (.cell (b + 1 + 1) 49 #[.bool x0, .int .i64 x1, .int .i64 (x2 + 1), .bool false] (0, 0) _ rfl h2 Tryz.underlying49 rfl (by kernel_rfl) .nil)) rfl ?_
 exact e140
set_option maxHeartbeats 2000000 in
theorem next_walk (n : Int) (x : WakeSt) (hi : 0 ≤ x.i ∧ x.i ≤ 1000) (w : World) : Calls Tryz.prog 184 #[.agg #[.int .i64 n], wakeV x] w fun e w' => e = .returned (wakeV (wakeNext n x)) ∧ Below w.heap.size w w' := by
 obtain ⟨x0, x1, x2, x3⟩ := x
 unfold wakeNext
 by_cases hge : x2 + 1 ≥ n
 ·rw [if_pos hge]
  exact next_stop n x1 x2 x0 x3 hi hge w
 ·rw [if_neg hge]
  exact next_on n x1 x2 x0 x3 hi hge w
set_option maxHeartbeats 2000000 in
theorem give_walk (h : Mm w pm g l) (n task : Int) : Calls Tryz.prog 183 #[.pointer (some ⟨pm, 0, none⟩), .agg #[.int .i64 n], .int .i64 task] w fun e w' => e = .returned (.tuple #[accV (doAcc l 2 (ppermit n task) 1 0).1, .bool (doAcc l 2 (ppermit n task) 1 0).2.1]) ∧ Mm w' pm g (doAcc l 2 (ppermit n task) 1 0).2.2 ∧ But g w w' := by
 have hwt := fun W' (hW' : Mm W' pm g l) => with_walk hW' n task 2 0 1 0 0 (by omega)
 obtain ⟨l1, hl1⟩ : ∃ l1, l1 = (doAcc l 2 (ppermit n task) 1 0).2.2 := ⟨_, rfl⟩
 obtain ⟨ok, hok⟩ : ∃ ok, ok = (doAcc l 2 (ppermit n task) 1 0).2.1 := ⟨_, rfl⟩
 obtain ⟨a, ha⟩ : ∃ a, a = (doAcc l 2 (ppermit n task) 1 0).1 := ⟨_, rfl⟩
 rw [← hl1, ← hok, ← ha] at hwt
 rw [← hl1, ← hok, ← ha]
 clear hl1 hok ha
 obtain ⟨a0, a1, a2, a3, a4⟩ := a
 obtain ⟨b, hb⟩ : ∃ b, b = w.heap.size := ⟨_, rfl⟩
 obtain ⟨W, hW⟩ : ∃ W, W = ((w.alloc (.cells #[.int .i64 n] 94)).alloc (.cells #[.int .i64 0, .int .i64 0, .int .u32 0, .int .u32 0, .int .u32 0] 38)) := ⟨_, rfl⟩
 have hm : Mm W pm g l := by rw [hW]; exact ((h).alloc _).alloc _
 have hB : But g w W := by rw [hW]; exact ((But.refl g w).alloc _).alloc _
 have hx0 : W.heap[b]? = some (.cells #[.int .i64 n] 94 (0, 0)) := by
  rw [hW, hb]
  refine blk_alloc ?_ _
  simpa using heap_alloc_new w (.cells #[.int .i64 n] 94)
 have hx1 : W.heap[b + 1]? = some (.cells #[.int .i64 0, .int .i64 0, .int .u32 0, .int .u32 0, .int .u32 0] 38 (0, 0)) := by
  rw [hW, hb]
  simpa using heap_alloc_new (w.alloc (.cells #[.int .i64 n] 94)) (.cells #[.int .i64 0, .int .i64 0, .int .u32 0, .int .u32 0, .int .u32 0] 38)
 have hlt := h.lt
 have hbs : w.heap.size ≤ b := Nat.le_of_eq hb.symm
 have n0g : b ≠ g := by omega
 have n0m : b ≠ pm := by omega
 have n1g : b + 1 ≠ g := by omega
 have n1m : b + 1 ≠ pm := by omega
 have q0_0 := cell_of_heap (j := 0) hx0 rfl
 go_enter Tryz.func183, Tryz.ntmps183
 go_upto_region 1 with (fail)
 rw [← hW, ← hb]
 replace h := Lib.hid h
 replace hb := Lib.hid hb
 replace hW := Lib.hid hW
 replace hm := Lib.hid hm
 replace hB := Lib.hid hB
 replace hx0 := Lib.hid hx0
 replace hx1 := Lib.hid hx1
 clear hlt
 replace hwt := Lib.hid hwt
 go_wp2_with (go_at_call 205; refine (hwt.out _ hm.out).mono ?_; rintro e w1 ⟨rfl, hm1, hB1⟩; unfold accV; have hx1a := (hB1.block (b + 1) (blk_lt hx1.out) n1g).trans hx1.out; have hB2 := hB.out.trans hB1; clear hB1 q0_0; have p_0 := cell_of_heap (j := 0) hx1a rfl; have p_1 := cell_of_heap (j := 1) hx1a rfl; have p_2 := cell_of_heap (j := 2) hx1a rfl; have p_3 := cell_of_heap (j := 3) hx1a rfl; have p_4 := cell_of_heap (j := 4) hx1a rfl; have y_0 := blk_frozen hx1a 0; have y_1 := blk_frozen hx1a 1; have y_2 := blk_frozen hx1a 2; have y_3 := blk_frozen hx1a 3; have y_4 := blk_frozen hx1a 4; replace hx1a := Lib.hid hx1a; replace hm1 := Lib.hid hm1; replace hB2 := Lib.hid hB2)
 have e0 := hx1a.out
 have m0 := hm1.out
 have b0 := hB2.out
 replace e0 := blk_set e0 0 (.int .i64 a0)
 replace m0 := m0.far ⟨b + 1, 0, none⟩ (by show b + 1 ≠ pm; omega) (by show b + 1 ≠ g; omega) (.int .i64 a0)
 replace b0 := b0.set ⟨b + 1, 0, none⟩ (by right; show w.heap.size ≤ b + 1; omega) (.int .i64 a0)
 replace e0 := blk_set e0 1 (.int .i64 a1)
 replace m0 := m0.far ⟨b + 1, 1, none⟩ (by show b + 1 ≠ pm; omega) (by show b + 1 ≠ g; omega) (.int .i64 a1)
 replace b0 := b0.set ⟨b + 1, 1, none⟩ (by right; show w.heap.size ≤ b + 1; omega) (.int .i64 a1)
 replace e0 := blk_set e0 2 (.int .u32 a2)
 replace m0 := m0.far ⟨b + 1, 2, none⟩ (by show b + 1 ≠ pm; omega) (by show b + 1 ≠ g; omega) (.int .u32 a2)
 replace b0 := b0.set ⟨b + 1, 2, none⟩ (by right; show w.heap.size ≤ b + 1; omega) (.int .u32 a2)
 replace e0 := blk_set e0 3 (.int .u32 a3)
 replace m0 := m0.far ⟨b + 1, 3, none⟩ (by show b + 1 ≠ pm; omega) (by show b + 1 ≠ g; omega) (.int .u32 a3)
 replace b0 := b0.set ⟨b + 1, 3, none⟩ (by right; show w.heap.size ≤ b + 1; omega) (.int .u32 a3)
 replace e0 := blk_set e0 4 (.int .u32 a4)
 replace m0 := m0.far ⟨b + 1, 4, none⟩ (by show b + 1 ≠ pm; omega) (by show b + 1 ≠ g; omega) (.int .u32 a4)
 replace b0 := b0.set ⟨b + 1, 4, none⟩ (by right; show w.heap.size ≤ b + 1; omega) (.int .u32 a4)
 (try simp only [Exit.inBlock, Exit.then])
 refine bodyPost_ret (results_ct rfl _ _ (b + 1) 38 #[.int .i64 a0, .int .i64 a1, .int .u32 a2, .int .u32 a3, .int .u32 a4] (0, 0) _ rfl e0 Tryz.underlying38 rfl (by kernel_rfl)) rfl ?_
 exact ⟨rfl, m0, b0⟩
set_option maxHeartbeats 2000000 in
theorem wkstep_off (h : Mm w pm g l) (n x1 x2 : Int) (x3 : Bool) : Calls Tryz.prog 145 #[.pointer (some ⟨pm, 0, none⟩), .agg #[.int .i64 n], .agg #[.bool false, .int .i64 x1, .int .i64 x2, .bool x3]] w fun e w' => e = .returned (.tuple #[.agg #[.bool false, .int .i64 0, .int .i64 0, .bool false], .agg #[.int .i64 0, .int .i64 0, .int .u32 0, .int .u32 0, .int .u32 0]]) ∧ Mm w' pm g l ∧ But g w w' := by
 obtain ⟨b, hb⟩ : ∃ b, b = w.heap.size := ⟨_, rfl⟩
 obtain ⟨W, hW⟩ : ∃ W, W = (((((w.alloc (.cells #[.int .i64 n] 94)).alloc (.cells #[.bool false, .int .i64 x1, .int .i64 x2, .bool x3] 49)).alloc (.cells #[.bool false, .int .i64 0, .int .i64 0, .bool false] 49)).alloc (.cells #[.int .i64 0, .int .i64 0, .int .u32 0, .int .u32 0, .int .u32 0] 38)).alloc (.cells #[.bool false, .int .i64 0, .int .i64 0, .bool false] 49)) := ⟨_, rfl⟩
 have hm : Mm W pm g l := by rw [hW]; exact (((((h).alloc _).alloc _).alloc _).alloc _).alloc _
 have hB : But g w W := by rw [hW]; exact (((((But.refl g w).alloc _).alloc _).alloc _).alloc _).alloc _
 have hx0 : W.heap[b]? = some (.cells #[.int .i64 n] 94 (0, 0)) := by
  rw [hW, hb]
  refine blk_alloc (blk_alloc (blk_alloc (blk_alloc ?_ _) _) _) _
  simpa using heap_alloc_new w (.cells #[.int .i64 n] 94)
 have hx1 : W.heap[b + 1]? = some (.cells #[.bool false, .int .i64 x1, .int .i64 x2, .bool x3] 49 (0, 0)) := by
  rw [hW, hb]
  refine blk_alloc (blk_alloc (blk_alloc ?_ _) _) _
  simpa using heap_alloc_new (w.alloc (.cells #[.int .i64 n] 94)) (.cells #[.bool false, .int .i64 x1, .int .i64 x2, .bool x3] 49)
 have hx2 : W.heap[b + 1 + 1]? = some (.cells #[.bool false, .int .i64 0, .int .i64 0, .bool false] 49 (0, 0)) := by
  rw [hW, hb]
  refine blk_alloc (blk_alloc ?_ _) _
  simpa using heap_alloc_new ((w.alloc (.cells #[.int .i64 n] 94)).alloc (.cells #[.bool false, .int .i64 x1, .int .i64 x2, .bool x3] 49)) (.cells #[.bool false, .int .i64 0, .int .i64 0, .bool false] 49)
 have hx3 : W.heap[b + 1 + 1 + 1]? = some (.cells #[.int .i64 0, .int .i64 0, .int .u32 0, .int .u32 0, .int .u32 0] 38 (0, 0)) := by
  rw [hW, hb]
  refine blk_alloc ?_ _
  simpa using heap_alloc_new (((w.alloc (.cells #[.int .i64 n] 94)).alloc (.cells #[.bool false, .int .i64 x1, .int .i64 x2, .bool x3] 49)).alloc (.cells #[.bool false, .int .i64 0, .int .i64 0, .bool false] 49)) (.cells #[.int .i64 0, .int .i64 0, .int .u32 0, .int .u32 0, .int .u32 0] 38)
 have hx4 : W.heap[b + 1 + 1 + 1 + 1]? = some (.cells #[.bool false, .int .i64 0, .int .i64 0, .bool false] 49 (0, 0)) := by
  rw [hW, hb]
  simpa using heap_alloc_new ((((w.alloc (.cells #[.int .i64 n] 94)).alloc (.cells #[.bool false, .int .i64 x1, .int .i64 x2, .bool x3] 49)).alloc (.cells #[.bool false, .int .i64 0, .int .i64 0, .bool false] 49)).alloc (.cells #[.int .i64 0, .int .i64 0, .int .u32 0, .int .u32 0, .int .u32 0] 38)) (.cells #[.bool false, .int .i64 0, .int .i64 0, .bool false] 49)
 have hlt := h.lt
 have hbs : w.heap.size ≤ b := Nat.le_of_eq hb.symm
 have n0g : b ≠ g := by omega
 have n0m : b ≠ pm := by omega
 have n1g : b + 1 ≠ g := by omega
 have n1m : b + 1 ≠ pm := by omega
 have n2g : b + 1 + 1 ≠ g := by omega
 have n2m : b + 1 + 1 ≠ pm := by omega
 have n3g : b + 1 + 1 + 1 ≠ g := by omega
 have n3m : b + 1 + 1 + 1 ≠ pm := by omega
 have n4g : b + 1 + 1 + 1 + 1 ≠ g := by omega
 have n4m : b + 1 + 1 + 1 + 1 ≠ pm := by omega
 have q0_0 := cell_of_heap (j := 0) hx0 rfl
 have q1_0 := cell_of_heap (j := 0) hx1 rfl
 have q1_1 := cell_of_heap (j := 1) hx1 rfl
 have q1_2 := cell_of_heap (j := 2) hx1 rfl
 have q1_3 := cell_of_heap (j := 3) hx1 rfl
 have q2_0 := cell_of_heap (j := 0) hx2 rfl
 have q2_1 := cell_of_heap (j := 1) hx2 rfl
 have q2_2 := cell_of_heap (j := 2) hx2 rfl
 have q2_3 := cell_of_heap (j := 3) hx2 rfl
 have q3_0 := cell_of_heap (j := 0) hx3 rfl
 have q3_1 := cell_of_heap (j := 1) hx3 rfl
 have q3_2 := cell_of_heap (j := 2) hx3 rfl
 have q3_3 := cell_of_heap (j := 3) hx3 rfl
 have q3_4 := cell_of_heap (j := 4) hx3 rfl
 have q4_0 := cell_of_heap (j := 0) hx4 rfl
 have q4_1 := cell_of_heap (j := 1) hx4 rfl
 have q4_2 := cell_of_heap (j := 2) hx4 rfl
 have q4_3 := cell_of_heap (j := 3) hx4 rfl
 have y1_0 := blk_frozen hx1 0
 have y1_1 := blk_frozen hx1 1
 have y1_2 := blk_frozen hx1 2
 have y1_3 := blk_frozen hx1 3
 have y2_0 := blk_frozen hx2 0
 have y2_1 := blk_frozen hx2 1
 have y2_2 := blk_frozen hx2 2
 have y2_3 := blk_frozen hx2 3
 have y3_0 := blk_frozen hx3 0
 have y3_1 := blk_frozen hx3 1
 have y3_2 := blk_frozen hx3 2
 have y3_3 := blk_frozen hx3 3
 have y3_4 := blk_frozen hx3 4
 go_enter Tryz.func145, Tryz.ntmps145
 go_upto_region 2 with (fail)
 rw [← hW, ← hb]
 replace h := Lib.hid h
 replace hb := Lib.hid hb
 replace hW := Lib.hid hW
 replace hm := Lib.hid hm
 replace hB := Lib.hid hB
 replace hx0 := Lib.hid hx0
 replace hx1 := Lib.hid hx1
 replace hx2 := Lib.hid hx2
 replace hx3 := Lib.hid hx3
 replace hx4 := Lib.hid hx4
 clear hlt
 go_wp2
 have h2 := hx2.out
 have h3 := hx3.out
 have m0 := hm.out
 have b0 := hB.out
 exact e141
set_option maxHeartbeats 2000000 in
theorem wkstep_hit_no (h : Mm w pm g l) (n x1 x2 : Int) {l1 : List Int} (a0 a1 a2 a3 a4 : Int) (hgv : ∀ W', Mm W' pm g l → Calls Tryz.prog 183 #[.pointer (some ⟨pm, 0, none⟩), .agg #[.int .i64 n], .int .i64 x2] W' fun e w' => e = .returned (.tuple #[.agg #[.int .i64 a0, .int .i64 a1, .int .u32 a2, .int .u32 a3, .int .u32 a4], .bool false]) ∧ Mm w' pm g l1 ∧ But g W' w') : Calls Tryz.prog 145 #[.pointer (some ⟨pm, 0, none⟩), .agg #[.int .i64 n], .agg #[.bool true, .int .i64 x1, .int .i64 x2, .bool true]] w fun e w' => e = .returned (.tuple #[.agg #[.bool false, .int .i64 0, .int .i64 0, .bool false], .agg #[.int .i64 0, .int .i64 0, .int .u32 0, .int .u32 0, .int .u32 0]]) ∧ Mm w' pm g l1 ∧ But g w w' := by
 obtain ⟨b, hb⟩ : ∃ b, b = w.heap.size := ⟨_, rfl⟩
 obtain ⟨W, hW⟩ : ∃ W, W = (((((w.alloc (.cells #[.int .i64 n] 94)).alloc (.cells #[.bool true, .int .i64 x1, .int .i64 x2, .bool true] 49)).alloc (.cells #[.bool false, .int .i64 0, .int .i64 0, .bool false] 49)).alloc (.cells #[.int .i64 0, .int .i64 0, .int .u32 0, .int .u32 0, .int .u32 0] 38)).alloc (.cells #[.bool false, .int .i64 0, .int .i64 0, .bool false] 49)) := ⟨_, rfl⟩
 have hm : Mm W pm g l := by rw [hW]; exact (((((h).alloc _).alloc _).alloc _).alloc _).alloc _
 have hB : But g w W := by rw [hW]; exact (((((But.refl g w).alloc _).alloc _).alloc _).alloc _).alloc _
 have hx0 : W.heap[b]? = some (.cells #[.int .i64 n] 94 (0, 0)) := by
  rw [hW, hb]
  refine blk_alloc (blk_alloc (blk_alloc (blk_alloc ?_ _) _) _) _
  simpa using heap_alloc_new w (.cells #[.int .i64 n] 94)
 have hx1 : W.heap[b + 1]? = some (.cells #[.bool true, .int .i64 x1, .int .i64 x2, .bool true] 49 (0, 0)) := by
  rw [hW, hb]
  refine blk_alloc (blk_alloc (blk_alloc ?_ _) _) _
  simpa using heap_alloc_new (w.alloc (.cells #[.int .i64 n] 94)) (.cells #[.bool true, .int .i64 x1, .int .i64 x2, .bool true] 49)
 have hx2 : W.heap[b + 1 + 1]? = some (.cells #[.bool false, .int .i64 0, .int .i64 0, .bool false] 49 (0, 0)) := by
  rw [hW, hb]
  refine blk_alloc (blk_alloc ?_ _) _
  simpa using heap_alloc_new ((w.alloc (.cells #[.int .i64 n] 94)).alloc (.cells #[.bool true, .int .i64 x1, .int .i64 x2, .bool true] 49)) (.cells #[.bool false, .int .i64 0, .int .i64 0, .bool false] 49)
 have hx3 : W.heap[b + 1 + 1 + 1]? = some (.cells #[.int .i64 0, .int .i64 0, .int .u32 0, .int .u32 0, .int .u32 0] 38 (0, 0)) := by
  rw [hW, hb]
  refine blk_alloc ?_ _
  simpa using heap_alloc_new (((w.alloc (.cells #[.int .i64 n] 94)).alloc (.cells #[.bool true, .int .i64 x1, .int .i64 x2, .bool true] 49)).alloc (.cells #[.bool false, .int .i64 0, .int .i64 0, .bool false] 49)) (.cells #[.int .i64 0, .int .i64 0, .int .u32 0, .int .u32 0, .int .u32 0] 38)
 have hx4 : W.heap[b + 1 + 1 + 1 + 1]? = some (.cells #[.bool false, .int .i64 0, .int .i64 0, .bool false] 49 (0, 0)) := by
  rw [hW, hb]
  simpa using heap_alloc_new ((((w.alloc (.cells #[.int .i64 n] 94)).alloc (.cells #[.bool true, .int .i64 x1, .int .i64 x2, .bool true] 49)).alloc (.cells #[.bool false, .int .i64 0, .int .i64 0, .bool false] 49)).alloc (.cells #[.int .i64 0, .int .i64 0, .int .u32 0, .int .u32 0, .int .u32 0] 38)) (.cells #[.bool false, .int .i64 0, .int .i64 0, .bool false] 49)
 have hlt := h.lt
 have hbs : w.heap.size ≤ b := Nat.le_of_eq hb.symm
 have n0g : b ≠ g := by omega
 have n0m : b ≠ pm := by omega
 have n1g : b + 1 ≠ g := by omega
 have n1m : b + 1 ≠ pm := by omega
 have n2g : b + 1 + 1 ≠ g := by omega
 have n2m : b + 1 + 1 ≠ pm := by omega
 have n3g : b + 1 + 1 + 1 ≠ g := by omega
 have n3m : b + 1 + 1 + 1 ≠ pm := by omega
 have n4g : b + 1 + 1 + 1 + 1 ≠ g := by omega
 have n4m : b + 1 + 1 + 1 + 1 ≠ pm := by omega
 have q0_0 := cell_of_heap (j := 0) hx0 rfl
 have q1_0 := cell_of_heap (j := 0) hx1 rfl
 have q1_1 := cell_of_heap (j := 1) hx1 rfl
 have q1_2 := cell_of_heap (j := 2) hx1 rfl
 have q1_3 := cell_of_heap (j := 3) hx1 rfl
 have q2_0 := cell_of_heap (j := 0) hx2 rfl
 have q2_1 := cell_of_heap (j := 1) hx2 rfl
 have q2_2 := cell_of_heap (j := 2) hx2 rfl
 have q2_3 := cell_of_heap (j := 3) hx2 rfl
 have q3_0 := cell_of_heap (j := 0) hx3 rfl
 have q3_1 := cell_of_heap (j := 1) hx3 rfl
 have q3_2 := cell_of_heap (j := 2) hx3 rfl
 have q3_3 := cell_of_heap (j := 3) hx3 rfl
 have q3_4 := cell_of_heap (j := 4) hx3 rfl
 have q4_0 := cell_of_heap (j := 0) hx4 rfl
 have q4_1 := cell_of_heap (j := 1) hx4 rfl
 have q4_2 := cell_of_heap (j := 2) hx4 rfl
 have q4_3 := cell_of_heap (j := 3) hx4 rfl
 have y1_0 := blk_frozen hx1 0
 have y1_1 := blk_frozen hx1 1
 have y1_2 := blk_frozen hx1 2
 have y1_3 := blk_frozen hx1 3
 have y2_0 := blk_frozen hx2 0
 have y2_1 := blk_frozen hx2 1
 have y2_2 := blk_frozen hx2 2
 have y2_3 := blk_frozen hx2 3
 have y3_0 := blk_frozen hx3 0
 have y3_1 := blk_frozen hx3 1
 have y3_2 := blk_frozen hx3 2
 have y3_3 := blk_frozen hx3 3
 have y3_4 := blk_frozen hx3 4
 go_enter Tryz.func145, Tryz.ntmps145
 go_upto_region 2 with (fail)
 rw [← hW, ← hb]
 replace h := Lib.hid h
 replace hb := Lib.hid hb
 replace hW := Lib.hid hW
 replace hm := Lib.hid hm
 replace hB := Lib.hid hB
 replace hx0 := Lib.hid hx0
 replace hx1 := Lib.hid hx1
 replace hx2 := Lib.hid hx2
 replace hx3 := Lib.hid hx3
 replace hx4 := Lib.hid hx4
 clear hlt
 replace hgv := Lib.hid hgv
 go_upto_region 6 with (go_at_call 183; go_must (refine (hgv.out _ hm.out).mono ?_; rintro e w1 ⟨rfl, hm1, hB1⟩; have hx0a := (hB1.block (b) (blk_lt hx0.out) n0g).trans hx0.out; have hx1a := (hB1.block (b + 1) (blk_lt hx1.out) n1g).trans hx1.out; have hx2a := (hB1.block (b + 1 + 1) (blk_lt hx2.out) n2g).trans hx2.out; have hx3a := (hB1.block (b + 1 + 1 + 1) (blk_lt hx3.out) n3g).trans hx3.out; have hx4a := (hB1.block (b + 1 + 1 + 1 + 1) (blk_lt hx4.out) n4g).trans hx4.out; have hB2 := hB.out.trans hB1; clear hB1; clear q0_0 q1_0 q1_1 q1_2 q1_3 q2_0 q2_1 q2_2 q2_3 q3_0 q3_1 q3_2 q3_3 q3_4 q4_0 q4_1 q4_2 q4_3 y1_0 y1_1 y1_2 y1_3 y2_0 y2_1 y2_2 y2_3 y3_0 y3_1 y3_2 y3_3 y3_4; have hsz1 : b + 1 + 1 + 1 + 1 < w1.heap.size := blk_lt hx4a; replace hx0a := Lib.hid hx0a; replace hx1a := Lib.hid hx1a; replace hx2a := Lib.hid hx2a; replace hx3a := Lib.hid hx3a; replace hx4a := Lib.hid hx4a; replace hm1 := Lib.hid hm1; replace hB2 := Lib.hid hB2))
 obtain ⟨ka, hka⟩ : ∃ ka, ka = w1.heap.size := ⟨_, rfl⟩
 rw [← hka]
 have hkl : b + 1 + 1 + 1 + 1 < ka := by rw [hka]; exact blk_lt hx4a.out
 have ea2 : ka ≠ b + 1 + 1 := by omega
 have e02 : b ≠ b + 1 + 1 := by omega
 have e12 : b + 1 ≠ b + 1 + 1 := by omega
 have ga : (w1.alloc (.cells #[.int .i64 a0, .int .i64 a1, .int .u32 a2, .int .u32 a3, .int .u32 a4] 38)).heap[ka]? = some (.cells #[.int .i64 a0, .int .i64 a1, .int .u32 a2, .int .u32 a3, .int .u32 a4] 38 (0, 0)) := by rw [hka]; exact heap_alloc_new _ _
 have g0 := blk_alloc hx0a.out (.cells #[.int .i64 a0, .int .i64 a1, .int .u32 a2, .int .u32 a3, .int .u32 a4] 38)
 have g1 := blk_alloc hx1a.out (.cells #[.int .i64 a0, .int .i64 a1, .int .u32 a2, .int .u32 a3, .int .u32 a4] 38)
 have g2 := blk_alloc hx2a.out (.cells #[.int .i64 a0, .int .i64 a1, .int .u32 a2, .int .u32 a3, .int .u32 a4] 38)
 have g3 := blk_alloc hx3a.out (.cells #[.int .i64 a0, .int .i64 a1, .int .u32 a2, .int .u32 a3, .int .u32 a4] 38)
 have g4 := blk_alloc hx4a.out (.cells #[.int .i64 a0, .int .i64 a1, .int .u32 a2, .int .u32 a3, .int .u32 a4] 38)
 have mN := hm1.out.alloc (.cells #[.int .i64 a0, .int .i64 a1, .int .u32 a2, .int .u32 a3, .int .u32 a4] 38)
 have bN := hB2.out.alloc (.cells #[.int .i64 a0, .int .i64 a1, .int .u32 a2, .int .u32 a3, .int .u32 a4] 38)
 replace hka := Lib.hid hka
 generalize (w1.alloc (.cells #[.int .i64 a0, .int .i64 a1, .int .u32 a2, .int .u32 a3, .int .u32 a4] 38)) = W2 at ga g0 g1 g2 g3 g4 mN bN ⊢
 have q4_0 := cell_of_heap (j := 0) g4 rfl
 have q4_1 := cell_of_heap (j := 1) g4 rfl
 have q4_2 := cell_of_heap (j := 2) g4 rfl
 have q4_3 := cell_of_heap (j := 3) g4 rfl
 have y2_0 := blk_frozen g2 0
 have y2_1 := blk_frozen g2 1
 have y2_2 := blk_frozen g2 2
 have y2_3 := blk_frozen g2 3
 have y3_0 := blk_frozen g3 0
 have y3_1 := blk_frozen g3 1
 have y3_2 := blk_frozen g3 2
 have y3_3 := blk_frozen g3 3
 have y3_4 := blk_frozen g3 4
 have q2_0 := cell_of_heap (j := 0) g2 rfl
 have q2_1 := cell_of_heap (j := 1) g2 rfl
 have q2_2 := cell_of_heap (j := 2) g2 rfl
 have q2_3 := cell_of_heap (j := 3) g2 rfl
 have q3_0 := cell_of_heap (j := 0) g3 rfl
 have q3_1 := cell_of_heap (j := 1) g3 rfl
 have q3_2 := cell_of_heap (j := 2) g3 rfl
 have q3_3 := cell_of_heap (j := 3) g3 rfl
 have q3_4 := cell_of_heap (j := 4) g3 rfl
 go_wp2
 have h2 := g2
 have h3 := g3
 have m0 := mN
 have b0 := bN
 exact e141
set_option maxHeartbeats 2000000 in
theorem wkstep_hit_ok (h : Mm w pm g l) (n x1 x2 : Int) {l1 : List Int} (a0 a1 a2 a3 a4 : Int) (hgv : ∀ W', Mm W' pm g l → Calls Tryz.prog 183 #[.pointer (some ⟨pm, 0, none⟩), .agg #[.int .i64 n], .int .i64 x2] W' fun e w' => e = .returned (.tuple #[.agg #[.int .i64 a0, .int .i64 a1, .int .u32 a2, .int .u32 a3, .int .u32 a4], .bool true]) ∧ Mm w' pm g l1 ∧ But g W' w') (y0 y3 : Bool) (y1 y2 : Int) (hnx : ∀ W', Calls Tryz.prog 184 #[.agg #[.int .i64 n], .agg #[.bool true, .int .i64 x1, .int .i64 x2, .bool true]] W' fun e w' => e = .returned (.agg #[.bool y0, .int .i64 y1, .int .i64 y2, .bool y3]) ∧ Below W'.heap.size W' w') : Calls Tryz.prog 145 #[.pointer (some ⟨pm, 0, none⟩), .agg #[.int .i64 n], .agg #[.bool true, .int .i64 x1, .int .i64 x2, .bool true]] w fun e w' => e = .returned (.tuple #[.agg #[.bool y0, .int .i64 y1, .int .i64 y2, .bool y3], .agg #[.int .i64 a0, .int .i64 a1, .int .u32 a2, .int .u32 a3, .int .u32 a4]]) ∧ Mm w' pm g l1 ∧ But g w w' := by
 obtain ⟨b, hb⟩ : ∃ b, b = w.heap.size := ⟨_, rfl⟩
 obtain ⟨W, hW⟩ : ∃ W, W = (((((w.alloc (.cells #[.int .i64 n] 94)).alloc (.cells #[.bool true, .int .i64 x1, .int .i64 x2, .bool true] 49)).alloc (.cells #[.bool false, .int .i64 0, .int .i64 0, .bool false] 49)).alloc (.cells #[.int .i64 0, .int .i64 0, .int .u32 0, .int .u32 0, .int .u32 0] 38)).alloc (.cells #[.bool false, .int .i64 0, .int .i64 0, .bool false] 49)) := ⟨_, rfl⟩
 have hm : Mm W pm g l := by rw [hW]; exact (((((h).alloc _).alloc _).alloc _).alloc _).alloc _
 have hB : But g w W := by rw [hW]; exact (((((But.refl g w).alloc _).alloc _).alloc _).alloc _).alloc _
 have hx0 : W.heap[b]? = some (.cells #[.int .i64 n] 94 (0, 0)) := by
  rw [hW, hb]
  refine blk_alloc (blk_alloc (blk_alloc (blk_alloc ?_ _) _) _) _
  simpa using heap_alloc_new w (.cells #[.int .i64 n] 94)
 have hx1 : W.heap[b + 1]? = some (.cells #[.bool true, .int .i64 x1, .int .i64 x2, .bool true] 49 (0, 0)) := by
  rw [hW, hb]
  refine blk_alloc (blk_alloc (blk_alloc ?_ _) _) _
  simpa using heap_alloc_new (w.alloc (.cells #[.int .i64 n] 94)) (.cells #[.bool true, .int .i64 x1, .int .i64 x2, .bool true] 49)
 have hx2 : W.heap[b + 1 + 1]? = some (.cells #[.bool false, .int .i64 0, .int .i64 0, .bool false] 49 (0, 0)) := by
  rw [hW, hb]
  refine blk_alloc (blk_alloc ?_ _) _
  simpa using heap_alloc_new ((w.alloc (.cells #[.int .i64 n] 94)).alloc (.cells #[.bool true, .int .i64 x1, .int .i64 x2, .bool true] 49)) (.cells #[.bool false, .int .i64 0, .int .i64 0, .bool false] 49)
 have hx3 : W.heap[b + 1 + 1 + 1]? = some (.cells #[.int .i64 0, .int .i64 0, .int .u32 0, .int .u32 0, .int .u32 0] 38 (0, 0)) := by
  rw [hW, hb]
  refine blk_alloc ?_ _
  simpa using heap_alloc_new (((w.alloc (.cells #[.int .i64 n] 94)).alloc (.cells #[.bool true, .int .i64 x1, .int .i64 x2, .bool true] 49)).alloc (.cells #[.bool false, .int .i64 0, .int .i64 0, .bool false] 49)) (.cells #[.int .i64 0, .int .i64 0, .int .u32 0, .int .u32 0, .int .u32 0] 38)
 have hx4 : W.heap[b + 1 + 1 + 1 + 1]? = some (.cells #[.bool false, .int .i64 0, .int .i64 0, .bool false] 49 (0, 0)) := by
  rw [hW, hb]
  simpa using heap_alloc_new ((((w.alloc (.cells #[.int .i64 n] 94)).alloc (.cells #[.bool true, .int .i64 x1, .int .i64 x2, .bool true] 49)).alloc (.cells #[.bool false, .int .i64 0, .int .i64 0, .bool false] 49)).alloc (.cells #[.int .i64 0, .int .i64 0, .int .u32 0, .int .u32 0, .int .u32 0] 38)) (.cells #[.bool false, .int .i64 0, .int .i64 0, .bool false] 49)
 have hlt := h.lt
 have hbs : w.heap.size ≤ b := Nat.le_of_eq hb.symm
 have n0g : b ≠ g := by omega
 have n0m : b ≠ pm := by omega
 have n1g : b + 1 ≠ g := by omega
 have n1m : b + 1 ≠ pm := by omega
 have n2g : b + 1 + 1 ≠ g := by omega
 have n2m : b + 1 + 1 ≠ pm := by omega
 have n3g : b + 1 + 1 + 1 ≠ g := by omega
 have n3m : b + 1 + 1 + 1 ≠ pm := by omega
 have n4g : b + 1 + 1 + 1 + 1 ≠ g := by omega
 have n4m : b + 1 + 1 + 1 + 1 ≠ pm := by omega
 have q0_0 := cell_of_heap (j := 0) hx0 rfl
 have q1_0 := cell_of_heap (j := 0) hx1 rfl
 have q1_1 := cell_of_heap (j := 1) hx1 rfl
 have q1_2 := cell_of_heap (j := 2) hx1 rfl
 have q1_3 := cell_of_heap (j := 3) hx1 rfl
 have q2_0 := cell_of_heap (j := 0) hx2 rfl
 have q2_1 := cell_of_heap (j := 1) hx2 rfl
 have q2_2 := cell_of_heap (j := 2) hx2 rfl
 have q2_3 := cell_of_heap (j := 3) hx2 rfl
 have q3_0 := cell_of_heap (j := 0) hx3 rfl
 have q3_1 := cell_of_heap (j := 1) hx3 rfl
 have q3_2 := cell_of_heap (j := 2) hx3 rfl
 have q3_3 := cell_of_heap (j := 3) hx3 rfl
 have q3_4 := cell_of_heap (j := 4) hx3 rfl
 have q4_0 := cell_of_heap (j := 0) hx4 rfl
 have q4_1 := cell_of_heap (j := 1) hx4 rfl
 have q4_2 := cell_of_heap (j := 2) hx4 rfl
 have q4_3 := cell_of_heap (j := 3) hx4 rfl
 have y1_0 := blk_frozen hx1 0
 have y1_1 := blk_frozen hx1 1
 have y1_2 := blk_frozen hx1 2
 have y1_3 := blk_frozen hx1 3
 have y2_0 := blk_frozen hx2 0
 have y2_1 := blk_frozen hx2 1
 have y2_2 := blk_frozen hx2 2
 have y2_3 := blk_frozen hx2 3
 have y3_0 := blk_frozen hx3 0
 have y3_1 := blk_frozen hx3 1
 have y3_2 := blk_frozen hx3 2
 have y3_3 := blk_frozen hx3 3
 have y3_4 := blk_frozen hx3 4
 go_enter Tryz.func145, Tryz.ntmps145
 go_upto_region 2 with (fail)
 rw [← hW, ← hb]
 replace h := Lib.hid h
 replace hb := Lib.hid hb
 replace hW := Lib.hid hW
 replace hm := Lib.hid hm
 replace hB := Lib.hid hB
 replace hx0 := Lib.hid hx0
 replace hx1 := Lib.hid hx1
 replace hx2 := Lib.hid hx2
 replace hx3 := Lib.hid hx3
 replace hx4 := Lib.hid hx4
 clear hlt
 replace hgv := Lib.hid hgv
 replace hnx := Lib.hid hnx
 go_upto_region 8 with (go_at_call 183; go_must (refine (hgv.out _ hm.out).mono ?_; rintro e w1 ⟨rfl, hm1, hB1⟩; have hx0a := (hB1.block (b) (blk_lt hx0.out) n0g).trans hx0.out; have hx1a := (hB1.block (b + 1) (blk_lt hx1.out) n1g).trans hx1.out; have hx2a := (hB1.block (b + 1 + 1) (blk_lt hx2.out) n2g).trans hx2.out; have hx3a := (hB1.block (b + 1 + 1 + 1) (blk_lt hx3.out) n3g).trans hx3.out; have hx4a := (hB1.block (b + 1 + 1 + 1 + 1) (blk_lt hx4.out) n4g).trans hx4.out; have hB2 := hB.out.trans hB1; clear hB1; clear q0_0 q1_0 q1_1 q1_2 q1_3 q2_0 q2_1 q2_2 q2_3 q3_0 q3_1 q3_2 q3_3 q3_4 q4_0 q4_1 q4_2 q4_3 y1_0 y1_1 y1_2 y1_3 y2_0 y2_1 y2_2 y2_3 y3_0 y3_1 y3_2 y3_3 y3_4; have hsz1 : b + 1 + 1 + 1 + 1 < w1.heap.size := blk_lt hx4a; replace hx0a := Lib.hid hx0a; replace hx1a := Lib.hid hx1a; replace hx2a := Lib.hid hx2a; replace hx3a := Lib.hid hx3a; replace hx4a := Lib.hid hx4a; replace hm1 := Lib.hid hm1; replace hB2 := Lib.hid hB2))
 obtain ⟨ka, hka⟩ : ∃ ka, ka = w1.heap.size := ⟨_, rfl⟩
 rw [← hka]
 have hkl : b + 1 + 1 + 1 + 1 < ka := by rw [hka]; exact blk_lt hx4a.out
 have ea2 : ka ≠ b + 1 + 1 := by omega
 have e02 : b ≠ b + 1 + 1 := by omega
 have e12 : b + 1 ≠ b + 1 + 1 := by omega
 have ga : (w1.alloc (.cells #[.int .i64 a0, .int .i64 a1, .int .u32 a2, .int .u32 a3, .int .u32 a4] 38)).heap[ka]? = some (.cells #[.int .i64 a0, .int .i64 a1, .int .u32 a2, .int .u32 a3, .int .u32 a4] 38 (0, 0)) := by rw [hka]; exact heap_alloc_new _ _
 have g0 := blk_alloc hx0a.out (.cells #[.int .i64 a0, .int .i64 a1, .int .u32 a2, .int .u32 a3, .int .u32 a4] 38)
 have g1 := blk_alloc hx1a.out (.cells #[.int .i64 a0, .int .i64 a1, .int .u32 a2, .int .u32 a3, .int .u32 a4] 38)
 have g2 := blk_alloc hx2a.out (.cells #[.int .i64 a0, .int .i64 a1, .int .u32 a2, .int .u32 a3, .int .u32 a4] 38)
 have g3 := blk_alloc hx3a.out (.cells #[.int .i64 a0, .int .i64 a1, .int .u32 a2, .int .u32 a3, .int .u32 a4] 38)
 have g4 := blk_alloc hx4a.out (.cells #[.int .i64 a0, .int .i64 a1, .int .u32 a2, .int .u32 a3, .int .u32 a4] 38)
 have mN := hm1.out.alloc (.cells #[.int .i64 a0, .int .i64 a1, .int .u32 a2, .int .u32 a3, .int .u32 a4] 38)
 have bN := hB2.out.alloc (.cells #[.int .i64 a0, .int .i64 a1, .int .u32 a2, .int .u32 a3, .int .u32 a4] 38)
 replace hka := Lib.hid hka
 generalize (w1.alloc (.cells #[.int .i64 a0, .int .i64 a1, .int .u32 a2, .int .u32 a3, .int .u32 a4] 38)) = W2 at ga g0 g1 g2 g3 g4 mN bN ⊢
 refine start_ (n := 6) (S := fun w' => w'.cell? ⟨b, 0, none⟩ = some (.int .i64 n) ∧ w'.cell? ⟨b + 1, 0, none⟩ = some (.bool true) ∧ w'.cell? ⟨b + 1, 1, none⟩ = some (.int .i64 x1) ∧ w'.cell? ⟨b + 1, 2, none⟩ = some (.int .i64 x2) ∧ w'.cell? ⟨b + 1, 3, none⟩ = some (.bool true) ∧ w'.cell? ⟨ka, 0, none⟩ = some (.int .i64 a0) ∧ w'.cell? ⟨ka, 1, none⟩ = some (.int .i64 a1) ∧ w'.cell? ⟨ka, 2, none⟩ = some (.int .u32 a2) ∧ w'.cell? ⟨ka, 3, none⟩ = some (.int .u32 a3) ∧ w'.cell? ⟨ka, 4, none⟩ = some (.int .u32 a4)) (ds := [5]) #[false, false, false, false, false, false] (by kernel_rfl) rfl rfl ⟨cell_of_heap (j := 0) (blk_drew g0) rfl, cell_of_heap (j := 0) (blk_drew g1) rfl, cell_of_heap (j := 1) (blk_drew g1) rfl, cell_of_heap (j := 2) (blk_drew g1) rfl, cell_of_heap (j := 3) (blk_drew g1) rfl, cell_of_heap (j := 0) (blk_drew ga) rfl, cell_of_heap (j := 1) (blk_drew ga) rfl, cell_of_heap (j := 2) (blk_drew ga) rfl, cell_of_heap (j := 3) (blk_drew ga) rfl, cell_of_heap (j := 4) (blk_drew ga) rfl⟩ (fun hHeld => ?_)
 refine take_ (i := 0) (N := some 33) (v := ?_) (a' := ?_) (mk 6 1) rfl rfl (by kernel_rfl) (fun _ _ _ h => h) (Or.inl ⟨by rfl, ?_⟩) hHeld ?_ ?_
 rotate_left
 ·exact e142
 rotate_left
 ·exact e4
 refine take_ (i := 1) (N := some 34) (v := ?_) (a' := ?_) (mk 6 3) rfl rfl (by kernel_rfl) (fun _ _ _ h => h) (Or.inl ⟨by rfl, ?_⟩) hHeld ?_ ?_
 rotate_left
 ·exact e142
 rotate_left
 ·exact e4
 refine take_ (i := 3) (N := some 36) (v := ?_) (a' := ?_) (mk 6 11) rfl rfl (by kernel_rfl) (fun _ _ _ h => h) (Or.inl ⟨by rfl, ?_⟩) hHeld ?_ ?_
 rotate_left
 ·exact e142
 rotate_left
 ·exact e4
 refine one_ (i := 2) (N := some 35) (mk 6 15) rfl rfl (by kernel_rfl) (by decide) (fun K hK => ?_)
 refine goes_ Tryz.func184 (by kernel_rfl) rfl #[.agg #[.int .i64 n], .agg #[.bool true, .int .i64 x1, .int .i64 x2, .bool true]] (by rfl) rfl rfl (by simp only [List.map_toArray, List.map_cons, List.map_nil]; rfl) ?_
 with_reducible refine (hnx.out _).mono ?_
 rintro e w5 ⟨rfl, hb5⟩
 refine ⟨_, rfl, ?_⟩
 have g0d := (hb5.block (b) (blk_lt (blk_drew g0))).trans (blk_drew g0)
 have g1d := (hb5.block (b + 1) (blk_lt (blk_drew g1))).trans (blk_drew g1)
 have g2d := (hb5.block (b + 1 + 1) (blk_lt (blk_drew g2))).trans (blk_drew g2)
 have g3d := (hb5.block (b + 1 + 1 + 1) (blk_lt (blk_drew g3))).trans (blk_drew g3)
 have gad := (hb5.block (ka) (blk_lt (blk_drew ga))).trans (blk_drew ga)
 have mNd := mN.drew.below hb5
 have bNd := bN.drew.trans (But.of_below hb5)
 clear hb5
 have z2_0 := blk_frozen g2d 0
 have z2_1 := blk_frozen g2d 1
 have z2_2 := blk_frozen g2d 2
 have z2_3 := blk_frozen g2d 3
 have z3_0 := blk_frozen g3d 0
 have z3_1 := blk_frozen g3d 1
 have z3_2 := blk_frozen g3d 2
 have z3_3 := blk_frozen g3d 3
 have z3_4 := blk_frozen g3d 4
 have p2_0 := cell_of_heap (j := 0) g2d rfl
 have p2_1 := cell_of_heap (j := 1) g2d rfl
 have p2_2 := cell_of_heap (j := 2) g2d rfl
 have p2_3 := cell_of_heap (j := 3) g2d rfl
 have p3_0 := cell_of_heap (j := 0) g3d rfl
 have p3_1 := cell_of_heap (j := 1) g3d rfl
 have p3_2 := cell_of_heap (j := 2) g3d rfl
 have p3_3 := cell_of_heap (j := 3) g3d rfl
 have p3_4 := cell_of_heap (j := 4) g3d rfl
 refine hK.out _ _ ⟨cell_of_heap (j := 0) g0d rfl, cell_of_heap (j := 0) g1d rfl, cell_of_heap (j := 1) g1d rfl, cell_of_heap (j := 2) g1d rfl, cell_of_heap (j := 3) g1d rfl, cell_of_heap (j := 0) gad rfl, cell_of_heap (j := 1) gad rfl, cell_of_heap (j := 2) gad rfl, cell_of_heap (j := 3) gad rfl, cell_of_heap (j := 4) gad rfl⟩ (fun hHeld => ?_)
 clear hK K
 refine nm_ ?_
 refine one_ (i := 4) (N := none) (mk 6 31) rfl rfl (by kernel_rfl) (by decide) (fun K hK => ?_)
 refine skip_ (w1 := ?_) (by rfl) rfl ?_ ?_
 rotate_left
 ·go_simp
  rfl
 refine hK.out _ _ ⟨cell_of_heap (j := 0) (blk_far (blk_far (blk_far (blk_far g0d (p := ⟨b + 1 + 1, 0, none⟩) e02 (.bool y0)) (p := ⟨b + 1 + 1, 1, none⟩) e02 (.int .i64 y1)) (p := ⟨b + 1 + 1, 2, none⟩) e02 (.int .i64 y2)) (p := ⟨b + 1 + 1, 3, none⟩) e02 (.bool y3)) rfl, cell_of_heap (j := 0) (blk_far (blk_far (blk_far (blk_far g1d (p := ⟨b + 1 + 1, 0, none⟩) e12 (.bool y0)) (p := ⟨b + 1 + 1, 1, none⟩) e12 (.int .i64 y1)) (p := ⟨b + 1 + 1, 2, none⟩) e12 (.int .i64 y2)) (p := ⟨b + 1 + 1, 3, none⟩) e12 (.bool y3)) rfl, cell_of_heap (j := 1) (blk_far (blk_far (blk_far (blk_far g1d (p := ⟨b + 1 + 1, 0, none⟩) e12 (.bool y0)) (p := ⟨b + 1 + 1, 1, none⟩) e12 (.int .i64 y1)) (p := ⟨b + 1 + 1, 2, none⟩) e12 (.int .i64 y2)) (p := ⟨b + 1 + 1, 3, none⟩) e12 (.bool y3)) rfl, cell_of_heap (j := 2) (blk_far (blk_far (blk_far (blk_far g1d (p := ⟨b + 1 + 1, 0, none⟩) e12 (.bool y0)) (p := ⟨b + 1 + 1, 1, none⟩) e12 (.int .i64 y1)) (p := ⟨b + 1 + 1, 2, none⟩) e12 (.int .i64 y2)) (p := ⟨b + 1 + 1, 3, none⟩) e12 (.bool y3)) rfl, cell_of_heap (j := 3) (blk_far (blk_far (blk_far (blk_far g1d (p := ⟨b + 1 + 1, 0, none⟩) e12 (.bool y0)) (p := ⟨b + 1 + 1, 1, none⟩) e12 (.int .i64 y1)) (p := ⟨b + 1 + 1, 2, none⟩) e12 (.int .i64 y2)) (p := ⟨b + 1 + 1, 3, none⟩) e12 (.bool y3)) rfl, cell_of_heap (j := 0) (blk_far (blk_far (blk_far (blk_far gad (p := ⟨b + 1 + 1, 0, none⟩) ea2 (.bool y0)) (p := ⟨b + 1 + 1, 1, none⟩) ea2 (.int .i64 y1)) (p := ⟨b + 1 + 1, 2, none⟩) ea2 (.int .i64 y2)) (p := ⟨b + 1 + 1, 3, none⟩) ea2 (.bool y3)) rfl, cell_of_heap (j := 1) (blk_far (blk_far (blk_far (blk_far gad (p := ⟨b + 1 + 1, 0, none⟩) ea2 (.bool y0)) (p := ⟨b + 1 + 1, 1, none⟩) ea2 (.int .i64 y1)) (p := ⟨b + 1 + 1, 2, none⟩) ea2 (.int .i64 y2)) (p := ⟨b + 1 + 1, 3, none⟩) ea2 (.bool y3)) rfl, cell_of_heap (j := 2) (blk_far (blk_far (blk_far (blk_far gad (p := ⟨b + 1 + 1, 0, none⟩) ea2 (.bool y0)) (p := ⟨b + 1 + 1, 1, none⟩) ea2 (.int .i64 y1)) (p := ⟨b + 1 + 1, 2, none⟩) ea2 (.int .i64 y2)) (p := ⟨b + 1 + 1, 3, none⟩) ea2 (.bool y3)) rfl, cell_of_heap (j := 3) (blk_far (blk_far (blk_far (blk_far gad (p := ⟨b + 1 + 1, 0, none⟩) ea2 (.bool y0)) (p := ⟨b + 1 + 1, 1, none⟩) ea2 (.int .i64 y1)) (p := ⟨b + 1 + 1, 2, none⟩) ea2 (.int .i64 y2)) (p := ⟨b + 1 + 1, 3, none⟩) ea2 (.bool y3)) rfl, cell_of_heap (j := 4) (blk_far (blk_far (blk_far (blk_far gad (p := ⟨b + 1 + 1, 0, none⟩) ea2 (.bool y0)) (p := ⟨b + 1 + 1, 1, none⟩) ea2 (.int .i64 y1)) (p := ⟨b + 1 + 1, 2, none⟩) ea2 (.int .i64 y2)) (p := ⟨b + 1 + 1, 3, none⟩) ea2 (.bool y3)) rfl⟩ (fun hHeld => ?_)
 clear hK K
 refine last_ (i := 5) (N := none) (mk 6 63) rfl rfl (by kernel_rfl) (by decide) (fun K hK => ?_)
 refine skip_ (w1 := ?_) (by rfl) rfl ?_ ?_
 rotate_left
 ·go_simp
  rfl
 refine hK.out _ _ ?_
 clear hK K
 refine done_ (by kernel_rfl) ?_
 have h2 := g2d
 have h3 := g3d
 have m0 := mNd
 have b0 := bNd
 replace h2 := blk_set h2 0 (.bool y0)
 replace h3 := blk_far h3 (p := ⟨b + 1 + 1, 0, none⟩) (by show b + 1 + 1 + 1 ≠ b + 1 + 1; omega) (.bool y0)
 replace m0 := m0.far ⟨b + 1 + 1, 0, none⟩ (by show b + 1 + 1 ≠ pm; omega) (by show b + 1 + 1 ≠ g; omega) (.bool y0)
 replace b0 := b0.set ⟨b + 1 + 1, 0, none⟩ (by right; show w.heap.size ≤ b + 1 + 1; omega) (.bool y0)
 replace h2 := blk_set h2 1 (.int .i64 y1)
 replace h3 := blk_far h3 (p := ⟨b + 1 + 1, 1, none⟩) (by show b + 1 + 1 + 1 ≠ b + 1 + 1; omega) (.int .i64 y1)
 replace m0 := m0.far ⟨b + 1 + 1, 1, none⟩ (by show b + 1 + 1 ≠ pm; omega) (by show b + 1 + 1 ≠ g; omega) (.int .i64 y1)
 replace b0 := b0.set ⟨b + 1 + 1, 1, none⟩ (by right; show w.heap.size ≤ b + 1 + 1; omega) (.int .i64 y1)
 replace h2 := blk_set h2 2 (.int .i64 y2)
 replace h3 := blk_far h3 (p := ⟨b + 1 + 1, 2, none⟩) (by show b + 1 + 1 + 1 ≠ b + 1 + 1; omega) (.int .i64 y2)
 replace m0 := m0.far ⟨b + 1 + 1, 2, none⟩ (by show b + 1 + 1 ≠ pm; omega) (by show b + 1 + 1 ≠ g; omega) (.int .i64 y2)
 replace b0 := b0.set ⟨b + 1 + 1, 2, none⟩ (by right; show w.heap.size ≤ b + 1 + 1; omega) (.int .i64 y2)
 replace h2 := blk_set h2 3 (.bool y3)
 replace h3 := blk_far h3 (p := ⟨b + 1 + 1, 3, none⟩) (by show b + 1 + 1 + 1 ≠ b + 1 + 1; omega) (.bool y3)
 replace m0 := m0.far ⟨b + 1 + 1, 3, none⟩ (by show b + 1 + 1 ≠ pm; omega) (by show b + 1 + 1 ≠ g; omega) (.bool y3)
 replace b0 := b0.set ⟨b + 1 + 1, 3, none⟩ (by right; show w.heap.size ≤ b + 1 + 1; omega) (.bool y3)
 replace h2 := blk_far h2 (p := ⟨b + 1 + 1 + 1, 0, none⟩) (by show b + 1 + 1 ≠ b + 1 + 1 + 1; omega) (.int .i64 a0)
 replace h3 := blk_set h3 0 (.int .i64 a0)
 replace m0 := m0.far ⟨b + 1 + 1 + 1, 0, none⟩ (by show b + 1 + 1 + 1 ≠ pm; omega) (by show b + 1 + 1 + 1 ≠ g; omega) (.int .i64 a0)
 replace b0 := b0.set ⟨b + 1 + 1 + 1, 0, none⟩ (by right; show w.heap.size ≤ b + 1 + 1 + 1; omega) (.int .i64 a0)
 replace h2 := blk_far h2 (p := ⟨b + 1 + 1 + 1, 1, none⟩) (by show b + 1 + 1 ≠ b + 1 + 1 + 1; omega) (.int .i64 a1)
 replace h3 := blk_set h3 1 (.int .i64 a1)
 replace m0 := m0.far ⟨b + 1 + 1 + 1, 1, none⟩ (by show b + 1 + 1 + 1 ≠ pm; omega) (by show b + 1 + 1 + 1 ≠ g; omega) (.int .i64 a1)
 replace b0 := b0.set ⟨b + 1 + 1 + 1, 1, none⟩ (by right; show w.heap.size ≤ b + 1 + 1 + 1; omega) (.int .i64 a1)
 replace h2 := blk_far h2 (p := ⟨b + 1 + 1 + 1, 2, none⟩) (by show b + 1 + 1 ≠ b + 1 + 1 + 1; omega) (.int .u32 a2)
 replace h3 := blk_set h3 2 (.int .u32 a2)
 replace m0 := m0.far ⟨b + 1 + 1 + 1, 2, none⟩ (by show b + 1 + 1 + 1 ≠ pm; omega) (by show b + 1 + 1 + 1 ≠ g; omega) (.int .u32 a2)
 replace b0 := b0.set ⟨b + 1 + 1 + 1, 2, none⟩ (by right; show w.heap.size ≤ b + 1 + 1 + 1; omega) (.int .u32 a2)
 replace h2 := blk_far h2 (p := ⟨b + 1 + 1 + 1, 3, none⟩) (by show b + 1 + 1 ≠ b + 1 + 1 + 1; omega) (.int .u32 a3)
 replace h3 := blk_set h3 3 (.int .u32 a3)
 replace m0 := m0.far ⟨b + 1 + 1 + 1, 3, none⟩ (by show b + 1 + 1 + 1 ≠ pm; omega) (by show b + 1 + 1 + 1 ≠ g; omega) (.int .u32 a3)
 replace b0 := b0.set ⟨b + 1 + 1 + 1, 3, none⟩ (by right; show w.heap.size ≤ b + 1 + 1 + 1; omega) (.int .u32 a3)
 replace h2 := blk_far h2 (p := ⟨b + 1 + 1 + 1, 4, none⟩) (by show b + 1 + 1 ≠ b + 1 + 1 + 1; omega) (.int .u32 a4)
 replace h3 := blk_set h3 4 (.int .u32 a4)
 replace m0 := m0.far ⟨b + 1 + 1 + 1, 4, none⟩ (by show b + 1 + 1 + 1 ≠ pm; omega) (by show b + 1 + 1 + 1 ≠ g; omega) (.int .u32 a4)
 replace b0 := b0.set ⟨b + 1 + 1 + 1, 4, none⟩ (by right; show w.heap.size ≤ b + 1 + 1 + 1; omega) (.int .u32 a4)
 exact e143
set_option maxHeartbeats 2000000 in
theorem wkstep_look_no (h : Mm w pm g l) (n x1 x2 : Int) (a0 a1 a2 a3 a4 c : Int) (hwc : ∀ W', Calls Tryz.prog 186 #[.agg #[.int .i64 n], .int .i64 x2] W' fun e w' => e = .returned (.int .i64 c) ∧ Below W'.heap.size W' w') (hdo : ∀ W', Mm W' pm g l → Calls Tryz.prog 185 #[.pointer (some ⟨pm, 0, none⟩), .agg #[.int .i64 1, .int .i64 c, .int .u32 0, .int .u32 0, .int .u32 0]] W' fun e w' => e = .returned (.tuple #[.agg #[.int .i64 a0, .int .i64 a1, .int .u32 a2, .int .u32 a3, .int .u32 a4], .bool false]) ∧ Mm w' pm g l ∧ But g W' w') : Calls Tryz.prog 145 #[.pointer (some ⟨pm, 0, none⟩), .agg #[.int .i64 n], .agg #[.bool true, .int .i64 x1, .int .i64 x2, .bool false]] w fun e w' => e = .returned (.tuple #[.agg #[.bool false, .int .i64 0, .int .i64 0, .bool false], .agg #[.int .i64 a0, .int .i64 a1, .int .u32 a2, .int .u32 a3, .int .u32 a4]]) ∧ Mm w' pm g l ∧ But g w w' := by
 obtain ⟨b, hb⟩ : ∃ b, b = w.heap.size := ⟨_, rfl⟩
 obtain ⟨W, hW⟩ : ∃ W, W = (((((w.alloc (.cells #[.int .i64 n] 94)).alloc (.cells #[.bool true, .int .i64 x1, .int .i64 x2, .bool false] 49)).alloc (.cells #[.bool false, .int .i64 0, .int .i64 0, .bool false] 49)).alloc (.cells #[.int .i64 0, .int .i64 0, .int .u32 0, .int .u32 0, .int .u32 0] 38)).alloc (.cells #[.bool false, .int .i64 0, .int .i64 0, .bool false] 49)) := ⟨_, rfl⟩
 have hm : Mm W pm g l := by rw [hW]; exact (((((h).alloc _).alloc _).alloc _).alloc _).alloc _
 have hB : But g w W := by rw [hW]; exact (((((But.refl g w).alloc _).alloc _).alloc _).alloc _).alloc _
 have hx0 : W.heap[b]? = some (.cells #[.int .i64 n] 94 (0, 0)) := by
  rw [hW, hb]
  refine blk_alloc (blk_alloc (blk_alloc (blk_alloc ?_ _) _) _) _
  simpa using heap_alloc_new w (.cells #[.int .i64 n] 94)
 have hx1 : W.heap[b + 1]? = some (.cells #[.bool true, .int .i64 x1, .int .i64 x2, .bool false] 49 (0, 0)) := by
  rw [hW, hb]
  refine blk_alloc (blk_alloc (blk_alloc ?_ _) _) _
  simpa using heap_alloc_new (w.alloc (.cells #[.int .i64 n] 94)) (.cells #[.bool true, .int .i64 x1, .int .i64 x2, .bool false] 49)
 have hx2 : W.heap[b + 1 + 1]? = some (.cells #[.bool false, .int .i64 0, .int .i64 0, .bool false] 49 (0, 0)) := by
  rw [hW, hb]
  refine blk_alloc (blk_alloc ?_ _) _
  simpa using heap_alloc_new ((w.alloc (.cells #[.int .i64 n] 94)).alloc (.cells #[.bool true, .int .i64 x1, .int .i64 x2, .bool false] 49)) (.cells #[.bool false, .int .i64 0, .int .i64 0, .bool false] 49)
 have hx3 : W.heap[b + 1 + 1 + 1]? = some (.cells #[.int .i64 0, .int .i64 0, .int .u32 0, .int .u32 0, .int .u32 0] 38 (0, 0)) := by
  rw [hW, hb]
  refine blk_alloc ?_ _
  simpa using heap_alloc_new (((w.alloc (.cells #[.int .i64 n] 94)).alloc (.cells #[.bool true, .int .i64 x1, .int .i64 x2, .bool false] 49)).alloc (.cells #[.bool false, .int .i64 0, .int .i64 0, .bool false] 49)) (.cells #[.int .i64 0, .int .i64 0, .int .u32 0, .int .u32 0, .int .u32 0] 38)
 have hx4 : W.heap[b + 1 + 1 + 1 + 1]? = some (.cells #[.bool false, .int .i64 0, .int .i64 0, .bool false] 49 (0, 0)) := by
  rw [hW, hb]
  simpa using heap_alloc_new ((((w.alloc (.cells #[.int .i64 n] 94)).alloc (.cells #[.bool true, .int .i64 x1, .int .i64 x2, .bool false] 49)).alloc (.cells #[.bool false, .int .i64 0, .int .i64 0, .bool false] 49)).alloc (.cells #[.int .i64 0, .int .i64 0, .int .u32 0, .int .u32 0, .int .u32 0] 38)) (.cells #[.bool false, .int .i64 0, .int .i64 0, .bool false] 49)
 have hlt := h.lt
 have hbs : w.heap.size ≤ b := Nat.le_of_eq hb.symm
 have n0g : b ≠ g := by omega
 have n0m : b ≠ pm := by omega
 have n1g : b + 1 ≠ g := by omega
 have n1m : b + 1 ≠ pm := by omega
 have n2g : b + 1 + 1 ≠ g := by omega
 have n2m : b + 1 + 1 ≠ pm := by omega
 have n3g : b + 1 + 1 + 1 ≠ g := by omega
 have n3m : b + 1 + 1 + 1 ≠ pm := by omega
 have n4g : b + 1 + 1 + 1 + 1 ≠ g := by omega
 have n4m : b + 1 + 1 + 1 + 1 ≠ pm := by omega
 have q0_0 := cell_of_heap (j := 0) hx0 rfl
 have q1_0 := cell_of_heap (j := 0) hx1 rfl
 have q1_1 := cell_of_heap (j := 1) hx1 rfl
 have q1_2 := cell_of_heap (j := 2) hx1 rfl
 have q1_3 := cell_of_heap (j := 3) hx1 rfl
 have q2_0 := cell_of_heap (j := 0) hx2 rfl
 have q2_1 := cell_of_heap (j := 1) hx2 rfl
 have q2_2 := cell_of_heap (j := 2) hx2 rfl
 have q2_3 := cell_of_heap (j := 3) hx2 rfl
 have q3_0 := cell_of_heap (j := 0) hx3 rfl
 have q3_1 := cell_of_heap (j := 1) hx3 rfl
 have q3_2 := cell_of_heap (j := 2) hx3 rfl
 have q3_3 := cell_of_heap (j := 3) hx3 rfl
 have q3_4 := cell_of_heap (j := 4) hx3 rfl
 have q4_0 := cell_of_heap (j := 0) hx4 rfl
 have q4_1 := cell_of_heap (j := 1) hx4 rfl
 have q4_2 := cell_of_heap (j := 2) hx4 rfl
 have q4_3 := cell_of_heap (j := 3) hx4 rfl
 have y1_0 := blk_frozen hx1 0
 have y1_1 := blk_frozen hx1 1
 have y1_2 := blk_frozen hx1 2
 have y1_3 := blk_frozen hx1 3
 have y2_0 := blk_frozen hx2 0
 have y2_1 := blk_frozen hx2 1
 have y2_2 := blk_frozen hx2 2
 have y2_3 := blk_frozen hx2 3
 have y3_0 := blk_frozen hx3 0
 have y3_1 := blk_frozen hx3 1
 have y3_2 := blk_frozen hx3 2
 have y3_3 := blk_frozen hx3 3
 have y3_4 := blk_frozen hx3 4
 go_enter Tryz.func145, Tryz.ntmps145
 go_upto_region 2 with (fail)
 rw [← hW, ← hb]
 replace h := Lib.hid h
 replace hb := Lib.hid hb
 replace hW := Lib.hid hW
 replace hm := Lib.hid hm
 replace hB := Lib.hid hB
 replace hx0 := Lib.hid hx0
 replace hx1 := Lib.hid hx1
 replace hx2 := Lib.hid hx2
 replace hx3 := Lib.hid hx3
 replace hx4 := Lib.hid hx4
 clear hlt
 replace hwc := Lib.hid hwc
 replace hdo := Lib.hid hdo
 go_upto_region 11 with (first
  | (go_at_call 186; go_must (refine (hwc.out _).mono ?_; rintro e w1 ⟨rfl, hb1⟩; have hx0a := (hb1.block (b) (blk_lt hx0.out)).trans hx0.out; have hx1a := (hb1.block (b + 1) (blk_lt hx1.out)).trans hx1.out; have hx2a := (hb1.block (b + 1 + 1) (blk_lt hx2.out)).trans hx2.out; have hx3a := (hb1.block (b + 1 + 1 + 1) (blk_lt hx3.out)).trans hx3.out; have hx4a := (hb1.block (b + 1 + 1 + 1 + 1) (blk_lt hx4.out)).trans hx4.out; have hm1 := hm.out.below hb1; have hB1 := hB.out.trans (But.of_below hb1); clear hb1; clear q0_0 q1_0 q1_1 q1_2 q1_3 q2_0 q2_1 q2_2 q2_3 q3_0 q3_1 q3_2 q3_3 q3_4 q4_0 q4_1 q4_2 q4_3 y1_0 y1_1 y1_2 y1_3 y2_0 y2_1 y2_2 y2_3 y3_0 y3_1 y3_2 y3_3 y3_4; replace hx0a := Lib.hid hx0a; replace hx1a := Lib.hid hx1a; replace hx2a := Lib.hid hx2a; replace hx3a := Lib.hid hx3a; replace hx4a := Lib.hid hx4a; replace hm1 := Lib.hid hm1; replace hB1 := Lib.hid hB1))
  | (go_at_call 185; go_must (refine (hdo.out _ hm1.out).mono ?_; rintro e w2 ⟨rfl, hm2, hB2⟩; have hx0b := (hB2.block (b) (blk_lt hx0a.out) n0g).trans hx0a.out; have hx1b := (hB2.block (b + 1) (blk_lt hx1a.out) n1g).trans hx1a.out; have hx2b := (hB2.block (b + 1 + 1) (blk_lt hx2a.out) n2g).trans hx2a.out; have hx3b := (hB2.block (b + 1 + 1 + 1) (blk_lt hx3a.out) n3g).trans hx3a.out; have hx4b := (hB2.block (b + 1 + 1 + 1 + 1) (blk_lt hx4a.out) n4g).trans hx4a.out; have hB3 := hB1.out.trans hB2; clear hB2; replace hx0b := Lib.hid hx0b; replace hx1b := Lib.hid hx1b; replace hx2b := Lib.hid hx2b; replace hx3b := Lib.hid hx3b; replace hx4b := Lib.hid hx4b; replace hm2 := Lib.hid hm2; replace hB3 := Lib.hid hB3)))
 obtain ⟨ka, hka⟩ : ∃ ka, ka = w2.heap.size := ⟨_, rfl⟩
 rw [← hka]
 have hkl : b + 1 + 1 + 1 + 1 < ka := by rw [hka]; exact blk_lt hx4b.out
 have ea2 : ka ≠ b + 1 + 1 := by omega
 have e02 : b ≠ b + 1 + 1 := by omega
 have e12 : b + 1 ≠ b + 1 + 1 := by omega
 have ga : (w2.alloc (.cells #[.int .i64 a0, .int .i64 a1, .int .u32 a2, .int .u32 a3, .int .u32 a4] 38)).heap[ka]? = some (.cells #[.int .i64 a0, .int .i64 a1, .int .u32 a2, .int .u32 a3, .int .u32 a4] 38 (0, 0)) := by rw [hka]; exact heap_alloc_new _ _
 have g0 := blk_alloc hx0b.out (.cells #[.int .i64 a0, .int .i64 a1, .int .u32 a2, .int .u32 a3, .int .u32 a4] 38)
 have g1 := blk_alloc hx1b.out (.cells #[.int .i64 a0, .int .i64 a1, .int .u32 a2, .int .u32 a3, .int .u32 a4] 38)
 have g2 := blk_alloc hx2b.out (.cells #[.int .i64 a0, .int .i64 a1, .int .u32 a2, .int .u32 a3, .int .u32 a4] 38)
 have g3 := blk_alloc hx3b.out (.cells #[.int .i64 a0, .int .i64 a1, .int .u32 a2, .int .u32 a3, .int .u32 a4] 38)
 have g4 := blk_alloc hx4b.out (.cells #[.int .i64 a0, .int .i64 a1, .int .u32 a2, .int .u32 a3, .int .u32 a4] 38)
 have mN := hm2.out.alloc (.cells #[.int .i64 a0, .int .i64 a1, .int .u32 a2, .int .u32 a3, .int .u32 a4] 38)
 have bN := hB3.out.alloc (.cells #[.int .i64 a0, .int .i64 a1, .int .u32 a2, .int .u32 a3, .int .u32 a4] 38)
 replace hka := Lib.hid hka
 generalize (w2.alloc (.cells #[.int .i64 a0, .int .i64 a1, .int .u32 a2, .int .u32 a3, .int .u32 a4] 38)) = W2 at ga g0 g1 g2 g3 g4 mN bN ⊢
 have q1_0 := cell_of_heap (j := 0) g1 rfl
 have q1_1 := cell_of_heap (j := 1) g1 rfl
 have q1_2 := cell_of_heap (j := 2) g1 rfl
 have q1_3 := cell_of_heap (j := 3) g1 rfl
 have y1_0 := blk_frozen g1 0
 have y1_1 := blk_frozen g1 1
 have y1_2 := blk_frozen g1 2
 have y1_3 := blk_frozen g1 3
 have q4_0 := cell_of_heap (j := 0) g4 rfl
 have q4_1 := cell_of_heap (j := 1) g4 rfl
 have q4_2 := cell_of_heap (j := 2) g4 rfl
 have q4_3 := cell_of_heap (j := 3) g4 rfl
 go_upto_region 15 with (fail)
 have mN := mN
 have bN := bN
 replace g1 := blk_set g1 0 (.bool false)
 replace g2 := blk_far g2 (p := ⟨b + 1, 0, none⟩) (by show b + 1 + 1 ≠ b + 1; omega) (.bool false)
 replace g3 := blk_far g3 (p := ⟨b + 1, 0, none⟩) (by show b + 1 + 1 + 1 ≠ b + 1; omega) (.bool false)
 replace ga := blk_far ga (p := ⟨b + 1, 0, none⟩) (by show ka ≠ b + 1; omega) (.bool false)
 replace mN := mN.far ⟨b + 1, 0, none⟩ (by show b + 1 ≠ pm; omega) (by show b + 1 ≠ g; omega) (.bool false)
 replace bN := bN.set ⟨b + 1, 0, none⟩ (by right; show w.heap.size ≤ b + 1; omega) (.bool false)
 replace g1 := blk_set g1 1 (.int .i64 0)
 replace g2 := blk_far g2 (p := ⟨b + 1, 1, none⟩) (by show b + 1 + 1 ≠ b + 1; omega) (.int .i64 0)
 replace g3 := blk_far g3 (p := ⟨b + 1, 1, none⟩) (by show b + 1 + 1 + 1 ≠ b + 1; omega) (.int .i64 0)
 replace ga := blk_far ga (p := ⟨b + 1, 1, none⟩) (by show ka ≠ b + 1; omega) (.int .i64 0)
 replace mN := mN.far ⟨b + 1, 1, none⟩ (by show b + 1 ≠ pm; omega) (by show b + 1 ≠ g; omega) (.int .i64 0)
 replace bN := bN.set ⟨b + 1, 1, none⟩ (by right; show w.heap.size ≤ b + 1; omega) (.int .i64 0)
 replace g1 := blk_set g1 2 (.int .i64 0)
 replace g2 := blk_far g2 (p := ⟨b + 1, 2, none⟩) (by show b + 1 + 1 ≠ b + 1; omega) (.int .i64 0)
 replace g3 := blk_far g3 (p := ⟨b + 1, 2, none⟩) (by show b + 1 + 1 + 1 ≠ b + 1; omega) (.int .i64 0)
 replace ga := blk_far ga (p := ⟨b + 1, 2, none⟩) (by show ka ≠ b + 1; omega) (.int .i64 0)
 replace mN := mN.far ⟨b + 1, 2, none⟩ (by show b + 1 ≠ pm; omega) (by show b + 1 ≠ g; omega) (.int .i64 0)
 replace bN := bN.set ⟨b + 1, 2, none⟩ (by right; show w.heap.size ≤ b + 1; omega) (.int .i64 0)
 replace g1 := blk_set g1 3 (.bool false)
 replace g2 := blk_far g2 (p := ⟨b + 1, 3, none⟩) (by show b + 1 + 1 ≠ b + 1; omega) (.bool false)
 replace g3 := blk_far g3 (p := ⟨b + 1, 3, none⟩) (by show b + 1 + 1 + 1 ≠ b + 1; omega) (.bool false)
 replace ga := blk_far ga (p := ⟨b + 1, 3, none⟩) (by show ka ≠ b + 1; omega) (.bool false)
 replace mN := mN.far ⟨b + 1, 3, none⟩ (by show b + 1 ≠ pm; omega) (by show b + 1 ≠ g; omega) (.bool false)
 replace bN := bN.set ⟨b + 1, 3, none⟩ (by right; show w.heap.size ≤ b + 1; omega) (.bool false)
 generalize ((((W2.setCell ⟨b + 1, 0, none⟩ (.bool false)).setCell ⟨b + 1, 1, none⟩ (.int .i64 0)).setCell ⟨b + 1, 2, none⟩ (.int .i64 0)).setCell ⟨b + 1, 3, none⟩ (.bool false)) = W3 at ga g1 g2 g3 mN bN ⊢
 replace g1 : W3.heap[b + 1]? = some (.cells #[.bool false, .int .i64 0, .int .i64 0, .bool false] 49 (0, 0)) := g1
 clear q1_0 q1_1 q1_2 q1_3 y1_0 y1_1 y1_2 y1_3
 clear q4_0 q4_1 q4_2 q4_3 g4 g0
 have z2_0 := blk_frozen g2 0
 have z2_1 := blk_frozen g2 1
 have z2_2 := blk_frozen g2 2
 have z2_3 := blk_frozen g2 3
 have z3_0 := blk_frozen g3 0
 have z3_1 := blk_frozen g3 1
 have z3_2 := blk_frozen g3 2
 have z3_3 := blk_frozen g3 3
 have z3_4 := blk_frozen g3 4
 have p2_0 := cell_of_heap (j := 0) g2 rfl
 have p2_1 := cell_of_heap (j := 1) g2 rfl
 have p2_2 := cell_of_heap (j := 2) g2 rfl
 have p2_3 := cell_of_heap (j := 3) g2 rfl
 have p3_0 := cell_of_heap (j := 0) g3 rfl
 have p3_1 := cell_of_heap (j := 1) g3 rfl
 have p3_2 := cell_of_heap (j := 2) g3 rfl
 have p3_3 := cell_of_heap (j := 3) g3 rfl
 have p3_4 := cell_of_heap (j := 4) g3 rfl
 refine start_ (n := 4) (S := fun w' => w'.cell? ⟨b + 1, 0, none⟩ = some (.bool false) ∧ w'.cell? ⟨b + 1, 1, none⟩ = some (.int .i64 0) ∧ w'.cell? ⟨b + 1, 2, none⟩ = some (.int .i64 0) ∧ w'.cell? ⟨b + 1, 3, none⟩ = some (.bool false) ∧ w'.cell? ⟨ka, 0, none⟩ = some (.int .i64 a0) ∧ w'.cell? ⟨ka, 1, none⟩ = some (.int .i64 a1) ∧ w'.cell? ⟨ka, 2, none⟩ = some (.int .u32 a2) ∧ w'.cell? ⟨ka, 3, none⟩ = some (.int .u32 a3) ∧ w'.cell? ⟨ka, 4, none⟩ = some (.int .u32 a4)) (ds := [3]) #[false, false, false, false] (by kernel_rfl) rfl rfl ⟨cell_of_heap (j := 0) (blk_drew g1) rfl, cell_of_heap (j := 1) (blk_drew g1) rfl, cell_of_heap (j := 2) (blk_drew g1) rfl, cell_of_heap (j := 3) (blk_drew g1) rfl, cell_of_heap (j := 0) (blk_drew ga) rfl, cell_of_heap (j := 1) (blk_drew ga) rfl, cell_of_heap (j := 2) (blk_drew ga) rfl, cell_of_heap (j := 3) (blk_drew ga) rfl, cell_of_heap (j := 4) (blk_drew ga) rfl⟩ (fun hHeld => ?_)
 refine take_ (i := 0) (N := some 63) (v := ?_) (a' := ?_) (mk 4 1) rfl rfl (by kernel_rfl) (fun _ _ _ h => h) (Or.inl ⟨by rfl, ?_⟩) hHeld ?_ ?_
 rotate_left
 ·exact e144
 rotate_left
 ·exact e4
 refine take_ (i := 1) (N := some 64) (v := ?_) (a' := ?_) (mk 4 3) rfl rfl (by kernel_rfl) (fun _ _ _ h => h) (Or.inl ⟨by rfl, ?_⟩) hHeld ?_ ?_
 rotate_left
 ·exact e144
 rotate_left
 ·exact e4
 refine one_ (i := 2) (N := none) (mk 4 7) rfl rfl (by kernel_rfl) (by decide) (fun K hK => ?_)
 refine skip_ (w1 := ?_) (by rfl) rfl ?_ ?_
 rotate_left
 ·go_simp
  rfl
 refine hK.out _ _ ⟨cell_of_heap (j := 0) (blk_drew (blk_far (blk_far (blk_far (blk_far g1 (p := ⟨b + 1 + 1, 0, none⟩) e12 (.bool false)) (p := ⟨b + 1 + 1, 1, none⟩) e12 (.int .i64 0)) (p := ⟨b + 1 + 1, 2, none⟩) e12 (.int .i64 0)) (p := ⟨b + 1 + 1, 3, none⟩) e12 (.bool false))) rfl, cell_of_heap (j := 1) (blk_drew (blk_far (blk_far (blk_far (blk_far g1 (p := ⟨b + 1 + 1, 0, none⟩) e12 (.bool false)) (p := ⟨b + 1 + 1, 1, none⟩) e12 (.int .i64 0)) (p := ⟨b + 1 + 1, 2, none⟩) e12 (.int .i64 0)) (p := ⟨b + 1 + 1, 3, none⟩) e12 (.bool false))) rfl, cell_of_heap (j := 2) (blk_drew (blk_far (blk_far (blk_far (blk_far g1 (p := ⟨b + 1 + 1, 0, none⟩) e12 (.bool false)) (p := ⟨b + 1 + 1, 1, none⟩) e12 (.int .i64 0)) (p := ⟨b + 1 + 1, 2, none⟩) e12 (.int .i64 0)) (p := ⟨b + 1 + 1, 3, none⟩) e12 (.bool false))) rfl, cell_of_heap (j := 3) (blk_drew (blk_far (blk_far (blk_far (blk_far g1 (p := ⟨b + 1 + 1, 0, none⟩) e12 (.bool false)) (p := ⟨b + 1 + 1, 1, none⟩) e12 (.int .i64 0)) (p := ⟨b + 1 + 1, 2, none⟩) e12 (.int .i64 0)) (p := ⟨b + 1 + 1, 3, none⟩) e12 (.bool false))) rfl, cell_of_heap (j := 0) (blk_drew (blk_far (blk_far (blk_far (blk_far ga (p := ⟨b + 1 + 1, 0, none⟩) ea2 (.bool false)) (p := ⟨b + 1 + 1, 1, none⟩) ea2 (.int .i64 0)) (p := ⟨b + 1 + 1, 2, none⟩) ea2 (.int .i64 0)) (p := ⟨b + 1 + 1, 3, none⟩) ea2 (.bool false))) rfl, cell_of_heap (j := 1) (blk_drew (blk_far (blk_far (blk_far (blk_far ga (p := ⟨b + 1 + 1, 0, none⟩) ea2 (.bool false)) (p := ⟨b + 1 + 1, 1, none⟩) ea2 (.int .i64 0)) (p := ⟨b + 1 + 1, 2, none⟩) ea2 (.int .i64 0)) (p := ⟨b + 1 + 1, 3, none⟩) ea2 (.bool false))) rfl, cell_of_heap (j := 2) (blk_drew (blk_far (blk_far (blk_far (blk_far ga (p := ⟨b + 1 + 1, 0, none⟩) ea2 (.bool false)) (p := ⟨b + 1 + 1, 1, none⟩) ea2 (.int .i64 0)) (p := ⟨b + 1 + 1, 2, none⟩) ea2 (.int .i64 0)) (p := ⟨b + 1 + 1, 3, none⟩) ea2 (.bool false))) rfl, cell_of_heap (j := 3) (blk_drew (blk_far (blk_far (blk_far (blk_far ga (p := ⟨b + 1 + 1, 0, none⟩) ea2 (.bool false)) (p := ⟨b + 1 + 1, 1, none⟩) ea2 (.int .i64 0)) (p := ⟨b + 1 + 1, 2, none⟩) ea2 (.int .i64 0)) (p := ⟨b + 1 + 1, 3, none⟩) ea2 (.bool false))) rfl, cell_of_heap (j := 4) (blk_drew (blk_far (blk_far (blk_far (blk_far ga (p := ⟨b + 1 + 1, 0, none⟩) ea2 (.bool false)) (p := ⟨b + 1 + 1, 1, none⟩) ea2 (.int .i64 0)) (p := ⟨b + 1 + 1, 2, none⟩) ea2 (.int .i64 0)) (p := ⟨b + 1 + 1, 3, none⟩) ea2 (.bool false))) rfl⟩ (fun hHeld => ?_)
 clear hK K
 refine last_ (i := 3) (N := none) (mk 4 15) rfl rfl (by kernel_rfl) (by decide) (fun K hK => ?_)
 refine skip_ (w1 := ?_) (by rfl) rfl ?_ ?_
 rotate_left
 ·go_simp
  rfl
 refine hK.out _ _ ?_
 clear hK K
 refine done_ (by kernel_rfl) ?_
 have h2 := g2
 have h3 := g3
 have m0 := mN
 have b0 := bN
 replace h2 := blk_set h2 0 (.bool false)
 replace h3 := blk_far h3 (p := ⟨b + 1 + 1, 0, none⟩) (by show b + 1 + 1 + 1 ≠ b + 1 + 1; omega) (.bool false)
 replace m0 := m0.far ⟨b + 1 + 1, 0, none⟩ (by show b + 1 + 1 ≠ pm; omega) (by show b + 1 + 1 ≠ g; omega) (.bool false)
 replace b0 := b0.set ⟨b + 1 + 1, 0, none⟩ (by right; show w.heap.size ≤ b + 1 + 1; omega) (.bool false)
 replace h2 := blk_set h2 1 (.int .i64 0)
 replace h3 := blk_far h3 (p := ⟨b + 1 + 1, 1, none⟩) (by show b + 1 + 1 + 1 ≠ b + 1 + 1; omega) (.int .i64 0)
 replace m0 := m0.far ⟨b + 1 + 1, 1, none⟩ (by show b + 1 + 1 ≠ pm; omega) (by show b + 1 + 1 ≠ g; omega) (.int .i64 0)
 replace b0 := b0.set ⟨b + 1 + 1, 1, none⟩ (by right; show w.heap.size ≤ b + 1 + 1; omega) (.int .i64 0)
 replace h2 := blk_set h2 2 (.int .i64 0)
 replace h3 := blk_far h3 (p := ⟨b + 1 + 1, 2, none⟩) (by show b + 1 + 1 + 1 ≠ b + 1 + 1; omega) (.int .i64 0)
 replace m0 := m0.far ⟨b + 1 + 1, 2, none⟩ (by show b + 1 + 1 ≠ pm; omega) (by show b + 1 + 1 ≠ g; omega) (.int .i64 0)
 replace b0 := b0.set ⟨b + 1 + 1, 2, none⟩ (by right; show w.heap.size ≤ b + 1 + 1; omega) (.int .i64 0)
 replace h2 := blk_set h2 3 (.bool false)
 replace h3 := blk_far h3 (p := ⟨b + 1 + 1, 3, none⟩) (by show b + 1 + 1 + 1 ≠ b + 1 + 1; omega) (.bool false)
 replace m0 := m0.far ⟨b + 1 + 1, 3, none⟩ (by show b + 1 + 1 ≠ pm; omega) (by show b + 1 + 1 ≠ g; omega) (.bool false)
 replace b0 := b0.set ⟨b + 1 + 1, 3, none⟩ (by right; show w.heap.size ≤ b + 1 + 1; omega) (.bool false)
 replace h2 := blk_far h2 (p := ⟨b + 1 + 1 + 1, 0, none⟩) (by show b + 1 + 1 ≠ b + 1 + 1 + 1; omega) (.int .i64 a0)
 replace h3 := blk_set h3 0 (.int .i64 a0)
 replace m0 := m0.far ⟨b + 1 + 1 + 1, 0, none⟩ (by show b + 1 + 1 + 1 ≠ pm; omega) (by show b + 1 + 1 + 1 ≠ g; omega) (.int .i64 a0)
 replace b0 := b0.set ⟨b + 1 + 1 + 1, 0, none⟩ (by right; show w.heap.size ≤ b + 1 + 1 + 1; omega) (.int .i64 a0)
 replace h2 := blk_far h2 (p := ⟨b + 1 + 1 + 1, 1, none⟩) (by show b + 1 + 1 ≠ b + 1 + 1 + 1; omega) (.int .i64 a1)
 replace h3 := blk_set h3 1 (.int .i64 a1)
 replace m0 := m0.far ⟨b + 1 + 1 + 1, 1, none⟩ (by show b + 1 + 1 + 1 ≠ pm; omega) (by show b + 1 + 1 + 1 ≠ g; omega) (.int .i64 a1)
 replace b0 := b0.set ⟨b + 1 + 1 + 1, 1, none⟩ (by right; show w.heap.size ≤ b + 1 + 1 + 1; omega) (.int .i64 a1)
 replace h2 := blk_far h2 (p := ⟨b + 1 + 1 + 1, 2, none⟩) (by show b + 1 + 1 ≠ b + 1 + 1 + 1; omega) (.int .u32 a2)
 replace h3 := blk_set h3 2 (.int .u32 a2)
 replace m0 := m0.far ⟨b + 1 + 1 + 1, 2, none⟩ (by show b + 1 + 1 + 1 ≠ pm; omega) (by show b + 1 + 1 + 1 ≠ g; omega) (.int .u32 a2)
 replace b0 := b0.set ⟨b + 1 + 1 + 1, 2, none⟩ (by right; show w.heap.size ≤ b + 1 + 1 + 1; omega) (.int .u32 a2)
 replace h2 := blk_far h2 (p := ⟨b + 1 + 1 + 1, 3, none⟩) (by show b + 1 + 1 ≠ b + 1 + 1 + 1; omega) (.int .u32 a3)
 replace h3 := blk_set h3 3 (.int .u32 a3)
 replace m0 := m0.far ⟨b + 1 + 1 + 1, 3, none⟩ (by show b + 1 + 1 + 1 ≠ pm; omega) (by show b + 1 + 1 + 1 ≠ g; omega) (.int .u32 a3)
 replace b0 := b0.set ⟨b + 1 + 1 + 1, 3, none⟩ (by right; show w.heap.size ≤ b + 1 + 1 + 1; omega) (.int .u32 a3)
 replace h2 := blk_far h2 (p := ⟨b + 1 + 1 + 1, 4, none⟩) (by show b + 1 + 1 ≠ b + 1 + 1 + 1; omega) (.int .u32 a4)
 replace h3 := blk_set h3 4 (.int .u32 a4)
 replace m0 := m0.far ⟨b + 1 + 1 + 1, 4, none⟩ (by show b + 1 + 1 + 1 ≠ pm; omega) (by show b + 1 + 1 + 1 ≠ g; omega) (.int .u32 a4)
 replace b0 := b0.set ⟨b + 1 + 1 + 1, 4, none⟩ (by right; show w.heap.size ≤ b + 1 + 1 + 1; omega) (.int .u32 a4)
 replace h2 := blk_drew h2
 replace h3 := blk_drew h3
 replace m0 := m0.drew
 replace b0 := b0.drew
 go_wp2
 (try simp only [Exit.inBlock, Exit.then])
 refine bodyPost_ret (results_list (vs := [.agg #[.bool false, .int .i64 0, .int .i64 0, .bool false], .agg #[.int .i64 a0, .int .i64 a1, .int .u32 a2, .int .u32 a3, .int .u32 a4]]) rfl (by simp) (.cell (b + 1 + 1) 49 #[.bool false, .int .i64 0, .int .i64 0, .bool false] (0, 0) _ rfl h2 Tryz.underlying49 rfl (by kernel_rfl) (.cell (b + 1 + 1 + 1) 38 #[.int .i64 a0, .int .i64 a1, .int .u32 a2, .int .u32 a3, .int .u32 a4] (0, 0) _ rfl h3 Tryz.underlying38 rfl (by kernel_rfl) .nil))) rfl ?_
 exact ⟨rfl, m0, b0⟩
set_option maxHeartbeats 2000000 in
theorem wkstep_look_eq (h : Mm w pm g l) (n x1 x2 : Int) (a0 a1 a2 a3 a4 c : Int) (hwc : ∀ W', Calls Tryz.prog 186 #[.agg #[.int .i64 n], .int .i64 x2] W' fun e w' => e = .returned (.int .i64 c) ∧ Below W'.heap.size W' w') (hdo : ∀ W', Mm W' pm g l → Calls Tryz.prog 185 #[.pointer (some ⟨pm, 0, none⟩), .agg #[.int .i64 1, .int .i64 c, .int .u32 0, .int .u32 0, .int .u32 0]] W' fun e w' => e = .returned (.tuple #[.agg #[.int .i64 a0, .int .i64 a1, .int .u32 a2, .int .u32 a3, .int .u32 a4], .bool true]) ∧ Mm w' pm g l ∧ But g W' w') (hq : (a4 == wrap64 (x1 + 1) % 4294967296) = true) : Calls Tryz.prog 145 #[.pointer (some ⟨pm, 0, none⟩), .agg #[.int .i64 n], .agg #[.bool true, .int .i64 x1, .int .i64 x2, .bool false]] w fun e w' => e = .returned (.tuple #[.agg #[.bool true, .int .i64 x1, .int .i64 x2, .bool true], .agg #[.int .i64 a0, .int .i64 a1, .int .u32 a2, .int .u32 a3, .int .u32 a4]]) ∧ Mm w' pm g l ∧ But g w w' := by
 obtain ⟨b, hb⟩ : ∃ b, b = w.heap.size := ⟨_, rfl⟩
 obtain ⟨W, hW⟩ : ∃ W, W = (((((w.alloc (.cells #[.int .i64 n] 94)).alloc (.cells #[.bool true, .int .i64 x1, .int .i64 x2, .bool false] 49)).alloc (.cells #[.bool false, .int .i64 0, .int .i64 0, .bool false] 49)).alloc (.cells #[.int .i64 0, .int .i64 0, .int .u32 0, .int .u32 0, .int .u32 0] 38)).alloc (.cells #[.bool false, .int .i64 0, .int .i64 0, .bool false] 49)) := ⟨_, rfl⟩
 have hm : Mm W pm g l := by rw [hW]; exact (((((h).alloc _).alloc _).alloc _).alloc _).alloc _
 have hB : But g w W := by rw [hW]; exact (((((But.refl g w).alloc _).alloc _).alloc _).alloc _).alloc _
 have hx0 : W.heap[b]? = some (.cells #[.int .i64 n] 94 (0, 0)) := by
  rw [hW, hb]
  refine blk_alloc (blk_alloc (blk_alloc (blk_alloc ?_ _) _) _) _
  simpa using heap_alloc_new w (.cells #[.int .i64 n] 94)
 have hx1 : W.heap[b + 1]? = some (.cells #[.bool true, .int .i64 x1, .int .i64 x2, .bool false] 49 (0, 0)) := by
  rw [hW, hb]
  refine blk_alloc (blk_alloc (blk_alloc ?_ _) _) _
  simpa using heap_alloc_new (w.alloc (.cells #[.int .i64 n] 94)) (.cells #[.bool true, .int .i64 x1, .int .i64 x2, .bool false] 49)
 have hx2 : W.heap[b + 1 + 1]? = some (.cells #[.bool false, .int .i64 0, .int .i64 0, .bool false] 49 (0, 0)) := by
  rw [hW, hb]
  refine blk_alloc (blk_alloc ?_ _) _
  simpa using heap_alloc_new ((w.alloc (.cells #[.int .i64 n] 94)).alloc (.cells #[.bool true, .int .i64 x1, .int .i64 x2, .bool false] 49)) (.cells #[.bool false, .int .i64 0, .int .i64 0, .bool false] 49)
 have hx3 : W.heap[b + 1 + 1 + 1]? = some (.cells #[.int .i64 0, .int .i64 0, .int .u32 0, .int .u32 0, .int .u32 0] 38 (0, 0)) := by
  rw [hW, hb]
  refine blk_alloc ?_ _
  simpa using heap_alloc_new (((w.alloc (.cells #[.int .i64 n] 94)).alloc (.cells #[.bool true, .int .i64 x1, .int .i64 x2, .bool false] 49)).alloc (.cells #[.bool false, .int .i64 0, .int .i64 0, .bool false] 49)) (.cells #[.int .i64 0, .int .i64 0, .int .u32 0, .int .u32 0, .int .u32 0] 38)
 have hx4 : W.heap[b + 1 + 1 + 1 + 1]? = some (.cells #[.bool false, .int .i64 0, .int .i64 0, .bool false] 49 (0, 0)) := by
  rw [hW, hb]
  simpa using heap_alloc_new ((((w.alloc (.cells #[.int .i64 n] 94)).alloc (.cells #[.bool true, .int .i64 x1, .int .i64 x2, .bool false] 49)).alloc (.cells #[.bool false, .int .i64 0, .int .i64 0, .bool false] 49)).alloc (.cells #[.int .i64 0, .int .i64 0, .int .u32 0, .int .u32 0, .int .u32 0] 38)) (.cells #[.bool false, .int .i64 0, .int .i64 0, .bool false] 49)
 have hlt := h.lt
 have hbs : w.heap.size ≤ b := Nat.le_of_eq hb.symm
 have n0g : b ≠ g := by omega
 have n0m : b ≠ pm := by omega
 have n1g : b + 1 ≠ g := by omega
 have n1m : b + 1 ≠ pm := by omega
 have n2g : b + 1 + 1 ≠ g := by omega
 have n2m : b + 1 + 1 ≠ pm := by omega
 have n3g : b + 1 + 1 + 1 ≠ g := by omega
 have n3m : b + 1 + 1 + 1 ≠ pm := by omega
 have n4g : b + 1 + 1 + 1 + 1 ≠ g := by omega
 have n4m : b + 1 + 1 + 1 + 1 ≠ pm := by omega
 have q0_0 := cell_of_heap (j := 0) hx0 rfl
 have q1_0 := cell_of_heap (j := 0) hx1 rfl
 have q1_1 := cell_of_heap (j := 1) hx1 rfl
 have q1_2 := cell_of_heap (j := 2) hx1 rfl
 have q1_3 := cell_of_heap (j := 3) hx1 rfl
 have q2_0 := cell_of_heap (j := 0) hx2 rfl
 have q2_1 := cell_of_heap (j := 1) hx2 rfl
 have q2_2 := cell_of_heap (j := 2) hx2 rfl
 have q2_3 := cell_of_heap (j := 3) hx2 rfl
 have q3_0 := cell_of_heap (j := 0) hx3 rfl
 have q3_1 := cell_of_heap (j := 1) hx3 rfl
 have q3_2 := cell_of_heap (j := 2) hx3 rfl
 have q3_3 := cell_of_heap (j := 3) hx3 rfl
 have q3_4 := cell_of_heap (j := 4) hx3 rfl
 have q4_0 := cell_of_heap (j := 0) hx4 rfl
 have q4_1 := cell_of_heap (j := 1) hx4 rfl
 have q4_2 := cell_of_heap (j := 2) hx4 rfl
 have q4_3 := cell_of_heap (j := 3) hx4 rfl
 have y1_0 := blk_frozen hx1 0
 have y1_1 := blk_frozen hx1 1
 have y1_2 := blk_frozen hx1 2
 have y1_3 := blk_frozen hx1 3
 have y2_0 := blk_frozen hx2 0
 have y2_1 := blk_frozen hx2 1
 have y2_2 := blk_frozen hx2 2
 have y2_3 := blk_frozen hx2 3
 have y3_0 := blk_frozen hx3 0
 have y3_1 := blk_frozen hx3 1
 have y3_2 := blk_frozen hx3 2
 have y3_3 := blk_frozen hx3 3
 have y3_4 := blk_frozen hx3 4
 go_enter Tryz.func145, Tryz.ntmps145
 go_upto_region 2 with (fail)
 rw [← hW, ← hb]
 replace h := Lib.hid h
 replace hb := Lib.hid hb
 replace hW := Lib.hid hW
 replace hm := Lib.hid hm
 replace hB := Lib.hid hB
 replace hx0 := Lib.hid hx0
 replace hx1 := Lib.hid hx1
 replace hx2 := Lib.hid hx2
 replace hx3 := Lib.hid hx3
 replace hx4 := Lib.hid hx4
 clear hlt
 replace hwc := Lib.hid hwc
 replace hdo := Lib.hid hdo
 go_upto_region 11 with (first
  | (go_at_call 186; go_must (refine (hwc.out _).mono ?_; rintro e w1 ⟨rfl, hb1⟩; have hx0a := (hb1.block (b) (blk_lt hx0.out)).trans hx0.out; have hx1a := (hb1.block (b + 1) (blk_lt hx1.out)).trans hx1.out; have hx2a := (hb1.block (b + 1 + 1) (blk_lt hx2.out)).trans hx2.out; have hx3a := (hb1.block (b + 1 + 1 + 1) (blk_lt hx3.out)).trans hx3.out; have hx4a := (hb1.block (b + 1 + 1 + 1 + 1) (blk_lt hx4.out)).trans hx4.out; have hm1 := hm.out.below hb1; have hB1 := hB.out.trans (But.of_below hb1); clear hb1; clear q0_0 q1_0 q1_1 q1_2 q1_3 q2_0 q2_1 q2_2 q2_3 q3_0 q3_1 q3_2 q3_3 q3_4 q4_0 q4_1 q4_2 q4_3 y1_0 y1_1 y1_2 y1_3 y2_0 y2_1 y2_2 y2_3 y3_0 y3_1 y3_2 y3_3 y3_4; replace hx0a := Lib.hid hx0a; replace hx1a := Lib.hid hx1a; replace hx2a := Lib.hid hx2a; replace hx3a := Lib.hid hx3a; replace hx4a := Lib.hid hx4a; replace hm1 := Lib.hid hm1; replace hB1 := Lib.hid hB1))
  | (go_at_call 185; go_must (refine (hdo.out _ hm1.out).mono ?_; rintro e w2 ⟨rfl, hm2, hB2⟩; have hx0b := (hB2.block (b) (blk_lt hx0a.out) n0g).trans hx0a.out; have hx1b := (hB2.block (b + 1) (blk_lt hx1a.out) n1g).trans hx1a.out; have hx2b := (hB2.block (b + 1 + 1) (blk_lt hx2a.out) n2g).trans hx2a.out; have hx3b := (hB2.block (b + 1 + 1 + 1) (blk_lt hx3a.out) n3g).trans hx3a.out; have hx4b := (hB2.block (b + 1 + 1 + 1 + 1) (blk_lt hx4a.out) n4g).trans hx4a.out; have hB3 := hB1.out.trans hB2; clear hB2; replace hx0b := Lib.hid hx0b; replace hx1b := Lib.hid hx1b; replace hx2b := Lib.hid hx2b; replace hx3b := Lib.hid hx3b; replace hx4b := Lib.hid hx4b; replace hm2 := Lib.hid hm2; replace hB3 := Lib.hid hB3)))
 obtain ⟨ka, hka⟩ : ∃ ka, ka = w2.heap.size := ⟨_, rfl⟩
 rw [← hka]
 have hkl : b + 1 + 1 + 1 + 1 < ka := by rw [hka]; exact blk_lt hx4b.out
 have ea2 : ka ≠ b + 1 + 1 := by omega
 have e02 : b ≠ b + 1 + 1 := by omega
 have e12 : b + 1 ≠ b + 1 + 1 := by omega
 have ga : (w2.alloc (.cells #[.int .i64 a0, .int .i64 a1, .int .u32 a2, .int .u32 a3, .int .u32 a4] 38)).heap[ka]? = some (.cells #[.int .i64 a0, .int .i64 a1, .int .u32 a2, .int .u32 a3, .int .u32 a4] 38 (0, 0)) := by rw [hka]; exact heap_alloc_new _ _
 have g0 := blk_alloc hx0b.out (.cells #[.int .i64 a0, .int .i64 a1, .int .u32 a2, .int .u32 a3, .int .u32 a4] 38)
 have g1 := blk_alloc hx1b.out (.cells #[.int .i64 a0, .int .i64 a1, .int .u32 a2, .int .u32 a3, .int .u32 a4] 38)
 have g2 := blk_alloc hx2b.out (.cells #[.int .i64 a0, .int .i64 a1, .int .u32 a2, .int .u32 a3, .int .u32 a4] 38)
 have g3 := blk_alloc hx3b.out (.cells #[.int .i64 a0, .int .i64 a1, .int .u32 a2, .int .u32 a3, .int .u32 a4] 38)
 have g4 := blk_alloc hx4b.out (.cells #[.int .i64 a0, .int .i64 a1, .int .u32 a2, .int .u32 a3, .int .u32 a4] 38)
 have mN := hm2.out.alloc (.cells #[.int .i64 a0, .int .i64 a1, .int .u32 a2, .int .u32 a3, .int .u32 a4] 38)
 have bN := hB3.out.alloc (.cells #[.int .i64 a0, .int .i64 a1, .int .u32 a2, .int .u32 a3, .int .u32 a4] 38)
 replace hka := Lib.hid hka
 generalize (w2.alloc (.cells #[.int .i64 a0, .int .i64 a1, .int .u32 a2, .int .u32 a3, .int .u32 a4] 38)) = W2 at ga g0 g1 g2 g3 g4 mN bN ⊢
 have q1_0 := cell_of_heap (j := 0) g1 rfl
 have q1_1 := cell_of_heap (j := 1) g1 rfl
 have q1_2 := cell_of_heap (j := 2) g1 rfl
 have q1_3 := cell_of_heap (j := 3) g1 rfl
 have y1_0 := blk_frozen g1 0
 have y1_1 := blk_frozen g1 1
 have y1_2 := blk_frozen g1 2
 have y1_3 := blk_frozen g1 3
 have t4 := cell_of_heap (j := 4) ga rfl
 go_upto_region 15 with (fail)
 have mN := mN
 have bN := bN
 replace g1 := blk_set g1 3 (.bool true)
 replace g2 := blk_far g2 (p := ⟨b + 1, 3, none⟩) (by show b + 1 + 1 ≠ b + 1; omega) (.bool true)
 replace g3 := blk_far g3 (p := ⟨b + 1, 3, none⟩) (by show b + 1 + 1 + 1 ≠ b + 1; omega) (.bool true)
 replace ga := blk_far ga (p := ⟨b + 1, 3, none⟩) (by show ka ≠ b + 1; omega) (.bool true)
 replace mN := mN.far ⟨b + 1, 3, none⟩ (by show b + 1 ≠ pm; omega) (by show b + 1 ≠ g; omega) (.bool true)
 replace bN := bN.set ⟨b + 1, 3, none⟩ (by right; show w.heap.size ≤ b + 1; omega) (.bool true)
 generalize (W2.setCell ⟨b + 1, 3, none⟩ (.bool true)) = W3 at ga g1 g2 g3 mN bN ⊢
 replace g1 : W3.heap[b + 1]? = some (.cells #[.bool true, .int .i64 x1, .int .i64 x2, .bool true] 49 (0, 0)) := g1
 clear q1_0 q1_1 q1_2 q1_3 y1_0 y1_1 y1_2 y1_3
 clear t4 g4 g0
 have z2_0 := blk_frozen g2 0
 have z2_1 := blk_frozen g2 1
 have z2_2 := blk_frozen g2 2
 have z2_3 := blk_frozen g2 3
 have z3_0 := blk_frozen g3 0
 have z3_1 := blk_frozen g3 1
 have z3_2 := blk_frozen g3 2
 have z3_3 := blk_frozen g3 3
 have z3_4 := blk_frozen g3 4
 have p2_0 := cell_of_heap (j := 0) g2 rfl
 have p2_1 := cell_of_heap (j := 1) g2 rfl
 have p2_2 := cell_of_heap (j := 2) g2 rfl
 have p2_3 := cell_of_heap (j := 3) g2 rfl
 have p3_0 := cell_of_heap (j := 0) g3 rfl
 have p3_1 := cell_of_heap (j := 1) g3 rfl
 have p3_2 := cell_of_heap (j := 2) g3 rfl
 have p3_3 := cell_of_heap (j := 3) g3 rfl
 have p3_4 := cell_of_heap (j := 4) g3 rfl
 refine start_ (n := 4) (S := fun w' => w'.cell? ⟨b + 1, 0, none⟩ = some (.bool true) ∧ w'.cell? ⟨b + 1, 1, none⟩ = some (.int .i64 x1) ∧ w'.cell? ⟨b + 1, 2, none⟩ = some (.int .i64 x2) ∧ w'.cell? ⟨b + 1, 3, none⟩ = some (.bool true) ∧ w'.cell? ⟨ka, 0, none⟩ = some (.int .i64 a0) ∧ w'.cell? ⟨ka, 1, none⟩ = some (.int .i64 a1) ∧ w'.cell? ⟨ka, 2, none⟩ = some (.int .u32 a2) ∧ w'.cell? ⟨ka, 3, none⟩ = some (.int .u32 a3) ∧ w'.cell? ⟨ka, 4, none⟩ = some (.int .u32 a4)) (ds := [3]) #[false, false, false, false] (by kernel_rfl) rfl rfl ⟨cell_of_heap (j := 0) (blk_drew g1) rfl, cell_of_heap (j := 1) (blk_drew g1) rfl, cell_of_heap (j := 2) (blk_drew g1) rfl, cell_of_heap (j := 3) (blk_drew g1) rfl, cell_of_heap (j := 0) (blk_drew ga) rfl, cell_of_heap (j := 1) (blk_drew ga) rfl, cell_of_heap (j := 2) (blk_drew ga) rfl, cell_of_heap (j := 3) (blk_drew ga) rfl, cell_of_heap (j := 4) (blk_drew ga) rfl⟩ (fun hHeld => ?_)
 refine take_ (i := 0) (N := some 63) (v := ?_) (a' := ?_) (mk 4 1) rfl rfl (by kernel_rfl) (fun _ _ _ h => h) (Or.inl ⟨by rfl, ?_⟩) hHeld ?_ ?_
 rotate_left
 ·exact e144
 rotate_left
 ·exact e4
 refine take_ (i := 1) (N := some 64) (v := ?_) (a' := ?_) (mk 4 3) rfl rfl (by kernel_rfl) (fun _ _ _ h => h) (Or.inl ⟨by rfl, ?_⟩) hHeld ?_ ?_
 rotate_left
 ·exact e144
 rotate_left
 ·exact e4
 refine one_ (i := 2) (N := none) (mk 4 7) rfl rfl (by kernel_rfl) (by decide) (fun K hK => ?_)
 refine skip_ (w1 := ?_) (by rfl) rfl ?_ ?_
 rotate_left
 ·go_simp
  rfl
 refine hK.out _ _ ⟨cell_of_heap (j := 0) (blk_drew (blk_far (blk_far (blk_far (blk_far g1 (p := ⟨b + 1 + 1, 0, none⟩) e12 (.bool true)) (p := ⟨b + 1 + 1, 1, none⟩) e12 (.int .i64 x1)) (p := ⟨b + 1 + 1, 2, none⟩) e12 (.int .i64 x2)) (p := ⟨b + 1 + 1, 3, none⟩) e12 (.bool true))) rfl, cell_of_heap (j := 1) (blk_drew (blk_far (blk_far (blk_far (blk_far g1 (p := ⟨b + 1 + 1, 0, none⟩) e12 (.bool true)) (p := ⟨b + 1 + 1, 1, none⟩) e12 (.int .i64 x1)) (p := ⟨b + 1 + 1, 2, none⟩) e12 (.int .i64 x2)) (p := ⟨b + 1 + 1, 3, none⟩) e12 (.bool true))) rfl, cell_of_heap (j := 2) (blk_drew (blk_far (blk_far (blk_far (blk_far g1 (p := ⟨b + 1 + 1, 0, none⟩) e12 (.bool true)) (p := ⟨b + 1 + 1, 1, none⟩) e12 (.int .i64 x1)) (p := ⟨b + 1 + 1, 2, none⟩) e12 (.int .i64 x2)) (p := ⟨b + 1 + 1, 3, none⟩) e12 (.bool true))) rfl, cell_of_heap (j := 3) (blk_drew (blk_far (blk_far (blk_far (blk_far g1 (p := ⟨b + 1 + 1, 0, none⟩) e12 (.bool true)) (p := ⟨b + 1 + 1, 1, none⟩) e12 (.int .i64 x1)) (p := ⟨b + 1 + 1, 2, none⟩) e12 (.int .i64 x2)) (p := ⟨b + 1 + 1, 3, none⟩) e12 (.bool true))) rfl, cell_of_heap (j := 0) (blk_drew (blk_far (blk_far (blk_far (blk_far ga (p := ⟨b + 1 + 1, 0, none⟩) ea2 (.bool true)) (p := ⟨b + 1 + 1, 1, none⟩) ea2 (.int .i64 x1)) (p := ⟨b + 1 + 1, 2, none⟩) ea2 (.int .i64 x2)) (p := ⟨b + 1 + 1, 3, none⟩) ea2 (.bool true))) rfl, cell_of_heap (j := 1) (blk_drew (blk_far (blk_far (blk_far (blk_far ga (p := ⟨b + 1 + 1, 0, none⟩) ea2 (.bool true)) (p := ⟨b + 1 + 1, 1, none⟩) ea2 (.int .i64 x1)) (p := ⟨b + 1 + 1, 2, none⟩) ea2 (.int .i64 x2)) (p := ⟨b + 1 + 1, 3, none⟩) ea2 (.bool true))) rfl, cell_of_heap (j := 2) (blk_drew (blk_far (blk_far (blk_far (blk_far ga (p := ⟨b + 1 + 1, 0, none⟩) ea2 (.bool true)) (p := ⟨b + 1 + 1, 1, none⟩) ea2 (.int .i64 x1)) (p := ⟨b + 1 + 1, 2, none⟩) ea2 (.int .i64 x2)) (p := ⟨b + 1 + 1, 3, none⟩) ea2 (.bool true))) rfl, cell_of_heap (j := 3) (blk_drew (blk_far (blk_far (blk_far (blk_far ga (p := ⟨b + 1 + 1, 0, none⟩) ea2 (.bool true)) (p := ⟨b + 1 + 1, 1, none⟩) ea2 (.int .i64 x1)) (p := ⟨b + 1 + 1, 2, none⟩) ea2 (.int .i64 x2)) (p := ⟨b + 1 + 1, 3, none⟩) ea2 (.bool true))) rfl, cell_of_heap (j := 4) (blk_drew (blk_far (blk_far (blk_far (blk_far ga (p := ⟨b + 1 + 1, 0, none⟩) ea2 (.bool true)) (p := ⟨b + 1 + 1, 1, none⟩) ea2 (.int .i64 x1)) (p := ⟨b + 1 + 1, 2, none⟩) ea2 (.int .i64 x2)) (p := ⟨b + 1 + 1, 3, none⟩) ea2 (.bool true))) rfl⟩ (fun hHeld => ?_)
 clear hK K
 refine last_ (i := 3) (N := none) (mk 4 15) rfl rfl (by kernel_rfl) (by decide) (fun K hK => ?_)
 refine skip_ (w1 := ?_) (by rfl) rfl ?_ ?_
 rotate_left
 ·go_simp
  rfl
 refine hK.out _ _ ?_
 clear hK K
 refine done_ (by kernel_rfl) ?_
 have h2 := g2
 have h3 := g3
 have m0 := mN
 have b0 := bN
 replace h2 := blk_set h2 0 (.bool true)
 replace h3 := blk_far h3 (p := ⟨b + 1 + 1, 0, none⟩) (by show b + 1 + 1 + 1 ≠ b + 1 + 1; omega) (.bool true)
 replace m0 := m0.far ⟨b + 1 + 1, 0, none⟩ (by show b + 1 + 1 ≠ pm; omega) (by show b + 1 + 1 ≠ g; omega) (.bool true)
 replace b0 := b0.set ⟨b + 1 + 1, 0, none⟩ (by right; show w.heap.size ≤ b + 1 + 1; omega) (.bool true)
 replace h2 := blk_set h2 1 (.int .i64 x1)
 replace h3 := blk_far h3 (p := ⟨b + 1 + 1, 1, none⟩) (by show b + 1 + 1 + 1 ≠ b + 1 + 1; omega) (.int .i64 x1)
 replace m0 := m0.far ⟨b + 1 + 1, 1, none⟩ (by show b + 1 + 1 ≠ pm; omega) (by show b + 1 + 1 ≠ g; omega) (.int .i64 x1)
 replace b0 := b0.set ⟨b + 1 + 1, 1, none⟩ (by right; show w.heap.size ≤ b + 1 + 1; omega) (.int .i64 x1)
 replace h2 := blk_set h2 2 (.int .i64 x2)
 replace h3 := blk_far h3 (p := ⟨b + 1 + 1, 2, none⟩) (by show b + 1 + 1 + 1 ≠ b + 1 + 1; omega) (.int .i64 x2)
 replace m0 := m0.far ⟨b + 1 + 1, 2, none⟩ (by show b + 1 + 1 ≠ pm; omega) (by show b + 1 + 1 ≠ g; omega) (.int .i64 x2)
 replace b0 := b0.set ⟨b + 1 + 1, 2, none⟩ (by right; show w.heap.size ≤ b + 1 + 1; omega) (.int .i64 x2)
 replace h2 := blk_set h2 3 (.bool true)
 replace h3 := blk_far h3 (p := ⟨b + 1 + 1, 3, none⟩) (by show b + 1 + 1 + 1 ≠ b + 1 + 1; omega) (.bool true)
 replace m0 := m0.far ⟨b + 1 + 1, 3, none⟩ (by show b + 1 + 1 ≠ pm; omega) (by show b + 1 + 1 ≠ g; omega) (.bool true)
 replace b0 := b0.set ⟨b + 1 + 1, 3, none⟩ (by right; show w.heap.size ≤ b + 1 + 1; omega) (.bool true)
 replace h2 := blk_far h2 (p := ⟨b + 1 + 1 + 1, 0, none⟩) (by show b + 1 + 1 ≠ b + 1 + 1 + 1; omega) (.int .i64 a0)
 replace h3 := blk_set h3 0 (.int .i64 a0)
 replace m0 := m0.far ⟨b + 1 + 1 + 1, 0, none⟩ (by show b + 1 + 1 + 1 ≠ pm; omega) (by show b + 1 + 1 + 1 ≠ g; omega) (.int .i64 a0)
 replace b0 := b0.set ⟨b + 1 + 1 + 1, 0, none⟩ (by right; show w.heap.size ≤ b + 1 + 1 + 1; omega) (.int .i64 a0)
 replace h2 := blk_far h2 (p := ⟨b + 1 + 1 + 1, 1, none⟩) (by show b + 1 + 1 ≠ b + 1 + 1 + 1; omega) (.int .i64 a1)
 replace h3 := blk_set h3 1 (.int .i64 a1)
 replace m0 := m0.far ⟨b + 1 + 1 + 1, 1, none⟩ (by show b + 1 + 1 + 1 ≠ pm; omega) (by show b + 1 + 1 + 1 ≠ g; omega) (.int .i64 a1)
 replace b0 := b0.set ⟨b + 1 + 1 + 1, 1, none⟩ (by right; show w.heap.size ≤ b + 1 + 1 + 1; omega) (.int .i64 a1)
 replace h2 := blk_far h2 (p := ⟨b + 1 + 1 + 1, 2, none⟩) (by show b + 1 + 1 ≠ b + 1 + 1 + 1; omega) (.int .u32 a2)
 replace h3 := blk_set h3 2 (.int .u32 a2)
 replace m0 := m0.far ⟨b + 1 + 1 + 1, 2, none⟩ (by show b + 1 + 1 + 1 ≠ pm; omega) (by show b + 1 + 1 + 1 ≠ g; omega) (.int .u32 a2)
 replace b0 := b0.set ⟨b + 1 + 1 + 1, 2, none⟩ (by right; show w.heap.size ≤ b + 1 + 1 + 1; omega) (.int .u32 a2)
 replace h2 := blk_far h2 (p := ⟨b + 1 + 1 + 1, 3, none⟩) (by show b + 1 + 1 ≠ b + 1 + 1 + 1; omega) (.int .u32 a3)
 replace h3 := blk_set h3 3 (.int .u32 a3)
 replace m0 := m0.far ⟨b + 1 + 1 + 1, 3, none⟩ (by show b + 1 + 1 + 1 ≠ pm; omega) (by show b + 1 + 1 + 1 ≠ g; omega) (.int .u32 a3)
 replace b0 := b0.set ⟨b + 1 + 1 + 1, 3, none⟩ (by right; show w.heap.size ≤ b + 1 + 1 + 1; omega) (.int .u32 a3)
 replace h2 := blk_far h2 (p := ⟨b + 1 + 1 + 1, 4, none⟩) (by show b + 1 + 1 ≠ b + 1 + 1 + 1; omega) (.int .u32 a4)
 replace h3 := blk_set h3 4 (.int .u32 a4)
 replace m0 := m0.far ⟨b + 1 + 1 + 1, 4, none⟩ (by show b + 1 + 1 + 1 ≠ pm; omega) (by show b + 1 + 1 + 1 ≠ g; omega) (.int .u32 a4)
 replace b0 := b0.set ⟨b + 1 + 1 + 1, 4, none⟩ (by right; show w.heap.size ≤ b + 1 + 1 + 1; omega) (.int .u32 a4)
 replace h2 := blk_drew h2
 replace h3 := blk_drew h3
 replace m0 := m0.drew
 replace b0 := b0.drew
 go_wp2
 (try simp only [Exit.inBlock, Exit.then])
 refine bodyPost_ret (results_list (vs := [.agg #[.bool true, .int .i64 x1, .int .i64 x2, .bool true], .agg #[.int .i64 a0, .int .i64 a1, .int .u32 a2, .int .u32 a3, .int .u32 a4]]) rfl (by simp) (.cell (b + 1 + 1) 49 #[.bool true, .int .i64 x1, .int .i64 x2, .bool true] (0, 0) _ rfl h2 Tryz.underlying49 rfl (by kernel_rfl) (.cell (b + 1 + 1 + 1) 38 #[.int .i64 a0, .int .i64 a1, .int .u32 a2, .int .u32 a3, .int .u32 a4] (0, 0) _ rfl h3 Tryz.underlying38 rfl (by kernel_rfl) .nil))) rfl ?_
 exact ⟨rfl, m0, b0⟩
set_option maxHeartbeats 2000000 in
theorem wkstep_look_next (h : Mm w pm g l) (n x1 x2 : Int) (a0 a1 a2 a3 a4 c : Int) (hwc : ∀ W', Calls Tryz.prog 186 #[.agg #[.int .i64 n], .int .i64 x2] W' fun e w' => e = .returned (.int .i64 c) ∧ Below W'.heap.size W' w') (hdo : ∀ W', Mm W' pm g l → Calls Tryz.prog 185 #[.pointer (some ⟨pm, 0, none⟩), .agg #[.int .i64 1, .int .i64 c, .int .u32 0, .int .u32 0, .int .u32 0]] W' fun e w' => e = .returned (.tuple #[.agg #[.int .i64 a0, .int .i64 a1, .int .u32 a2, .int .u32 a3, .int .u32 a4], .bool true]) ∧ Mm w' pm g l ∧ But g W' w') (hq : (a4 == wrap64 (x1 + 1) % 4294967296) = false) (y0 y3 : Bool) (y1 y2 : Int) (hnx : ∀ W', Calls Tryz.prog 184 #[.agg #[.int .i64 n], .agg #[.bool true, .int .i64 x1, .int .i64 x2, .bool false]] W' fun e w' => e = .returned (.agg #[.bool y0, .int .i64 y1, .int .i64 y2, .bool y3]) ∧ Below W'.heap.size W' w') : Calls Tryz.prog 145 #[.pointer (some ⟨pm, 0, none⟩), .agg #[.int .i64 n], .agg #[.bool true, .int .i64 x1, .int .i64 x2, .bool false]] w fun e w' => e = .returned (.tuple #[.agg #[.bool y0, .int .i64 y1, .int .i64 y2, .bool y3], .agg #[.int .i64 a0, .int .i64 a1, .int .u32 a2, .int .u32 a3, .int .u32 a4]]) ∧ Mm w' pm g l ∧ But g w w' := by
 obtain ⟨b, hb⟩ : ∃ b, b = w.heap.size := ⟨_, rfl⟩
 obtain ⟨W, hW⟩ : ∃ W, W = (((((w.alloc (.cells #[.int .i64 n] 94)).alloc (.cells #[.bool true, .int .i64 x1, .int .i64 x2, .bool false] 49)).alloc (.cells #[.bool false, .int .i64 0, .int .i64 0, .bool false] 49)).alloc (.cells #[.int .i64 0, .int .i64 0, .int .u32 0, .int .u32 0, .int .u32 0] 38)).alloc (.cells #[.bool false, .int .i64 0, .int .i64 0, .bool false] 49)) := ⟨_, rfl⟩
 have hm : Mm W pm g l := by rw [hW]; exact (((((h).alloc _).alloc _).alloc _).alloc _).alloc _
 have hB : But g w W := by rw [hW]; exact (((((But.refl g w).alloc _).alloc _).alloc _).alloc _).alloc _
 have hx0 : W.heap[b]? = some (.cells #[.int .i64 n] 94 (0, 0)) := by
  rw [hW, hb]
  refine blk_alloc (blk_alloc (blk_alloc (blk_alloc ?_ _) _) _) _
  simpa using heap_alloc_new w (.cells #[.int .i64 n] 94)
 have hx1 : W.heap[b + 1]? = some (.cells #[.bool true, .int .i64 x1, .int .i64 x2, .bool false] 49 (0, 0)) := by
  rw [hW, hb]
  refine blk_alloc (blk_alloc (blk_alloc ?_ _) _) _
  simpa using heap_alloc_new (w.alloc (.cells #[.int .i64 n] 94)) (.cells #[.bool true, .int .i64 x1, .int .i64 x2, .bool false] 49)
 have hx2 : W.heap[b + 1 + 1]? = some (.cells #[.bool false, .int .i64 0, .int .i64 0, .bool false] 49 (0, 0)) := by
  rw [hW, hb]
  refine blk_alloc (blk_alloc ?_ _) _
  simpa using heap_alloc_new ((w.alloc (.cells #[.int .i64 n] 94)).alloc (.cells #[.bool true, .int .i64 x1, .int .i64 x2, .bool false] 49)) (.cells #[.bool false, .int .i64 0, .int .i64 0, .bool false] 49)
 have hx3 : W.heap[b + 1 + 1 + 1]? = some (.cells #[.int .i64 0, .int .i64 0, .int .u32 0, .int .u32 0, .int .u32 0] 38 (0, 0)) := by
  rw [hW, hb]
  refine blk_alloc ?_ _
  simpa using heap_alloc_new (((w.alloc (.cells #[.int .i64 n] 94)).alloc (.cells #[.bool true, .int .i64 x1, .int .i64 x2, .bool false] 49)).alloc (.cells #[.bool false, .int .i64 0, .int .i64 0, .bool false] 49)) (.cells #[.int .i64 0, .int .i64 0, .int .u32 0, .int .u32 0, .int .u32 0] 38)
 have hx4 : W.heap[b + 1 + 1 + 1 + 1]? = some (.cells #[.bool false, .int .i64 0, .int .i64 0, .bool false] 49 (0, 0)) := by
  rw [hW, hb]
  simpa using heap_alloc_new ((((w.alloc (.cells #[.int .i64 n] 94)).alloc (.cells #[.bool true, .int .i64 x1, .int .i64 x2, .bool false] 49)).alloc (.cells #[.bool false, .int .i64 0, .int .i64 0, .bool false] 49)).alloc (.cells #[.int .i64 0, .int .i64 0, .int .u32 0, .int .u32 0, .int .u32 0] 38)) (.cells #[.bool false, .int .i64 0, .int .i64 0, .bool false] 49)
 have hlt := h.lt
 have hbs : w.heap.size ≤ b := Nat.le_of_eq hb.symm
 have n0g : b ≠ g := by omega
 have n0m : b ≠ pm := by omega
 have n1g : b + 1 ≠ g := by omega
 have n1m : b + 1 ≠ pm := by omega
 have n2g : b + 1 + 1 ≠ g := by omega
 have n2m : b + 1 + 1 ≠ pm := by omega
 have n3g : b + 1 + 1 + 1 ≠ g := by omega
 have n3m : b + 1 + 1 + 1 ≠ pm := by omega
 have n4g : b + 1 + 1 + 1 + 1 ≠ g := by omega
 have n4m : b + 1 + 1 + 1 + 1 ≠ pm := by omega
 have q0_0 := cell_of_heap (j := 0) hx0 rfl
 have q1_0 := cell_of_heap (j := 0) hx1 rfl
 have q1_1 := cell_of_heap (j := 1) hx1 rfl
 have q1_2 := cell_of_heap (j := 2) hx1 rfl
 have q1_3 := cell_of_heap (j := 3) hx1 rfl
 have q2_0 := cell_of_heap (j := 0) hx2 rfl
 have q2_1 := cell_of_heap (j := 1) hx2 rfl
 have q2_2 := cell_of_heap (j := 2) hx2 rfl
 have q2_3 := cell_of_heap (j := 3) hx2 rfl
 have q3_0 := cell_of_heap (j := 0) hx3 rfl
 have q3_1 := cell_of_heap (j := 1) hx3 rfl
 have q3_2 := cell_of_heap (j := 2) hx3 rfl
 have q3_3 := cell_of_heap (j := 3) hx3 rfl
 have q3_4 := cell_of_heap (j := 4) hx3 rfl
 have q4_0 := cell_of_heap (j := 0) hx4 rfl
 have q4_1 := cell_of_heap (j := 1) hx4 rfl
 have q4_2 := cell_of_heap (j := 2) hx4 rfl
 have q4_3 := cell_of_heap (j := 3) hx4 rfl
 have y1_0 := blk_frozen hx1 0
 have y1_1 := blk_frozen hx1 1
 have y1_2 := blk_frozen hx1 2
 have y1_3 := blk_frozen hx1 3
 have y2_0 := blk_frozen hx2 0
 have y2_1 := blk_frozen hx2 1
 have y2_2 := blk_frozen hx2 2
 have y2_3 := blk_frozen hx2 3
 have y3_0 := blk_frozen hx3 0
 have y3_1 := blk_frozen hx3 1
 have y3_2 := blk_frozen hx3 2
 have y3_3 := blk_frozen hx3 3
 have y3_4 := blk_frozen hx3 4
 go_enter Tryz.func145, Tryz.ntmps145
 go_upto_region 2 with (fail)
 rw [← hW, ← hb]
 replace h := Lib.hid h
 replace hb := Lib.hid hb
 replace hW := Lib.hid hW
 replace hm := Lib.hid hm
 replace hB := Lib.hid hB
 replace hx0 := Lib.hid hx0
 replace hx1 := Lib.hid hx1
 replace hx2 := Lib.hid hx2
 replace hx3 := Lib.hid hx3
 replace hx4 := Lib.hid hx4
 clear hlt
 replace hwc := Lib.hid hwc
 replace hdo := Lib.hid hdo
 replace hnx := Lib.hid hnx
 go_upto_region 11 with (first
  | (go_at_call 186; go_must (refine (hwc.out _).mono ?_; rintro e w1 ⟨rfl, hb1⟩; have hx0a := (hb1.block (b) (blk_lt hx0.out)).trans hx0.out; have hx1a := (hb1.block (b + 1) (blk_lt hx1.out)).trans hx1.out; have hx2a := (hb1.block (b + 1 + 1) (blk_lt hx2.out)).trans hx2.out; have hx3a := (hb1.block (b + 1 + 1 + 1) (blk_lt hx3.out)).trans hx3.out; have hx4a := (hb1.block (b + 1 + 1 + 1 + 1) (blk_lt hx4.out)).trans hx4.out; have hm1 := hm.out.below hb1; have hB1 := hB.out.trans (But.of_below hb1); clear hb1; clear q0_0 q1_0 q1_1 q1_2 q1_3 q2_0 q2_1 q2_2 q2_3 q3_0 q3_1 q3_2 q3_3 q3_4 q4_0 q4_1 q4_2 q4_3 y1_0 y1_1 y1_2 y1_3 y2_0 y2_1 y2_2 y2_3 y3_0 y3_1 y3_2 y3_3 y3_4; replace hx0a := Lib.hid hx0a; replace hx1a := Lib.hid hx1a; replace hx2a := Lib.hid hx2a; replace hx3a := Lib.hid hx3a; replace hx4a := Lib.hid hx4a; replace hm1 := Lib.hid hm1; replace hB1 := Lib.hid hB1))
  | (go_at_call 185; go_must (refine (hdo.out _ hm1.out).mono ?_; rintro e w2 ⟨rfl, hm2, hB2⟩; have hx0b := (hB2.block (b) (blk_lt hx0a.out) n0g).trans hx0a.out; have hx1b := (hB2.block (b + 1) (blk_lt hx1a.out) n1g).trans hx1a.out; have hx2b := (hB2.block (b + 1 + 1) (blk_lt hx2a.out) n2g).trans hx2a.out; have hx3b := (hB2.block (b + 1 + 1 + 1) (blk_lt hx3a.out) n3g).trans hx3a.out; have hx4b := (hB2.block (b + 1 + 1 + 1 + 1) (blk_lt hx4a.out) n4g).trans hx4a.out; have hB3 := hB1.out.trans hB2; clear hB2; replace hx0b := Lib.hid hx0b; replace hx1b := Lib.hid hx1b; replace hx2b := Lib.hid hx2b; replace hx3b := Lib.hid hx3b; replace hx4b := Lib.hid hx4b; replace hm2 := Lib.hid hm2; replace hB3 := Lib.hid hB3)))
 obtain ⟨ka, hka⟩ : ∃ ka, ka = w2.heap.size := ⟨_, rfl⟩
 rw [← hka]
 have hkl : b + 1 + 1 + 1 + 1 < ka := by rw [hka]; exact blk_lt hx4b.out
 have ea2 : ka ≠ b + 1 + 1 := by omega
 have e02 : b ≠ b + 1 + 1 := by omega
 have e12 : b + 1 ≠ b + 1 + 1 := by omega
 have ga : (w2.alloc (.cells #[.int .i64 a0, .int .i64 a1, .int .u32 a2, .int .u32 a3, .int .u32 a4] 38)).heap[ka]? = some (.cells #[.int .i64 a0, .int .i64 a1, .int .u32 a2, .int .u32 a3, .int .u32 a4] 38 (0, 0)) := by rw [hka]; exact heap_alloc_new _ _
 have g0 := blk_alloc hx0b.out (.cells #[.int .i64 a0, .int .i64 a1, .int .u32 a2, .int .u32 a3, .int .u32 a4] 38)
 have g1 := blk_alloc hx1b.out (.cells #[.int .i64 a0, .int .i64 a1, .int .u32 a2, .int .u32 a3, .int .u32 a4] 38)
 have g2 := blk_alloc hx2b.out (.cells #[.int .i64 a0, .int .i64 a1, .int .u32 a2, .int .u32 a3, .int .u32 a4] 38)
 have g3 := blk_alloc hx3b.out (.cells #[.int .i64 a0, .int .i64 a1, .int .u32 a2, .int .u32 a3, .int .u32 a4] 38)
 have g4 := blk_alloc hx4b.out (.cells #[.int .i64 a0, .int .i64 a1, .int .u32 a2, .int .u32 a3, .int .u32 a4] 38)
 have mN := hm2.out.alloc (.cells #[.int .i64 a0, .int .i64 a1, .int .u32 a2, .int .u32 a3, .int .u32 a4] 38)
 have bN := hB3.out.alloc (.cells #[.int .i64 a0, .int .i64 a1, .int .u32 a2, .int .u32 a3, .int .u32 a4] 38)
 replace hka := Lib.hid hka
 generalize (w2.alloc (.cells #[.int .i64 a0, .int .i64 a1, .int .u32 a2, .int .u32 a3, .int .u32 a4] 38)) = W2 at ga g0 g1 g2 g3 g4 mN bN ⊢
 have q1_0 := cell_of_heap (j := 0) g1 rfl
 have q1_1 := cell_of_heap (j := 1) g1 rfl
 have q1_2 := cell_of_heap (j := 2) g1 rfl
 have q1_3 := cell_of_heap (j := 3) g1 rfl
 have y1_0 := blk_frozen g1 0
 have y1_1 := blk_frozen g1 1
 have y1_2 := blk_frozen g1 2
 have y1_3 := blk_frozen g1 3
 have t4 := cell_of_heap (j := 4) ga rfl
 have q0_0 := cell_of_heap (j := 0) g0 rfl
 go_upto_region 15 with (go_at_call 184; go_must (refine (hnx.out _).mono ?_; rintro e w5 ⟨rfl, hb5⟩; replace ga := (hb5.block (ka) (blk_lt ga)).trans ga; replace g1 := (hb5.block (b + 1) (blk_lt g1)).trans g1; replace g2 := (hb5.block (b + 1 + 1) (blk_lt g2)).trans g2; replace g3 := (hb5.block (b + 1 + 1 + 1) (blk_lt g3)).trans g3; replace mN := mN.below hb5; replace bN := bN.trans (But.of_below hb5); clear hb5; clear q1_0 q1_1 q1_2 q1_3 y1_0 y1_1 y1_2 y1_3; clear t4 q0_0 g0 g4; have q1_0 := cell_of_heap (j := 0) g1 rfl; have q1_1 := cell_of_heap (j := 1) g1 rfl; have q1_2 := cell_of_heap (j := 2) g1 rfl; have q1_3 := cell_of_heap (j := 3) g1 rfl; have y1_0 := blk_frozen g1 0; have y1_1 := blk_frozen g1 1; have y1_2 := blk_frozen g1 2; have y1_3 := blk_frozen g1 3))
 have mN := mN
 have bN := bN
 replace g1 := blk_set g1 0 (.bool y0)
 replace g2 := blk_far g2 (p := ⟨b + 1, 0, none⟩) (by show b + 1 + 1 ≠ b + 1; omega) (.bool y0)
 replace g3 := blk_far g3 (p := ⟨b + 1, 0, none⟩) (by show b + 1 + 1 + 1 ≠ b + 1; omega) (.bool y0)
 replace ga := blk_far ga (p := ⟨b + 1, 0, none⟩) (by show ka ≠ b + 1; omega) (.bool y0)
 replace mN := mN.far ⟨b + 1, 0, none⟩ (by show b + 1 ≠ pm; omega) (by show b + 1 ≠ g; omega) (.bool y0)
 replace bN := bN.set ⟨b + 1, 0, none⟩ (by right; show w.heap.size ≤ b + 1; omega) (.bool y0)
 replace g1 := blk_set g1 1 (.int .i64 y1)
 replace g2 := blk_far g2 (p := ⟨b + 1, 1, none⟩) (by show b + 1 + 1 ≠ b + 1; omega) (.int .i64 y1)
 replace g3 := blk_far g3 (p := ⟨b + 1, 1, none⟩) (by show b + 1 + 1 + 1 ≠ b + 1; omega) (.int .i64 y1)
 replace ga := blk_far ga (p := ⟨b + 1, 1, none⟩) (by show ka ≠ b + 1; omega) (.int .i64 y1)
 replace mN := mN.far ⟨b + 1, 1, none⟩ (by show b + 1 ≠ pm; omega) (by show b + 1 ≠ g; omega) (.int .i64 y1)
 replace bN := bN.set ⟨b + 1, 1, none⟩ (by right; show w.heap.size ≤ b + 1; omega) (.int .i64 y1)
 replace g1 := blk_set g1 2 (.int .i64 y2)
 replace g2 := blk_far g2 (p := ⟨b + 1, 2, none⟩) (by show b + 1 + 1 ≠ b + 1; omega) (.int .i64 y2)
 replace g3 := blk_far g3 (p := ⟨b + 1, 2, none⟩) (by show b + 1 + 1 + 1 ≠ b + 1; omega) (.int .i64 y2)
 replace ga := blk_far ga (p := ⟨b + 1, 2, none⟩) (by show ka ≠ b + 1; omega) (.int .i64 y2)
 replace mN := mN.far ⟨b + 1, 2, none⟩ (by show b + 1 ≠ pm; omega) (by show b + 1 ≠ g; omega) (.int .i64 y2)
 replace bN := bN.set ⟨b + 1, 2, none⟩ (by right; show w.heap.size ≤ b + 1; omega) (.int .i64 y2)
 replace g1 := blk_set g1 3 (.bool y3)
 replace g2 := blk_far g2 (p := ⟨b + 1, 3, none⟩) (by show b + 1 + 1 ≠ b + 1; omega) (.bool y3)
 replace g3 := blk_far g3 (p := ⟨b + 1, 3, none⟩) (by show b + 1 + 1 + 1 ≠ b + 1; omega) (.bool y3)
 replace ga := blk_far ga (p := ⟨b + 1, 3, none⟩) (by show ka ≠ b + 1; omega) (.bool y3)
 replace mN := mN.far ⟨b + 1, 3, none⟩ (by show b + 1 ≠ pm; omega) (by show b + 1 ≠ g; omega) (.bool y3)
 replace bN := bN.set ⟨b + 1, 3, none⟩ (by right; show w.heap.size ≤ b + 1; omega) (.bool y3)
 generalize ((((w5.setCell ⟨b + 1, 0, none⟩ (.bool y0)).setCell ⟨b + 1, 1, none⟩ (.int .i64 y1)).setCell ⟨b + 1, 2, none⟩ (.int .i64 y2)).setCell ⟨b + 1, 3, none⟩ (.bool y3)) = W3 at ga g1 g2 g3 mN bN ⊢
 replace g1 : W3.heap[b + 1]? = some (.cells #[.bool y0, .int .i64 y1, .int .i64 y2, .bool y3] 49 (0, 0)) := g1
 clear q1_0 q1_1 q1_2 q1_3 y1_0 y1_1 y1_2 y1_3
 have z2_0 := blk_frozen g2 0
 have z2_1 := blk_frozen g2 1
 have z2_2 := blk_frozen g2 2
 have z2_3 := blk_frozen g2 3
 have z3_0 := blk_frozen g3 0
 have z3_1 := blk_frozen g3 1
 have z3_2 := blk_frozen g3 2
 have z3_3 := blk_frozen g3 3
 have z3_4 := blk_frozen g3 4
 have p2_0 := cell_of_heap (j := 0) g2 rfl
 have p2_1 := cell_of_heap (j := 1) g2 rfl
 have p2_2 := cell_of_heap (j := 2) g2 rfl
 have p2_3 := cell_of_heap (j := 3) g2 rfl
 have p3_0 := cell_of_heap (j := 0) g3 rfl
 have p3_1 := cell_of_heap (j := 1) g3 rfl
 have p3_2 := cell_of_heap (j := 2) g3 rfl
 have p3_3 := cell_of_heap (j := 3) g3 rfl
 have p3_4 := cell_of_heap (j := 4) g3 rfl
 refine start_ (n := 4) (S := fun w' => w'.cell? ⟨b + 1, 0, none⟩ = some (.bool y0) ∧ w'.cell? ⟨b + 1, 1, none⟩ = some (.int .i64 y1) ∧ w'.cell? ⟨b + 1, 2, none⟩ = some (.int .i64 y2) ∧ w'.cell? ⟨b + 1, 3, none⟩ = some (.bool y3) ∧ w'.cell? ⟨ka, 0, none⟩ = some (.int .i64 a0) ∧ w'.cell? ⟨ka, 1, none⟩ = some (.int .i64 a1) ∧ w'.cell? ⟨ka, 2, none⟩ = some (.int .u32 a2) ∧ w'.cell? ⟨ka, 3, none⟩ = some (.int .u32 a3) ∧ w'.cell? ⟨ka, 4, none⟩ = some (.int .u32 a4)) (ds := [3]) #[false, false, false, false] (by kernel_rfl) rfl rfl ⟨cell_of_heap (j := 0) (blk_drew g1) rfl, cell_of_heap (j := 1) (blk_drew g1) rfl, cell_of_heap (j := 2) (blk_drew g1) rfl, cell_of_heap (j := 3) (blk_drew g1) rfl, cell_of_heap (j := 0) (blk_drew ga) rfl, cell_of_heap (j := 1) (blk_drew ga) rfl, cell_of_heap (j := 2) (blk_drew ga) rfl, cell_of_heap (j := 3) (blk_drew ga) rfl, cell_of_heap (j := 4) (blk_drew ga) rfl⟩ (fun hHeld => ?_)
 refine take_ (i := 0) (N := some 63) (v := ?_) (a' := ?_) (mk 4 1) rfl rfl (by kernel_rfl) (fun _ _ _ h => h) (Or.inl ⟨by rfl, ?_⟩) hHeld ?_ ?_
 rotate_left
 ·exact e144
 rotate_left
 ·exact e4
 refine take_ (i := 1) (N := some 64) (v := ?_) (a' := ?_) (mk 4 3) rfl rfl (by kernel_rfl) (fun _ _ _ h => h) (Or.inl ⟨by rfl, ?_⟩) hHeld ?_ ?_
 rotate_left
 ·exact e144
 rotate_left
 ·exact e4
 refine one_ (i := 2) (N := none) (mk 4 7) rfl rfl (by kernel_rfl) (by decide) (fun K hK => ?_)
 refine skip_ (w1 := ?_) (by rfl) rfl ?_ ?_
 rotate_left
 ·go_simp
  rfl
 refine hK.out _ _ ⟨cell_of_heap (j := 0) (blk_drew (blk_far (blk_far (blk_far (blk_far g1 (p := ⟨b + 1 + 1, 0, none⟩) e12 (.bool y0)) (p := ⟨b + 1 + 1, 1, none⟩) e12 (.int .i64 y1)) (p := ⟨b + 1 + 1, 2, none⟩) e12 (.int .i64 y2)) (p := ⟨b + 1 + 1, 3, none⟩) e12 (.bool y3))) rfl, cell_of_heap (j := 1) (blk_drew (blk_far (blk_far (blk_far (blk_far g1 (p := ⟨b + 1 + 1, 0, none⟩) e12 (.bool y0)) (p := ⟨b + 1 + 1, 1, none⟩) e12 (.int .i64 y1)) (p := ⟨b + 1 + 1, 2, none⟩) e12 (.int .i64 y2)) (p := ⟨b + 1 + 1, 3, none⟩) e12 (.bool y3))) rfl, cell_of_heap (j := 2) (blk_drew (blk_far (blk_far (blk_far (blk_far g1 (p := ⟨b + 1 + 1, 0, none⟩) e12 (.bool y0)) (p := ⟨b + 1 + 1, 1, none⟩) e12 (.int .i64 y1)) (p := ⟨b + 1 + 1, 2, none⟩) e12 (.int .i64 y2)) (p := ⟨b + 1 + 1, 3, none⟩) e12 (.bool y3))) rfl, cell_of_heap (j := 3) (blk_drew (blk_far (blk_far (blk_far (blk_far g1 (p := ⟨b + 1 + 1, 0, none⟩) e12 (.bool y0)) (p := ⟨b + 1 + 1, 1, none⟩) e12 (.int .i64 y1)) (p := ⟨b + 1 + 1, 2, none⟩) e12 (.int .i64 y2)) (p := ⟨b + 1 + 1, 3, none⟩) e12 (.bool y3))) rfl, cell_of_heap (j := 0) (blk_drew (blk_far (blk_far (blk_far (blk_far ga (p := ⟨b + 1 + 1, 0, none⟩) ea2 (.bool y0)) (p := ⟨b + 1 + 1, 1, none⟩) ea2 (.int .i64 y1)) (p := ⟨b + 1 + 1, 2, none⟩) ea2 (.int .i64 y2)) (p := ⟨b + 1 + 1, 3, none⟩) ea2 (.bool y3))) rfl, cell_of_heap (j := 1) (blk_drew (blk_far (blk_far (blk_far (blk_far ga (p := ⟨b + 1 + 1, 0, none⟩) ea2 (.bool y0)) (p := ⟨b + 1 + 1, 1, none⟩) ea2 (.int .i64 y1)) (p := ⟨b + 1 + 1, 2, none⟩) ea2 (.int .i64 y2)) (p := ⟨b + 1 + 1, 3, none⟩) ea2 (.bool y3))) rfl, cell_of_heap (j := 2) (blk_drew (blk_far (blk_far (blk_far (blk_far ga (p := ⟨b + 1 + 1, 0, none⟩) ea2 (.bool y0)) (p := ⟨b + 1 + 1, 1, none⟩) ea2 (.int .i64 y1)) (p := ⟨b + 1 + 1, 2, none⟩) ea2 (.int .i64 y2)) (p := ⟨b + 1 + 1, 3, none⟩) ea2 (.bool y3))) rfl, cell_of_heap (j := 3) (blk_drew (blk_far (blk_far (blk_far (blk_far ga (p := ⟨b + 1 + 1, 0, none⟩) ea2 (.bool y0)) (p := ⟨b + 1 + 1, 1, none⟩) ea2 (.int .i64 y1)) (p := ⟨b + 1 + 1, 2, none⟩) ea2 (.int .i64 y2)) (p := ⟨b + 1 + 1, 3, none⟩) ea2 (.bool y3))) rfl, cell_of_heap (j := 4) (blk_drew (blk_far (blk_far (blk_far (blk_far ga (p := ⟨b + 1 + 1, 0, none⟩) ea2 (.bool y0)) (p := ⟨b + 1 + 1, 1, none⟩) ea2 (.int .i64 y1)) (p := ⟨b + 1 + 1, 2, none⟩) ea2 (.int .i64 y2)) (p := ⟨b + 1 + 1, 3, none⟩) ea2 (.bool y3))) rfl⟩ (fun hHeld => ?_)
 clear hK K
 refine last_ (i := 3) (N := none) (mk 4 15) rfl rfl (by kernel_rfl) (by decide) (fun K hK => ?_)
 refine skip_ (w1 := ?_) (by rfl) rfl ?_ ?_
 rotate_left
 ·go_simp
  rfl
 refine hK.out _ _ ?_
 clear hK K
 refine done_ (by kernel_rfl) ?_
 have h2 := g2
 have h3 := g3
 have m0 := mN
 have b0 := bN
 replace h2 := blk_set h2 0 (.bool y0)
 replace h3 := blk_far h3 (p := ⟨b + 1 + 1, 0, none⟩) (by show b + 1 + 1 + 1 ≠ b + 1 + 1; omega) (.bool y0)
 replace m0 := m0.far ⟨b + 1 + 1, 0, none⟩ (by show b + 1 + 1 ≠ pm; omega) (by show b + 1 + 1 ≠ g; omega) (.bool y0)
 replace b0 := b0.set ⟨b + 1 + 1, 0, none⟩ (by right; show w.heap.size ≤ b + 1 + 1; omega) (.bool y0)
 replace h2 := blk_set h2 1 (.int .i64 y1)
 replace h3 := blk_far h3 (p := ⟨b + 1 + 1, 1, none⟩) (by show b + 1 + 1 + 1 ≠ b + 1 + 1; omega) (.int .i64 y1)
 replace m0 := m0.far ⟨b + 1 + 1, 1, none⟩ (by show b + 1 + 1 ≠ pm; omega) (by show b + 1 + 1 ≠ g; omega) (.int .i64 y1)
 replace b0 := b0.set ⟨b + 1 + 1, 1, none⟩ (by right; show w.heap.size ≤ b + 1 + 1; omega) (.int .i64 y1)
 replace h2 := blk_set h2 2 (.int .i64 y2)
 replace h3 := blk_far h3 (p := ⟨b + 1 + 1, 2, none⟩) (by show b + 1 + 1 + 1 ≠ b + 1 + 1; omega) (.int .i64 y2)
 replace m0 := m0.far ⟨b + 1 + 1, 2, none⟩ (by show b + 1 + 1 ≠ pm; omega) (by show b + 1 + 1 ≠ g; omega) (.int .i64 y2)
 replace b0 := b0.set ⟨b + 1 + 1, 2, none⟩ (by right; show w.heap.size ≤ b + 1 + 1; omega) (.int .i64 y2)
 replace h2 := blk_set h2 3 (.bool y3)
 replace h3 := blk_far h3 (p := ⟨b + 1 + 1, 3, none⟩) (by show b + 1 + 1 + 1 ≠ b + 1 + 1; omega) (.bool y3)
 replace m0 := m0.far ⟨b + 1 + 1, 3, none⟩ (by show b + 1 + 1 ≠ pm; omega) (by show b + 1 + 1 ≠ g; omega) (.bool y3)
 replace b0 := b0.set ⟨b + 1 + 1, 3, none⟩ (by right; show w.heap.size ≤ b + 1 + 1; omega) (.bool y3)
 replace h2 := blk_far h2 (p := ⟨b + 1 + 1 + 1, 0, none⟩) (by show b + 1 + 1 ≠ b + 1 + 1 + 1; omega) (.int .i64 a0)
 replace h3 := blk_set h3 0 (.int .i64 a0)
 replace m0 := m0.far ⟨b + 1 + 1 + 1, 0, none⟩ (by show b + 1 + 1 + 1 ≠ pm; omega) (by show b + 1 + 1 + 1 ≠ g; omega) (.int .i64 a0)
 replace b0 := b0.set ⟨b + 1 + 1 + 1, 0, none⟩ (by right; show w.heap.size ≤ b + 1 + 1 + 1; omega) (.int .i64 a0)
 replace h2 := blk_far h2 (p := ⟨b + 1 + 1 + 1, 1, none⟩) (by show b + 1 + 1 ≠ b + 1 + 1 + 1; omega) (.int .i64 a1)
 replace h3 := blk_set h3 1 (.int .i64 a1)
 replace m0 := m0.far ⟨b + 1 + 1 + 1, 1, none⟩ (by show b + 1 + 1 + 1 ≠ pm; omega) (by show b + 1 + 1 + 1 ≠ g; omega) (.int .i64 a1)
 replace b0 := b0.set ⟨b + 1 + 1 + 1, 1, none⟩ (by right; show w.heap.size ≤ b + 1 + 1 + 1; omega) (.int .i64 a1)
 replace h2 := blk_far h2 (p := ⟨b + 1 + 1 + 1, 2, none⟩) (by show b + 1 + 1 ≠ b + 1 + 1 + 1; omega) (.int .u32 a2)
 replace h3 := blk_set h3 2 (.int .u32 a2)
 replace m0 := m0.far ⟨b + 1 + 1 + 1, 2, none⟩ (by show b + 1 + 1 + 1 ≠ pm; omega) (by show b + 1 + 1 + 1 ≠ g; omega) (.int .u32 a2)
 replace b0 := b0.set ⟨b + 1 + 1 + 1, 2, none⟩ (by right; show w.heap.size ≤ b + 1 + 1 + 1; omega) (.int .u32 a2)
 replace h2 := blk_far h2 (p := ⟨b + 1 + 1 + 1, 3, none⟩) (by show b + 1 + 1 ≠ b + 1 + 1 + 1; omega) (.int .u32 a3)
 replace h3 := blk_set h3 3 (.int .u32 a3)
 replace m0 := m0.far ⟨b + 1 + 1 + 1, 3, none⟩ (by show b + 1 + 1 + 1 ≠ pm; omega) (by show b + 1 + 1 + 1 ≠ g; omega) (.int .u32 a3)
 replace b0 := b0.set ⟨b + 1 + 1 + 1, 3, none⟩ (by right; show w.heap.size ≤ b + 1 + 1 + 1; omega) (.int .u32 a3)
 replace h2 := blk_far h2 (p := ⟨b + 1 + 1 + 1, 4, none⟩) (by show b + 1 + 1 ≠ b + 1 + 1 + 1; omega) (.int .u32 a4)
 replace h3 := blk_set h3 4 (.int .u32 a4)
 replace m0 := m0.far ⟨b + 1 + 1 + 1, 4, none⟩ (by show b + 1 + 1 + 1 ≠ pm; omega) (by show b + 1 + 1 + 1 ≠ g; omega) (.int .u32 a4)
 replace b0 := b0.set ⟨b + 1 + 1 + 1, 4, none⟩ (by right; show w.heap.size ≤ b + 1 + 1 + 1; omega) (.int .u32 a4)
 replace h2 := blk_drew h2
 replace h3 := blk_drew h3
 replace m0 := m0.drew
 replace b0 := b0.drew
 exact e143
set_option maxHeartbeats 2000000 in
theorem load_same (l : List Int) (c x y : Int) : (doAcc l 1 c x y).2.2 = l := by
 unfold doAcc
 split
 ·simp
 ·rfl
set_option maxHeartbeats 2000000 in
theorem wakestep_walk (h : Mm w pm g l) (n : Int) (x : WakeSt) (hi : 0 ≤ x.i ∧ x.i ≤ 1000) : Calls Tryz.prog 145 #[.pointer (some ⟨pm, 0, none⟩), .agg #[.int .i64 n], wakeV x] w fun e w' => e = .returned (.tuple #[wakeV (wakeStep l n x).1, accV (wakeStep l n x).2.1]) ∧ Mm w' pm g (wakeStep l n x).2.2 ∧ But g w w' := by
 obtain ⟨x0, x1, x2, x3⟩ := x
 cases x0 with
 | false => exact wkstep_off h n x1 x2 x3
 | true =>
  cases x3 with
  | true =>
   have hg := fun W' (hW' : Mm W' pm g l) => give_walk hW' n x2
   have hr : wakeStep l n ⟨true, x1, x2, true⟩ = if (doAcc l 2 (ppermit n x2) 1 0).2.1 = true then (wakeNext n ⟨true, x1, x2, true⟩, (doAcc l 2 (ppermit n x2) 1 0).1, (doAcc l 2 (ppermit n x2) 1 0).2.2) else (.none, .zero, (doAcc l 2 (ppermit n x2) 1 0).2.2) := rfl
   rw [hr]
   clear hr
   generalize doAcc l 2 (ppermit n x2) 1 0 = d at hg ⊢
   obtain ⟨⟨a0, a1, a2, a3, a4⟩, ok, l1⟩ := d
   cases ok with
   | false => exact wkstep_hit_no h n x1 x2 a0 a1 a2 a3 a4 hg
   | true =>
    have hn := next_walk n ⟨true, x1, x2, true⟩ hi
    rw [if_pos rfl]
    generalize wakeNext n ⟨true, x1, x2, true⟩ = y at hn ⊢
    obtain ⟨y0, y1, y2, y3⟩ := y
    exact wkstep_hit_ok h n x1 x2 a0 a1 a2 a3 a4 hg y0 y3 y1 y2 hn
  | false =>
   have hg := fun W' (hW' : Mm W' pm g l) => do_walk hW' 1 (pwatch n x2) 0 0 0 (by omega)
   have hr : wakeStep l n ⟨true, x1, x2, false⟩ = if (doAcc l 1 (pwatch n x2) 0 0).2.1 = false then (.none, (doAcc l 1 (pwatch n x2) 0 0).1, l) else if (doAcc l 1 (pwatch n x2) 0 0).1.old = u32 (x1 + 1) then (⟨true, x1, x2, true⟩, (doAcc l 1 (pwatch n x2) 0 0).1, l) else (wakeNext n ⟨true, x1, x2, false⟩, (doAcc l 1 (pwatch n x2) 0 0).1, l) := rfl
   rw [hr]
   clear hr
   have hl := load_same l (pwatch n x2) 0 0
   have hw := pwatch_walk n x2
   generalize pwatch n x2 = c at hg hl hw ⊢
   generalize doAcc l 1 c 0 0 = d at hg hl ⊢
   obtain ⟨⟨a0, a1, a2, a3, a4⟩, ok, l1⟩ := d
   obtain rfl : l1 = l := hl
   cases ok with
   | false => exact wkstep_look_no h n x1 x2 a0 a1 a2 a3 a4 c hw hg
   | true =>
    simp only [Bool.true_eq_false, if_false]
    by_cases hq : a4 = u32 (x1 + 1)
    ·rw [if_pos hq]
     exact wkstep_look_eq h n x1 x2 a0 a1 a2 a3 a4 c hw hg (by rw [conv_u32]; exact beq_iff_eq.mpr hq)
    ·rw [if_neg hq]
     have hn := next_walk n ⟨true, x1, x2, false⟩ hi
     generalize wakeNext n ⟨true, x1, x2, false⟩ = y at hn ⊢
     obtain ⟨y0, y1, y2, y3⟩ := y
     exact wkstep_look_next h n x1 x2 a0 a1 a2 a3 a4 c hw hg (by rw [conv_u32]; exact beq_eq_false_iff_ne.mpr hq) y0 y3 y1 y2 hn
set_option maxHeartbeats 2000000 in
theorem wstuck_walk (h : Mm w pm g l) (n mode task st : Int) : Calls Tryz.prog 82 #[.pointer (some ⟨pm, 0, none⟩), .agg #[.int .i64 n], .int .i64 mode, .int .i64 task, .agg #[.int .i64 st]] w fun e w' => e = .returned (.bool (decide (stageOf mode st = 3 ∧ (doAcc l 1 (ppermit n task) 0 0).1.old = 0))) ∧ Mm w' pm g l ∧ But g w w' := by
 have hst := stage_walk mode st
 have hth := fun W' (hW' : Mm W' pm g l) => there_walk hW' n task
 generalize stageOf mode st = s at hst ⊢
 generalize (doAcc l 1 (ppermit n task) 0 0).1.old = v at hth ⊢
 replace hst := Lib.hid hst
 replace hth := Lib.hid hth
 by_cases hs3 : s = 3
 ·have hsb : (s == 3) = true := beq_iff_eq.mpr hs3
  have hfin : (!(v != 0)) = decide (s = 3 ∧ v = 0) := by by_cases hv : v = 0 <;> simp [hs3, hv]
  rw [← hfin]
  clear hfin
  replace hs3 := Lib.hid hs3
  obtain ⟨b, hb⟩ : ∃ b, b = w.heap.size := ⟨_, rfl⟩
  obtain ⟨W, hW⟩ : ∃ W, W = ((w.alloc (.cells #[.int .i64 n] 94)).alloc (.cells #[.int .i64 st] 47)) := ⟨_, rfl⟩
  have hm : Mm W pm g l := by rw [hW]; exact ((h).alloc _).alloc _
  have hB : But g w W := by rw [hW]; exact ((But.refl g w).alloc _).alloc _
  have hx0 : W.heap[b]? = some (.cells #[.int .i64 n] 94 (0, 0)) := by
   rw [hW, hb]
   refine blk_alloc ?_ _
   simpa using heap_alloc_new w (.cells #[.int .i64 n] 94)
  have hx1 : W.heap[b + 1]? = some (.cells #[.int .i64 st] 47 (0, 0)) := by
   rw [hW, hb]
   simpa using heap_alloc_new (w.alloc (.cells #[.int .i64 n] 94)) (.cells #[.int .i64 st] 47)
  have hlt := h.lt
  have hbs : w.heap.size ≤ b := Nat.le_of_eq hb.symm
  have n0g : b ≠ g := by omega
  have n0m : b ≠ pm := by omega
  have n1g : b + 1 ≠ g := by omega
  have n1m : b + 1 ≠ pm := by omega
  have q0_0 := cell_of_heap (j := 0) hx0 rfl
  have q1_0 := cell_of_heap (j := 0) hx1 rfl
  go_enter Tryz.func82, Tryz.ntmps82
  go_upto_region 1 with (fail)
  rw [← hW, ← hb]
  replace h := Lib.hid h
  replace hb := Lib.hid hb
  replace hW := Lib.hid hW
  replace hm := Lib.hid hm
  replace hB := Lib.hid hB
  replace hx0 := Lib.hid hx0
  replace hx1 := Lib.hid hx1
  clear hlt
  go_wp2_with (first
   | (go_at_call 140; go_must (refine (hst.out _).mono ?_; rintro e w1 ⟨rfl, hb1⟩; have hx0a := (hb1.block b (blk_lt hx0.out)).trans hx0.out; have hm1 := hm.out.below hb1; have hB1 := hB.out.trans (But.of_below hb1); clear hb1 q0_0 q1_0; have q0_0 := cell_of_heap (j := 0) hx0a rfl; replace hx0a := Lib.hid hx0a; replace hm1 := Lib.hid hm1; replace hB1 := Lib.hid hB1))
   | (go_at_call 141; go_must (refine (hth.out _ hm1.out).mono ?_; rintro e w2 ⟨rfl, hm2, hB2⟩; have hB3 := hB1.out.trans hB2; clear hB2; replace hm2 := Lib.hid hm2; replace hB3 := Lib.hid hB3)))
  go_ret
  exact ⟨rfl, hm2.out, hB3.out⟩
 ·have hsb : (s == 3) = false := beq_eq_false_iff_ne.mpr hs3
  rw [decide_eq_false (fun k => hs3 k.1)]
  replace hs3 := Lib.hid hs3
  obtain ⟨b, hb⟩ : ∃ b, b = w.heap.size := ⟨_, rfl⟩
  obtain ⟨W, hW⟩ : ∃ W, W = ((w.alloc (.cells #[.int .i64 n] 94)).alloc (.cells #[.int .i64 st] 47)) := ⟨_, rfl⟩
  have hm : Mm W pm g l := by rw [hW]; exact ((h).alloc _).alloc _
  have hB : But g w W := by rw [hW]; exact ((But.refl g w).alloc _).alloc _
  have hx0 : W.heap[b]? = some (.cells #[.int .i64 n] 94 (0, 0)) := by
   rw [hW, hb]
   refine blk_alloc ?_ _
   simpa using heap_alloc_new w (.cells #[.int .i64 n] 94)
  have hx1 : W.heap[b + 1]? = some (.cells #[.int .i64 st] 47 (0, 0)) := by
   rw [hW, hb]
   simpa using heap_alloc_new (w.alloc (.cells #[.int .i64 n] 94)) (.cells #[.int .i64 st] 47)
  have hlt := h.lt
  have hbs : w.heap.size ≤ b := Nat.le_of_eq hb.symm
  have n0g : b ≠ g := by omega
  have n0m : b ≠ pm := by omega
  have n1g : b + 1 ≠ g := by omega
  have n1m : b + 1 ≠ pm := by omega
  have q0_0 := cell_of_heap (j := 0) hx0 rfl
  have q1_0 := cell_of_heap (j := 0) hx1 rfl
  go_enter Tryz.func82, Tryz.ntmps82
  go_upto_region 1 with (fail)
  rw [← hW, ← hb]
  replace h := Lib.hid h
  replace hb := Lib.hid hb
  replace hW := Lib.hid hW
  replace hm := Lib.hid hm
  replace hB := Lib.hid hB
  replace hx0 := Lib.hid hx0
  replace hx1 := Lib.hid hx1
  clear hlt
  go_wp2_with (first
   | (go_at_call 140; go_must (refine (hst.out _).mono ?_; rintro e w1 ⟨rfl, hb1⟩; have hx0a := (hb1.block b (blk_lt hx0.out)).trans hx0.out; have hm1 := hm.out.below hb1; have hB1 := hB.out.trans (But.of_below hb1); clear hb1 q0_0 q1_0; have q0_0 := cell_of_heap (j := 0) hx0a rfl; replace hx0a := Lib.hid hx0a; replace hm1 := Lib.hid hm1; replace hB1 := Lib.hid hB1))
   | (go_at_call 141; go_must (refine (hth.out _ hm1.out).mono ?_; rintro e w2 ⟨rfl, hm2, hB2⟩; have hB3 := hB1.out.trans hB2; clear hB2; replace hm2 := Lib.hid hm2; replace hB3 := Lib.hid hB3)))
  go_ret
  exact ⟨rfl, hm1.out, hB1.out⟩
set_option maxHeartbeats 2000000 in
theorem lstuck_true (h : Mm w pm g r.l) (nv : Value) : Calls Tryz.prog 41 #[.agg #[.pointer (some ⟨pm, 0, none⟩), .int .i64 r.n, .int .i64 r.mode, .int .i64 r.task, .int .i64 r.f.op, .int .i64 r.f.line, .int .u32 r.f.a, .int .u32 r.f.b, .int .i64 r.f.stage, .bool true, .int .i64 r.f.wc, .int .i64 r.f.wi, .bool r.f.hit, .int .i64 r.f.ret, .int .i64 r.acc.kind, .int .i64 r.acc.cell, .int .u32 r.acc.x, .int .u32 r.acc.y, .int .u32 r.acc.old, nv]] w fun e w' => e = .returned (.bool false) ∧ Mm w' pm g r.l ∧ But g w w' := by
 obtain ⟨b, hb⟩ : ∃ b, b = w.heap.size := ⟨_, rfl⟩
 obtain ⟨W, hW⟩ : ∃ W, W = (w.alloc (.cells #[.pointer (some ⟨pm, 0, none⟩), .int .i64 r.n, .int .i64 r.mode, .int .i64 r.task, .int .i64 r.f.op, .int .i64 r.f.line, .int .u32 r.f.a, .int .u32 r.f.b, .int .i64 r.f.stage, .bool true, .int .i64 r.f.wc, .int .i64 r.f.wi, .bool r.f.hit, .int .i64 r.f.ret, .int .i64 r.acc.kind, .int .i64 r.acc.cell, .int .u32 r.acc.x, .int .u32 r.acc.y, .int .u32 r.acc.old, nv] 99)) := ⟨_, rfl⟩
 have hm : Mm W pm g r.l := by rw [hW]; exact (h).alloc _
 have hB : But g w W := by rw [hW]; exact (But.refl g w).alloc _
 have hx0 : W.heap[b]? = some (.cells #[.pointer (some ⟨pm, 0, none⟩), .int .i64 r.n, .int .i64 r.mode, .int .i64 r.task, .int .i64 r.f.op, .int .i64 r.f.line, .int .u32 r.f.a, .int .u32 r.f.b, .int .i64 r.f.stage, .bool true, .int .i64 r.f.wc, .int .i64 r.f.wi, .bool r.f.hit, .int .i64 r.f.ret, .int .i64 r.acc.kind, .int .i64 r.acc.cell, .int .u32 r.acc.x, .int .u32 r.acc.y, .int .u32 r.acc.old, nv] 99 (0, 0)) := by
  rw [hW, hb]
  simpa using heap_alloc_new w (.cells #[.pointer (some ⟨pm, 0, none⟩), .int .i64 r.n, .int .i64 r.mode, .int .i64 r.task, .int .i64 r.f.op, .int .i64 r.f.line, .int .u32 r.f.a, .int .u32 r.f.b, .int .i64 r.f.stage, .bool true, .int .i64 r.f.wc, .int .i64 r.f.wi, .bool r.f.hit, .int .i64 r.f.ret, .int .i64 r.acc.kind, .int .i64 r.acc.cell, .int .u32 r.acc.x, .int .u32 r.acc.y, .int .u32 r.acc.old, nv] 99)
 have hlt := h.lt
 have hbs : w.heap.size ≤ b := Nat.le_of_eq hb.symm
 have n0g : b ≠ g := by omega
 have n0m : b ≠ pm := by omega
 have q0 := cell_of_heap (j := 0) hx0 rfl
 have q1 := cell_of_heap (j := 1) hx0 rfl
 have q2 := cell_of_heap (j := 2) hx0 rfl
 have q3 := cell_of_heap (j := 3) hx0 rfl
 have q8 := cell_of_heap (j := 8) hx0 rfl
 have q9 := cell_of_heap (j := 9) hx0 rfl
 go_enter Tryz.func41, Tryz.ntmps41
 go_upto_region 1 with (fail)
 rw [← hW, ← hb]
 replace h := Lib.hid h
 replace hb := Lib.hid hb
 replace hW := Lib.hid hW
 replace hm := Lib.hid hm
 replace hB := Lib.hid hB
 replace hx0 := Lib.hid hx0
 clear hlt
 go_wp2
 go_ret
 exact ⟨rfl, hm.out, hB.out⟩
set_option maxHeartbeats 2000000 in
theorem lstuck_false (h : Mm w pm g r.l) (nv : Value) : Calls Tryz.prog 41 #[.agg #[.pointer (some ⟨pm, 0, none⟩), .int .i64 r.n, .int .i64 r.mode, .int .i64 r.task, .int .i64 r.f.op, .int .i64 r.f.line, .int .u32 r.f.a, .int .u32 r.f.b, .int .i64 r.f.stage, .bool false, .int .i64 r.f.wc, .int .i64 r.f.wi, .bool r.f.hit, .int .i64 r.f.ret, .int .i64 r.acc.kind, .int .i64 r.acc.cell, .int .u32 r.acc.x, .int .u32 r.acc.y, .int .u32 r.acc.old, nv]] w fun e w' => e = .returned (.bool (decide (stageOf r.mode r.f.stage = 3 ∧ (doAcc r.l 1 (ppermit r.n r.task) 0 0).1.old = 0))) ∧ Mm w' pm g r.l ∧ But g w w' := by
 have hws := fun W' (hW' : Mm W' pm g r.l) => wstuck_walk hW' r.n r.mode r.task r.f.stage
 generalize decide (stageOf r.mode r.f.stage = 3 ∧ (doAcc r.l 1 (ppermit r.n r.task) 0 0).1.old = 0) = z at hws ⊢
 replace hws := Lib.hid hws
 obtain ⟨b, hb⟩ : ∃ b, b = w.heap.size := ⟨_, rfl⟩
 obtain ⟨W, hW⟩ : ∃ W, W = (w.alloc (.cells #[.pointer (some ⟨pm, 0, none⟩), .int .i64 r.n, .int .i64 r.mode, .int .i64 r.task, .int .i64 r.f.op, .int .i64 r.f.line, .int .u32 r.f.a, .int .u32 r.f.b, .int .i64 r.f.stage, .bool false, .int .i64 r.f.wc, .int .i64 r.f.wi, .bool r.f.hit, .int .i64 r.f.ret, .int .i64 r.acc.kind, .int .i64 r.acc.cell, .int .u32 r.acc.x, .int .u32 r.acc.y, .int .u32 r.acc.old, nv] 99)) := ⟨_, rfl⟩
 have hm : Mm W pm g r.l := by rw [hW]; exact (h).alloc _
 have hB : But g w W := by rw [hW]; exact (But.refl g w).alloc _
 have hx0 : W.heap[b]? = some (.cells #[.pointer (some ⟨pm, 0, none⟩), .int .i64 r.n, .int .i64 r.mode, .int .i64 r.task, .int .i64 r.f.op, .int .i64 r.f.line, .int .u32 r.f.a, .int .u32 r.f.b, .int .i64 r.f.stage, .bool false, .int .i64 r.f.wc, .int .i64 r.f.wi, .bool r.f.hit, .int .i64 r.f.ret, .int .i64 r.acc.kind, .int .i64 r.acc.cell, .int .u32 r.acc.x, .int .u32 r.acc.y, .int .u32 r.acc.old, nv] 99 (0, 0)) := by
  rw [hW, hb]
  simpa using heap_alloc_new w (.cells #[.pointer (some ⟨pm, 0, none⟩), .int .i64 r.n, .int .i64 r.mode, .int .i64 r.task, .int .i64 r.f.op, .int .i64 r.f.line, .int .u32 r.f.a, .int .u32 r.f.b, .int .i64 r.f.stage, .bool false, .int .i64 r.f.wc, .int .i64 r.f.wi, .bool r.f.hit, .int .i64 r.f.ret, .int .i64 r.acc.kind, .int .i64 r.acc.cell, .int .u32 r.acc.x, .int .u32 r.acc.y, .int .u32 r.acc.old, nv] 99)
 have hlt := h.lt
 have hbs : w.heap.size ≤ b := Nat.le_of_eq hb.symm
 have n0g : b ≠ g := by omega
 have n0m : b ≠ pm := by omega
 have q0 := cell_of_heap (j := 0) hx0 rfl
 have q1 := cell_of_heap (j := 1) hx0 rfl
 have q2 := cell_of_heap (j := 2) hx0 rfl
 have q3 := cell_of_heap (j := 3) hx0 rfl
 have q8 := cell_of_heap (j := 8) hx0 rfl
 have q9 := cell_of_heap (j := 9) hx0 rfl
 go_enter Tryz.func41, Tryz.ntmps41
 go_upto_region 1 with (fail)
 rw [← hW, ← hb]
 replace h := Lib.hid h
 replace hb := Lib.hid hb
 replace hW := Lib.hid hW
 replace hm := Lib.hid hm
 replace hB := Lib.hid hB
 replace hx0 := Lib.hid hx0
 clear hlt
 go_wp2_with (go_at_call 82; go_must (refine (hws.out _ hm.out).mono ?_; rintro e w2 ⟨rfl, hm2, hB2⟩; have hB3 := hB.out.trans hB2; clear hB2; replace hm2 := Lib.hid hm2; replace hB3 := Lib.hid hB3))
 go_ret
 exact ⟨rfl, hm2.out, hB3.out⟩
set_option maxHeartbeats 2000000 in
theorem lstuck_walk (h : Mm w pm g r.l) (nv : Value) : Calls Tryz.prog 41 #[.agg (runCells r pm nv)] w fun e w' => e = .returned (.bool (stuckRun r)) ∧ Mm w' pm g r.l ∧ But g w w' := by
 unfold stuckRun runCells
 cases hon : r.f.on with
 | true => exact lstuck_true h nv
 | false => exact lstuck_false h nv
set_option maxHeartbeats 2000000 in
theorem At.clear (h : At B w p pm g r) : At B ((Wo.putAcc w p Acc.zero).setCell ⟨p, 19, none⟩ (.slice none 0 0)) p pm g { r with acc := Acc.zero, notes := [] } := by
 have h1 := h.putAcc Acc.zero
 have hne := h1.ne
 have hm := h1.mem.far ⟨p, 19, none⟩ (by show p ≠ pm; omega) (by show p ≠ g; omega) (.slice none 0 0)
 obtain ⟨nv, hp, hR⟩ := h1.head
 exact ⟨h1.lo, ⟨.slice none 0 0, blk_set hp 19 (.slice none 0 0), Kd.R_nil _ _ _ _ _⟩, hm⟩
set_option maxHeartbeats 2000000 in
theorem line_neq (n : Nat) (cs : Array Value) (w : World) : (binOp .neq 85 (.func (.func n) #[] cs) .nilFunc).run Tryz.prog w = .ok (.bool true) w := by
 simp [binOp, fn_eq w 85 (.func n) cs Tryz.underlying85]
set_option maxHeartbeats 2000000 in
theorem linestep_off (h : At B w p pm g r) (hon : r.f.on = false) (r2 : Run) (kf : Nat) (hfn : ∃ fn, Tryz.prog.funcs[kf]? = some fn ∧ (fn.name == "runtime.NumGoroutine") = false ∧ fn.body.isSome = true)
  (hL : ∀ W, At B W p pm g { r with acc := Acc.zero, notes := [] } → Calls Tryz.prog kf #[.pointer (some ⟨p, 0, none⟩)] W fun e w' => e = .returned (.tuple #[]) ∧ At B w' p pm g r2 ∧ Fr B p g W w') : Calls Tryz.prog 88 #[.pointer (some ⟨p, 0, none⟩), .func (.func kf) #[] #[]] w fun e w' => e = .returned (.bool r2.over) ∧ At B w' p pm g r2 ∧ Fr B p g w w' := by
 have ho : r2.over = ((r2.f.ret != 0) && !r2.f.on) := by unfold Run.over; congr 1; by_cases hr : r2.f.ret = 0 <;> simp [hr]
 rw [ho]
 clear ho
 obtain ⟨rt, hrt⟩ : ∃ x, x = r2.f.ret := ⟨_, rfl⟩
 rw [← hrt]
 replace hrt := Lib.hid hrt
 replace hL := Lib.hid hL
 replace hfn := Lib.hid hfn
 have hA1 := h.clear
 have hF1 := (((Fr.refl B p g w).putAcc Acc.zero).set ⟨p, 19, none⟩ (.inl rfl) (.slice none 0 0))
 change At B ((((((w.setCell ⟨p, 14, none⟩ (.int .i64 0)).setCell ⟨p, 15, none⟩ (.int .i64 0)).setCell ⟨p, 16, none⟩ (.int .u32 0)).setCell ⟨p, 17, none⟩ (.int .u32 0)).setCell ⟨p, 18, none⟩ (.int .u32 0)).setCell ⟨p, 19, none⟩ (.slice none 0 0)) p pm g _ at hA1
 change Fr B p g w ((((((w.setCell ⟨p, 14, none⟩ (.int .i64 0)).setCell ⟨p, 15, none⟩ (.int .i64 0)).setCell ⟨p, 16, none⟩ (.int .u32 0)).setCell ⟨p, 17, none⟩ (.int .u32 0)).setCell ⟨p, 18, none⟩ (.int .u32 0)).setCell ⟨p, 19, none⟩ (.slice none 0 0)) at hF1
 have c14 := h.cell 14 (fun _ => rfl)
 have c15 := h.cell 15 (fun _ => rfl)
 have c16 := h.cell 16 (fun _ => rfl)
 have c17 := h.cell 17 (fun _ => rfl)
 have c18 := h.cell 18 (fun _ => rfl)
 obtain ⟨c19v, c19⟩ : ∃ v, w.cell? ⟨p, 19, none⟩ = some v := by obtain ⟨nv, hp, _⟩ := h.head; exact ⟨nv, cell_of_heap (j := 19) hp rfl⟩
 have z14 := h.frozen 14
 have z15 := h.frozen 15
 have z16 := h.frozen 16
 have z17 := h.frozen 17
 have z18 := h.frozen 18
 have z19 := h.frozen 19
 replace h := Lib.hid h
 go_enter Tryz.func88, Tryz.ntmps88
 go_upto_region 4 with (fail)
 clear c14 c15 c16 c17 c18 c19 z14 z15 z16 z17 z18 z19
 generalize ((((((w.setCell ⟨p, 14, none⟩ (.int .i64 0)).setCell ⟨p, 15, none⟩ (.int .i64 0)).setCell ⟨p, 16, none⟩ (.int .u32 0)).setCell ⟨p, 17, none⟩ (.int .u32 0)).setCell ⟨p, 18, none⟩ (.int .u32 0)).setCell ⟨p, 19, none⟩ (.slice none 0 0)) = W1 at hA1 hF1 ⊢
 have d9 : W1.cell? ⟨p, 9, none⟩ = some (.bool false) := hA1.cell 9 (fun _ => by rw [← hon]; rfl)
 replace hA1 := Lib.hid hA1
 replace hF1 := Lib.hid hF1
 replace hon := Lib.hid hon
 have hq := line_neq kf #[]
 cases hr : (rt != 0)
 all_goals
  go_wp2_with ((with_reducible refine gate_dst (N := 50) rfl ?_); go_must (refine goesV_ (some 50) rfl rfl (kf := kf) (caps := #[]) rfl hfn.out #[.pointer (some ⟨p, 0, none⟩)] rfl (by simp only [List.map_toArray, List.map_cons, List.map_nil]; rfl) ?_; refine (hL.out _ hA1.out).mono ?_; rintro e w2 ⟨rfl, hA2, hF2⟩; refine ⟨_, rfl, ?_⟩; replace hF2 := Lib.hid (hF1.out.trans hF2); clear d9; have c13 : w2.cell? ⟨p, 13, none⟩ = some (.int .i64 rt) := hA2.cell 13 (fun _ => by rw [hrt.out]; rfl); have c9 := hA2.cell 9 (fun _ => rfl); replace hA2 := Lib.hid hA2))
  go_ret
  exact ⟨by first | rfl | (rw [hr]; rfl), hA2.out, hF2.out⟩
set_option maxHeartbeats 2000000 in
theorem linestep_on (h : At B w p pm g r) (hon : r.f.on = true) {l1 : List Int} (a0 a1 a2 a3 a4 : Int) (y0 y3 : Bool) (y1 y2 : Int) (fv : Value)
  (hwk : ∀ W', Mm W' pm g r.l → Calls Tryz.prog 145 #[.pointer (some ⟨pm, 0, none⟩), .agg #[.int .i64 r.n], .agg #[.bool true, .int .i64 r.f.wc, .int .i64 r.f.wi, .bool r.f.hit]] W' fun e w' => e = .returned (.tuple #[.agg #[.bool y0, .int .i64 y1, .int .i64 y2, .bool y3], .agg #[.int .i64 a0, .int .i64 a1, .int .u32 a2, .int .u32 a3, .int .u32 a4]]) ∧ Mm w' pm g l1 ∧ But g W' w') : Calls Tryz.prog 88 #[.pointer (some ⟨p, 0, none⟩), fv] w fun e w' => e = .returned (.bool ((r.f.ret != 0) && !y0)) ∧ At B w' p pm g { r with l := l1, acc := ⟨a0, a1, a2, a3, a4⟩, notes := [], f := { r.f with on := y0, wc := y1, wi := y2, hit := y3 } } ∧ Fr B p g w w' := by
 replace hwk := Lib.hid hwk
 have hA1 := h.clear
 have hF1 := (((Fr.refl B p g w).putAcc Acc.zero).set ⟨p, 19, none⟩ (.inl rfl) (.slice none 0 0))
 change At B ((((((w.setCell ⟨p, 14, none⟩ (.int .i64 0)).setCell ⟨p, 15, none⟩ (.int .i64 0)).setCell ⟨p, 16, none⟩ (.int .u32 0)).setCell ⟨p, 17, none⟩ (.int .u32 0)).setCell ⟨p, 18, none⟩ (.int .u32 0)).setCell ⟨p, 19, none⟩ (.slice none 0 0)) p pm g _ at hA1
 change Fr B p g w ((((((w.setCell ⟨p, 14, none⟩ (.int .i64 0)).setCell ⟨p, 15, none⟩ (.int .i64 0)).setCell ⟨p, 16, none⟩ (.int .u32 0)).setCell ⟨p, 17, none⟩ (.int .u32 0)).setCell ⟨p, 18, none⟩ (.int .u32 0)).setCell ⟨p, 19, none⟩ (.slice none 0 0)) at hF1
 have c14 := h.cell 14 (fun _ => rfl)
 have c15 := h.cell 15 (fun _ => rfl)
 have c16 := h.cell 16 (fun _ => rfl)
 have c17 := h.cell 17 (fun _ => rfl)
 have c18 := h.cell 18 (fun _ => rfl)
 obtain ⟨c19v, c19⟩ : ∃ v, w.cell? ⟨p, 19, none⟩ = some v := by obtain ⟨nv, hp, _⟩ := h.head; exact ⟨nv, cell_of_heap (j := 19) hp rfl⟩
 have z14 := h.frozen 14
 have z15 := h.frozen 15
 have z16 := h.frozen 16
 have z17 := h.frozen 17
 have z18 := h.frozen 18
 have z19 := h.frozen 19
 replace h := Lib.hid h
 go_enter Tryz.func88, Tryz.ntmps88
 go_upto_region 4 with (fail)
 clear c14 c15 c16 c17 c18 c19 z14 z15 z16 z17 z18 z19
 generalize ((((((w.setCell ⟨p, 14, none⟩ (.int .i64 0)).setCell ⟨p, 15, none⟩ (.int .i64 0)).setCell ⟨p, 16, none⟩ (.int .u32 0)).setCell ⟨p, 17, none⟩ (.int .u32 0)).setCell ⟨p, 18, none⟩ (.int .u32 0)).setCell ⟨p, 19, none⟩ (.slice none 0 0)) = W1 at hA1 hF1 ⊢
 have d9 : W1.cell? ⟨p, 9, none⟩ = some (.bool true) := hA1.cell 9 (fun _ => by rw [← hon]; rfl)
 replace hA1 := Lib.hid hA1
 replace hF1 := Lib.hid hF1
 replace hon := Lib.hid hon
 go_upto_region 5 with (fail)
 clear d9
 have d9 : W1.drew.cell? ⟨p, 9, none⟩ = some (.bool true) := hA1.out.drew.cell 9 (fun _ => by rw [← hon.out]; rfl)
 have d0 := hA1.out.drew.cell 0 (fun _ => rfl)
 have d1 := hA1.out.drew.cell 1 (fun _ => rfl)
 have d10 := hA1.out.drew.cell 10 (fun _ => rfl)
 have d11 := hA1.out.drew.cell 11 (fun _ => rfl)
 have d12 := hA1.out.drew.cell 12 (fun _ => rfl)
 refine start_ (n := 26) (S := fun w' => w'.cell? ⟨p, 0, none⟩ = some (.pointer (some ⟨pm, 0, none⟩)) ∧ w'.cell? ⟨p, 1, none⟩ = some (.int .i64 r.n) ∧ w'.cell? ⟨p, 9, none⟩ = some (.bool true) ∧ w'.cell? ⟨p, 10, none⟩ = some (.int .i64 r.f.wc) ∧ w'.cell? ⟨p, 11, none⟩ = some (.int .i64 r.f.wi) ∧ w'.cell? ⟨p, 12, none⟩ = some (.bool r.f.hit)) (ds := [22, 25]) #[false, false, false, false, false, false, false, false, false, false, false, false, false, false, false, false, false, false, false, false, false, false, false, false, false, false] (by kernel_rfl) rfl rfl ⟨d0, d1, d9, d10, d11, d12⟩ (fun hHeld => ?_)
 refine pu_ 0 22 (mk 26 1) rfl rfl ?_
 refine pu_ 1 23 (mk 26 3) rfl rfl ?_
 refine pu_ 2 24 (mk 26 7) rfl rfl ?_
 refine pu_ 3 25 (mk 26 15) rfl rfl ?_
 refine pu_ 4 26 (mk 26 31) rfl rfl ?_
 refine pu_ 6 28 (mk 26 95) rfl rfl ?_
 refine pu_ 7 29 (mk 26 223) rfl rfl ?_
 refine pu_ 8 30 (mk 26 479) rfl rfl ?_
 refine pu_ 10 32 (mk 26 1503) rfl rfl ?_
 refine pu_ 11 33 (mk 26 3551) rfl rfl ?_
 refine pu_ 12 34 (mk 26 7647) rfl rfl ?_
 refine pu_ 13 35 (mk 26 15839) rfl rfl ?_
 refine take_ (i := 5) (N := some 27) (v := ?_) (a' := ?_) (mk 26 15871) rfl rfl (by kernel_rfl) (fun _ _ _ h => h) (Or.inl ⟨by rfl, ?_⟩) hHeld ?_ ?_
 rotate_left
 ·rintro w' ⟨s0, s1, s2, s3, s4, s5⟩
  go_simp
  with_reducible rfl
 rotate_left
 ·simp only [Act.put, List.setIfInBounds_toArray, List.set_cons_zero, List.set_cons_succ, i64_w, i32_w]
  rfl
 refine take_ (i := 9) (N := some 31) (v := ?_) (a' := ?_) (mk 26 16383) rfl rfl (by kernel_rfl) (fun _ _ _ h => h) (Or.inl ⟨by rfl, ?_⟩) hHeld ?_ ?_
 rotate_left
 ·rintro w' ⟨s0, s1, s2, s3, s4, s5⟩
  go_simp
  with_reducible rfl
 rotate_left
 ·simp only [Act.put, List.setIfInBounds_toArray, List.set_cons_zero, List.set_cons_succ, i64_w, i32_w]
  rfl
 refine take_ (i := 14) (N := some 36) (v := ?_) (a' := ?_) (mk 26 32767) rfl rfl (by kernel_rfl) (fun _ _ _ h => h) (Or.inl ⟨by rfl, ?_⟩) hHeld ?_ ?_
 rotate_left
 ·rintro w' ⟨s0, s1, s2, s3, s4, s5⟩
  go_simp
  with_reducible rfl
 rotate_left
 ·simp only [Act.put, List.setIfInBounds_toArray, List.set_cons_zero, List.set_cons_succ, i64_w, i32_w]
  rfl
 refine one_ (i := 15) (N := some 37) (mk 26 65535) rfl rfl (by kernel_rfl) (by decide) (fun K hK => ?_)
 refine goes_ Tryz.func145 (by kernel_rfl) rfl #[.pointer (some ⟨pm, 0, none⟩), .agg #[.int .i64 r.n], .agg #[.bool true, .int .i64 r.f.wc, .int .i64 r.f.wi, .bool r.f.hit]] (by rfl) rfl rfl (by simp only [List.map_toArray, List.map_cons, List.map_nil]; rfl) ?_
 with_reducible refine (hwk.out _ hA1.out.mem.drew).mono ?_
 rintro e w2 ⟨rfl, hm2, hB2⟩
 refine ⟨_, rfl, ?_⟩
 have hA2 := hA1.out.drew.mem_to hm2 hB2
 have hF2 := hF1.out.drew.trans (Fr.of_but hB2)
 clear hm2 hB2
 have t9 := hA2.cell 9 (fun _ => rfl)
 have t10 := hA2.cell 10 (fun _ => rfl)
 have t11 := hA2.cell 11 (fun _ => rfl)
 have t12 := hA2.cell 12 (fun _ => rfl)
 have t14 := hA2.cell 14 (fun _ => rfl)
 have t15 := hA2.cell 15 (fun _ => rfl)
 have t16 := hA2.cell 16 (fun _ => rfl)
 have t17 := hA2.cell 17 (fun _ => rfl)
 have t18 := hA2.cell 18 (fun _ => rfl)
 have s9 := hA2.frozen 9
 have s10 := hA2.frozen 10
 have s11 := hA2.frozen 11
 have s12 := hA2.frozen 12
 have s14 := hA2.frozen 14
 have s15 := hA2.frozen 15
 have s16 := hA2.frozen 16
 have s17 := hA2.frozen 17
 have s18 := hA2.frozen 18
 replace hA2 := Lib.hid hA2
 replace hF2 := Lib.hid hF2
 refine hK.out _ _ ⟨hA2.out.cell 0 (fun _ => rfl), hA2.out.cell 1 (fun _ => rfl), hA2.out.cell 9 (fun _ => by rw [← hon.out]; rfl), hA2.out.cell 10 (fun _ => rfl), hA2.out.cell 11 (fun _ => rfl), hA2.out.cell 12 (fun _ => rfl)⟩ (fun hHeld => ?_)
 clear hK K
 refine nm_ ?_
 refine pu_ 16 21 (mk 26 131071) rfl rfl ?_
 refine pu_ 17 38 (mk 26 262143) rfl rfl ?_
 refine pu_ 18 39 (mk 26 524287) rfl rfl ?_
 refine pu_ 19 40 (mk 26 1048575) rfl rfl ?_
 refine pu_ 20 41 (mk 26 2097151) rfl rfl ?_
 refine pu_ 21 42 (mk 26 4194303) rfl rfl ?_
 refine last_ (i := 22) (N := none) (mk 26 8388607) rfl rfl (by kernel_rfl) (by decide) (fun K hK => ?_)
 refine skip_ (w1 := ?_) (by rfl) rfl ?_ ?_
 rotate_left
 ·go_simp
  rfl
 refine hK.out _ _ ?_
 clear hK K
 refine pu_ 23 43 (mk 26 16777215) rfl rfl ?_
 refine pu_ 24 44 (mk 26 33554431) rfl rfl ?_
 refine last_ (i := 25) (N := none) (mk 26 67108863) rfl rfl (by kernel_rfl) (by decide) (fun K hK => ?_)
 refine skip_ (w1 := ?_) (by rfl) rfl ?_ ?_
 rotate_left
 ·go_simp
  rfl
 refine hK.out _ _ ?_
 clear hK K
 refine done_ (by kernel_rfl) ?_
 have k1 := hA2.out.store 9 (.bool y0) { r with l := l1, acc := Acc.zero, notes := [], f := { r.f with on := y0 } } (fun _ => rfl) rfl rfl
 have k2 := k1.store 10 (.int .i64 y1) { r with l := l1, acc := Acc.zero, notes := [], f := { r.f with on := y0, wc := y1 } } (fun _ => rfl) rfl rfl
 have k3 := k2.store 11 (.int .i64 y2) { r with l := l1, acc := Acc.zero, notes := [], f := { r.f with on := y0, wc := y1, wi := y2 } } (fun _ => rfl) rfl rfl
 have k4 := k3.store 12 (.bool y3) { r with l := l1, acc := Acc.zero, notes := [], f := { r.f with on := y0, wc := y1, wi := y2, hit := y3 } } (fun _ => rfl) rfl rfl
 have k5 := k4.putAcc ⟨a0, a1, a2, a3, a4⟩
 have f5 := (((((hF2.out.set ⟨p, 9, none⟩ (.inl rfl) (.bool y0)).set ⟨p, 10, none⟩ (.inl rfl) (.int .i64 y1)).set ⟨p, 11, none⟩ (.inl rfl) (.int .i64 y2)).set ⟨p, 12, none⟩ (.inl rfl) (.bool y3)).putAcc ⟨a0, a1, a2, a3, a4⟩)
 clear k1 k2 k3 k4 hA2 hF2 hA1 hF1 d0 d1 d9 d10 d11 d12 t9 s9 t10 s10 t11 s11 t12 s12 t14 s14 t15 s15 t16 s16 t17 s17 t18 s18
 change At B (((((((((w2.setCell ⟨p, 9, none⟩ (.bool y0)).setCell ⟨p, 10, none⟩ (.int .i64 y1)).setCell ⟨p, 11, none⟩ (.int .i64 y2)).setCell ⟨p, 12, none⟩ (.bool y3)).setCell ⟨p, 14, none⟩ (.int .i64 a0)).setCell ⟨p, 15, none⟩ (.int .i64 a1)).setCell ⟨p, 16, none⟩ (.int .u32 a2)).setCell ⟨p, 17, none⟩ (.int .u32 a3)).setCell ⟨p, 18, none⟩ (.int .u32 a4)) p pm g { r with l := l1, acc := ⟨a0, a1, a2, a3, a4⟩, notes := [], f := { r.f with on := y0, wc := y1, wi := y2, hit := y3 } } at k5
 change Fr B p g w (((((((((w2.setCell ⟨p, 9, none⟩ (.bool y0)).setCell ⟨p, 10, none⟩ (.int .i64 y1)).setCell ⟨p, 11, none⟩ (.int .i64 y2)).setCell ⟨p, 12, none⟩ (.bool y3)).setCell ⟨p, 14, none⟩ (.int .i64 a0)).setCell ⟨p, 15, none⟩ (.int .i64 a1)).setCell ⟨p, 16, none⟩ (.int .u32 a2)).setCell ⟨p, 17, none⟩ (.int .u32 a3)).setCell ⟨p, 18, none⟩ (.int .u32 a4)) at f5
 generalize (((((((((w2.setCell ⟨p, 9, none⟩ (.bool y0)).setCell ⟨p, 10, none⟩ (.int .i64 y1)).setCell ⟨p, 11, none⟩ (.int .i64 y2)).setCell ⟨p, 12, none⟩ (.bool y3)).setCell ⟨p, 14, none⟩ (.int .i64 a0)).setCell ⟨p, 15, none⟩ (.int .i64 a1)).setCell ⟨p, 16, none⟩ (.int .u32 a2)).setCell ⟨p, 17, none⟩ (.int .u32 a3)).setCell ⟨p, 18, none⟩ (.int .u32 a4)) = W5 at k5 f5 ⊢
 have c9 : W5.cell? ⟨p, 9, none⟩ = some (.bool y0) := k5.cell 9 (fun _ => rfl)
 have c13 : W5.cell? ⟨p, 13, none⟩ = some (.int .i64 r.f.ret) := k5.cell 13 (fun _ => rfl)
 replace k5 := Lib.hid k5
 replace f5 := Lib.hid f5
 cases hr : (r.f.ret != 0)
 all_goals
  go_wp2
  go_ret
  exact ⟨rfl, k5.out, f5.out⟩
set_option maxHeartbeats 2000000 in
theorem linestep_run (h : At B w p pm g r) (kind : Int) (hi : 0 ≤ r.f.wi ∧ r.f.wi ≤ 1000) (kf : Nat) (hfn : ∃ fn, Tryz.prog.funcs[kf]? = some fn ∧ (fn.name == "runtime.NumGoroutine") = false ∧ fn.body.isSome = true)
  (hL : r.f.on = false → ∀ W, At B W p pm g { r with acc := Acc.zero, notes := [] } → Calls Tryz.prog kf #[.pointer (some ⟨p, 0, none⟩)] W fun e w' => e = .returned (.tuple #[]) ∧ At B w' p pm g (linesOf kind { r with acc := Acc.zero, notes := [] }) ∧ Fr B p g W w') : Calls Tryz.prog 88 #[.pointer (some ⟨p, 0, none⟩), .func (.func kf) #[] #[]] w fun e w' => e = .returned (.bool (stepRun kind r).over) ∧ At B w' p pm g (stepRun kind r) ∧ Fr B p g w w' := by
 cases hon : r.f.on with
 | false =>
  have hr : stepRun kind r = linesOf kind { r with acc := Acc.zero, notes := [] } := by
   unfold stepRun
   simp only [hon, Bool.false_eq_true, if_false]
  rw [hr]
  exact linestep_off h hon _ kf hfn (hL hon)
 | true =>
  have hw := fun W' (hW' : Mm W' pm g r.l) => wakestep_walk hW' r.n ⟨true, r.f.wc, r.f.wi, r.f.hit⟩ hi
  have hr : stepRun kind r = { r with acc := (wakeStep r.l r.n ⟨true, r.f.wc, r.f.wi, r.f.hit⟩).2.1, notes := [], l := (wakeStep r.l r.n ⟨true, r.f.wc, r.f.wi, r.f.hit⟩).2.2, f := { r.f with on := (wakeStep r.l r.n ⟨true, r.f.wc, r.f.wi, r.f.hit⟩).1.on, wc := (wakeStep r.l r.n ⟨true, r.f.wc, r.f.wi, r.f.hit⟩).1.cell, wi := (wakeStep r.l r.n ⟨true, r.f.wc, r.f.wi, r.f.hit⟩).1.i, hit := (wakeStep r.l r.n ⟨true, r.f.wc, r.f.wi, r.f.hit⟩).1.hit } } := by
   unfold stepRun
   simp only [hon, if_true]
  rw [hr]
  clear hr
  generalize wakeStep r.l r.n ⟨true, r.f.wc, r.f.wi, r.f.hit⟩ = d at hw ⊢
  obtain ⟨⟨y0, y1, y2, y3⟩, ⟨a0, a1, a2, a3, a4⟩, l1⟩ := d
  refine (linestep_on h hon a0 a1 a2 a3 a4 y0 y3 y1 y2 _ hw).mono ?_
  rintro e w1 ⟨rfl, hA, hF⟩
  refine ⟨?_, hA, hF⟩
  unfold Run.over
  by_cases h0 : r.f.ret = 0 <;> simp [h0]
end Go.Proofs.YtkmlefbdhdlfmaaGreat.Wo
