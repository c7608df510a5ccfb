/- The document's access on a row of words. -/
import Derived.Test.YtkmlefbdhdlfmaaGreatLw
namespace Go.Proofs.YtkmlefbdhdlfmaaGreat.Wo
open Go.RowKit Go.Proofs.YtkmlefbdhdlfmaaGreatW.PrintWords Go.Proofs.YtkmlefbdhdlfmaaGreatW.PrintMore Go.Proofs.YtkmlefbdhdlfmaaGreatW.PrintLast
open Stile
set_option linter.unusedSimpArgs false
set_option linter.unusedVariables false
set_option maxRecDepth 100000
variable {w w1 w2 w0 V V1 : World} {a pm g t kf n b B p cap gc gt : Nat} {W : Stile.W} {l : List Int} {ok : Nat → Prop}
theorem Wr.frozen (h : Wr w g l) (j : Nat) : w.frozen? ⟨g, j, none⟩ = false := by
  obtain ⟨cells, hc, _⟩ := h.row
  exact blk_frozen hc j
theorem Wr.set (h : Wr w g l) (i : Nat) (hi : i < l.length) (x : Int) : Wr (w.setCell ⟨g, i, none⟩ (.int .u32 x)) g (l.set i x) := by
  obtain ⟨cells, hc, hr⟩ := h.row
  have hsz : i < cells.size := (Array.getElem?_eq_some_iff.1 (hr i hi)).1
  refine ⟨_, blk_set hc i _, fun j hj => ?_⟩
  rw [List.length_set] at hj
  by_cases e : j = i
  · subst e
    rw [Array.getElem?_setIfInBounds_self_of_lt hsz]
    simp [List.getD_eq_getElem?_getD, hj]
  · rw [Array.getElem?_setIfInBounds_ne (by omega), hr j hj]
    simp [List.getD_eq_getElem?_getD, List.getElem?_set_ne (by omega : i ≠ j)]
theorem Wr.far (h : Wr w g l) (a : Addr) (h2 : a.block ≠ g) (v : Value) : Wr (w.setCell a v) g l := h.of_block (Below.heap_setCell w a v g (by omega))
theorem there_r {i n g : Nat} (cp : Nat) (hi : i < n) (w : World) : Calls Tryz.prog 49 #[.slice (some ⟨g, 0, none⟩) n cp, .int .i64 i] w fun e w' => e = .returned (.bool true) ∧ w' = w := by
  have hii : decide ((i : Int) < (n : Int)) = true := decide_eq_true (by omega)
  have h0 : decide ((i : Int) ≥ 0) = true := decide_eq_true (by omega)
  go_enter Tryz.func49, Tryz.ntmps49
  go_wp2
  go_ret
  exact ⟨rfl, rfl⟩

set_option maxHeartbeats 2000000 in
theorem rdo_load (h : Wr w g l) (i cp : Nat) (hi : i < l.length) (hcp : l.length ≤ cp) (x y o : Int) : Calls Tryz.prog 19 #[.slice (some ⟨g, 0, none⟩) l.length cp, .agg #[.int .i64 1, .int .i64 i, .int .u32 x, .int .u32 y, .int .u32 o]] w fun e w' => e = .returned (.tuple #[.agg #[.int .i64 1, .int .i64 i, .int .u32 x, .int .u32 y, .int .u32 (l.getD i 0)], .bool true]) ∧ Wr w' g l ∧ But g w w' := by
  have hth := there_r (i := i) (n := l.length) (g := g) cp hi
  obtain ⟨b, hb⟩ : ∃ b, b = w.heap.size := ⟨_, rfl⟩
  obtain ⟨W, hW⟩ : ∃ W, W = (w.alloc (.cells #[.int .i64 1, .int .i64 i, .int .u32 x, .int .u32 y, .int .u32 o] 38)).alloc (.cells #[.int .i64 0, .int .i64 0, .int .u32 0, .int .u32 0, .int .u32 0] 38) := ⟨_, rfl⟩
  have h2 : Wr W g l := by rw [hW]; exact h.below (below_alloc (below_alloc (Below.refl _ w) _) _)
  have hB : But g w W := by rw [hW]; exact ((But.refl g w).alloc _).alloc _
  have hb0 : W.heap[b]? = some (.cells #[.int .i64 1, .int .i64 i, .int .u32 x, .int .u32 y, .int .u32 o] 38 (0, 0)) := by rw [hW, hb]; exact blk_alloc (heap_alloc_new _ _) _
  have hb1 : W.heap[b + 1]? = some (.cells #[.int .i64 0, .int .i64 0, .int .u32 0, .int .u32 0, .int .u32 0] 38 (0, 0)) := by rw [hW, hb, show w.heap.size + 1 = (w.alloc (.cells #[.int .i64 1, .int .i64 i, .int .u32 x, .int .u32 y, .int .u32 o] 38)).heap.size from by simp]; exact heap_alloc_new _ _
  have q0 := cell_of_heap (j := 0) hb0 rfl
  have q1 := cell_of_heap (j := 1) hb0 rfl
  have q2 := cell_of_heap (j := 2) hb0 rfl
  have q3 := cell_of_heap (j := 3) hb0 rfl
  have q4 := cell_of_heap (j := 4) hb0 rfl
  have p0 := cell_of_heap (j := 0) hb1 rfl
  have p1 := cell_of_heap (j := 1) hb1 rfl
  have p2 := cell_of_heap (j := 2) hb1 rfl
  have p3 := cell_of_heap (j := 3) hb1 rfl
  have p4 := cell_of_heap (j := 4) hb1 rfl
  have z4 := blk_frozen hb0 4
  have y0 := blk_frozen hb1 0
  have y1 := blk_frozen hb1 1
  have y2 := blk_frozen hb1 2
  have y3 := blk_frozen hb1 3
  have y4 := blk_frozen hb1 4
  have yg := h2.frozen i
  have hw := h2.cell hi
  obtain ⟨v, hv⟩ : ∃ v, v = l.getD i 0 := ⟨_, rfl⟩
  rw [← hv] at hw
  try rw [← hv]
  have hlt := h.lt
  have hg1 : g ≠ b := by omega
  have hg2 : g ≠ b + 1 := by omega
  clear hlt
  have hii : (i : Int) < (l.length : Int) := by omega
  go_enter Tryz.func19, Tryz.ntmps19
  go_upto_region 1 with (fail)
  rw [← hW, ← hb]
  replace h := Lib.hid h
  replace hW := Lib.hid hW
  replace hb0 := Lib.hid hb0
  replace hb1 := Lib.hid hb1
  replace hB := Lib.hid hB
  replace hv := Lib.hid hv
  replace h2 := Lib.hid h2
  have hi' := Lib.hid hi
  have hbs : w.heap.size ≤ b := Nat.le_of_eq hb.symm
  replace hb := Lib.hid hb
  replace hbs := Lib.hid hbs
  go_wp2_with (go_at_call 49; go_must (refine (hth _).mono ?_; rintro e w1 ⟨rfl, rfl⟩))
  (try simp only [Exit.inBlock, Exit.then])
  have e0 := hb1.out
  have m0 := h2.out
  have b0 := hB.out
  have e1 := blk_far e0 (p := ⟨b, 4, none⟩) (by show b + 1 ≠ b; omega) (.int .u32 v)
  have m1 := m0.far ⟨b, 4, none⟩ (by show b ≠ g; omega) (.int .u32 v)
  have b1 := b0.set ⟨b, 4, none⟩ (by right; have := hbs.out; show w.heap.size ≤ b; omega) (.int .u32 v)
  have e2 := blk_set e1 0 (.int .i64 1)
  have m2 := m1.far ⟨b + 1, 0, none⟩ (by show b + 1 ≠ g; omega) (.int .i64 1)
  have b2 := b1.set ⟨b + 1, 0, none⟩ (by right; have := hbs.out; show w.heap.size ≤ b + 1; omega) (.int .i64 1)
  have e3 := blk_set e2 1 (.int .i64 i)
  have m3 := m2.far ⟨b + 1, 1, none⟩ (by show b + 1 ≠ g; omega) (.int .i64 i)
  have b3 := b2.set ⟨b + 1, 1, none⟩ (by right; have := hbs.out; show w.heap.size ≤ b + 1; omega) (.int .i64 i)
  have e4 := blk_set e3 2 (.int .u32 x)
  have m4 := m3.far ⟨b + 1, 2, none⟩ (by show b + 1 ≠ g; omega) (.int .u32 x)
  have b4 := b3.set ⟨b + 1, 2, none⟩ (by right; have := hbs.out; show w.heap.size ≤ b + 1; omega) (.int .u32 x)
  have e5 := blk_set e4 3 (.int .u32 y)
  have m5 := m4.far ⟨b + 1, 3, none⟩ (by show b + 1 ≠ g; omega) (.int .u32 y)
  have b5 := b4.set ⟨b + 1, 3, none⟩ (by right; have := hbs.out; show w.heap.size ≤ b + 1; omega) (.int .u32 y)
  have e6 := blk_set e5 4 (.int .u32 v)
  have m6 := m5.far ⟨b + 1, 4, none⟩ (by show b + 1 ≠ g; omega) (.int .u32 v)
  have b6 := b5.set ⟨b + 1, 4, none⟩ (by right; have := hbs.out; show w.heap.size ≤ b + 1; omega) (.int .u32 v)
  refine bodyPost_ret (results_ct rfl _ _ (b + 1) 38 #[.int .i64 1, .int .i64 i, .int .u32 x, .int .u32 y, .int .u32 v] (0, 0) _ rfl e6 Tryz.underlying38 rfl (by kernel_rfl)) rfl ?_
  exact ⟨rfl, m6, b6⟩

set_option maxHeartbeats 2000000 in
theorem rdo_store (h : Wr w g l) (i cp : Nat) (hi : i < l.length) (hcp : l.length ≤ cp) (x y o : Int) : Calls Tryz.prog 19 #[.slice (some ⟨g, 0, none⟩) l.length cp, .agg #[.int .i64 2, .int .i64 i, .int .u32 x, .int .u32 y, .int .u32 o]] w fun e w' => e = .returned (.tuple #[.agg #[.int .i64 2, .int .i64 i, .int .u32 x, .int .u32 y, .int .u32 (l.getD i 0)], .bool true]) ∧ Wr w' g (l.set i x) ∧ But g w w' := by
  have hth := there_r (i := i) (n := l.length) (g := g) cp hi
  obtain ⟨b, hb⟩ : ∃ b, b = w.heap.size := ⟨_, rfl⟩
  obtain ⟨W, hW⟩ : ∃ W, W = (w.alloc (.cells #[.int .i64 2, .int .i64 i, .int .u32 x, .int .u32 y, .int .u32 o] 38)).alloc (.cells #[.int .i64 0, .int .i64 0, .int .u32 0, .int .u32 0, .int .u32 0] 38) := ⟨_, rfl⟩
  have h2 : Wr W g l := by rw [hW]; exact h.below (below_alloc (below_alloc (Below.refl _ w) _) _)
  have hB : But g w W := by rw [hW]; exact ((But.refl g w).alloc _).alloc _
  have hb0 : W.heap[b]? = some (.cells #[.int .i64 2, .int .i64 i, .int .u32 x, .int .u32 y, .int .u32 o] 38 (0, 0)) := by rw [hW, hb]; exact blk_alloc (heap_alloc_new _ _) _
  have hb1 : W.heap[b + 1]? = some (.cells #[.int .i64 0, .int .i64 0, .int .u32 0, .int .u32 0, .int .u32 0] 38 (0, 0)) := by rw [hW, hb, show w.heap.size + 1 = (w.alloc (.cells #[.int .i64 2, .int .i64 i, .int .u32 x, .int .u32 y, .int .u32 o] 38)).heap.size from by simp]; exact heap_alloc_new _ _
  have q0 := cell_of_heap (j := 0) hb0 rfl
  have q1 := cell_of_heap (j := 1) hb0 rfl
  have q2 := cell_of_heap (j := 2) hb0 rfl
  have q3 := cell_of_heap (j := 3) hb0 rfl
  have q4 := cell_of_heap (j := 4) hb0 rfl
  have p0 := cell_of_heap (j := 0) hb1 rfl
  have p1 := cell_of_heap (j := 1) hb1 rfl
  have p2 := cell_of_heap (j := 2) hb1 rfl
  have p3 := cell_of_heap (j := 3) hb1 rfl
  have p4 := cell_of_heap (j := 4) hb1 rfl
  have z4 := blk_frozen hb0 4
  have y0 := blk_frozen hb1 0
  have y1 := blk_frozen hb1 1
  have y2 := blk_frozen hb1 2
  have y3 := blk_frozen hb1 3
  have y4 := blk_frozen hb1 4
  have yg := h2.frozen i
  have hw := h2.cell hi
  obtain ⟨v, hv⟩ : ∃ v, v = l.getD i 0 := ⟨_, rfl⟩
  rw [← hv] at hw
  try rw [← hv]
  have hlt := h.lt
  have hg1 : g ≠ b := by omega
  have hg2 : g ≠ b + 1 := by omega
  clear hlt
  have hii : (i : Int) < (l.length : Int) := by omega
  go_enter Tryz.func19, Tryz.ntmps19
  go_upto_region 1 with (fail)
  rw [← hW, ← hb]
  replace h := Lib.hid h
  replace hW := Lib.hid hW
  replace hb0 := Lib.hid hb0
  replace hb1 := Lib.hid hb1
  replace hB := Lib.hid hB
  replace hv := Lib.hid hv
  replace h2 := Lib.hid h2
  have hi' := Lib.hid hi
  have hbs : w.heap.size ≤ b := Nat.le_of_eq hb.symm
  replace hb := Lib.hid hb
  replace hbs := Lib.hid hbs
  go_wp2_with (go_at_call 49; go_must (refine (hth _).mono ?_; rintro e w1 ⟨rfl, rfl⟩))
  (try simp only [Exit.inBlock, Exit.then])
  have e0 := hb1.out
  have m0 := h2.out
  have b0 := hB.out
  have e1 := blk_far e0 (p := ⟨b, 4, none⟩) (by show b + 1 ≠ b; omega) (.int .u32 v)
  have m1 := m0.far ⟨b, 4, none⟩ (by show b ≠ g; omega) (.int .u32 v)
  have b1 := b0.set ⟨b, 4, none⟩ (by right; have := hbs.out; show w.heap.size ≤ b; omega) (.int .u32 v)
  have e2 := blk_far e1 (p := ⟨g, i, none⟩) (by exact Ne.symm hg2) (.int .u32 x)
  have m2 := m1.set i hi'.out x
  have b2 := b1.set ⟨g, i, none⟩ (by exact .inl rfl) (.int .u32 x)
  have e3 := blk_set e2 0 (.int .i64 2)
  have m3 := m2.far ⟨b + 1, 0, none⟩ (by show b + 1 ≠ g; omega) (.int .i64 2)
  have b3 := b2.set ⟨b + 1, 0, none⟩ (by right; have := hbs.out; show w.heap.size ≤ b + 1; omega) (.int .i64 2)
  have e4 := blk_set e3 1 (.int .i64 i)
  have m4 := m3.far ⟨b + 1, 1, none⟩ (by show b + 1 ≠ g; omega) (.int .i64 i)
  have b4 := b3.set ⟨b + 1, 1, none⟩ (by right; have := hbs.out; show w.heap.size ≤ b + 1; omega) (.int .i64 i)
  have e5 := blk_set e4 2 (.int .u32 x)
  have m5 := m4.far ⟨b + 1, 2, none⟩ (by show b + 1 ≠ g; omega) (.int .u32 x)
  have b5 := b4.set ⟨b + 1, 2, none⟩ (by right; have := hbs.out; show w.heap.size ≤ b + 1; omega) (.int .u32 x)
  have e6 := blk_set e5 3 (.int .u32 y)
  have m6 := m5.far ⟨b + 1, 3, none⟩ (by show b + 1 ≠ g; omega) (.int .u32 y)
  have b6 := b5.set ⟨b + 1, 3, none⟩ (by right; have := hbs.out; show w.heap.size ≤ b + 1; omega) (.int .u32 y)
  have e7 := blk_set e6 4 (.int .u32 v)
  have m7 := m6.far ⟨b + 1, 4, none⟩ (by show b + 1 ≠ g; omega) (.int .u32 v)
  have b7 := b6.set ⟨b + 1, 4, none⟩ (by right; have := hbs.out; show w.heap.size ≤ b + 1; omega) (.int .u32 v)
  refine bodyPost_ret (results_ct rfl _ _ (b + 1) 38 #[.int .i64 2, .int .i64 i, .int .u32 x, .int .u32 y, .int .u32 v] (0, 0) _ rfl e7 Tryz.underlying38 rfl (by kernel_rfl)) rfl ?_
  exact ⟨rfl, m7, b7⟩

set_option maxHeartbeats 2000000 in
theorem rdo_swap (h : Wr w g l) (i cp : Nat) (hi : i < l.length) (hcp : l.length ≤ cp) (x y o : Int) : Calls Tryz.prog 19 #[.slice (some ⟨g, 0, none⟩) l.length cp, .agg #[.int .i64 4, .int .i64 i, .int .u32 x, .int .u32 y, .int .u32 o]] w fun e w' => e = .returned (.tuple #[.agg #[.int .i64 4, .int .i64 i, .int .u32 x, .int .u32 y, .int .u32 (l.getD i 0)], .bool true]) ∧ Wr w' g (l.set i x) ∧ But g w w' := by
  have hth := there_r (i := i) (n := l.length) (g := g) cp hi
  obtain ⟨b, hb⟩ : ∃ b, b = w.heap.size := ⟨_, rfl⟩
  obtain ⟨W, hW⟩ : ∃ W, W = (w.alloc (.cells #[.int .i64 4, .int .i64 i, .int .u32 x, .int .u32 y, .int .u32 o] 38)).alloc (.cells #[.int .i64 0, .int .i64 0, .int .u32 0, .int .u32 0, .int .u32 0] 38) := ⟨_, rfl⟩
  have h2 : Wr W g l := by rw [hW]; exact h.below (below_alloc (below_alloc (Below.refl _ w) _) _)
  have hB : But g w W := by rw [hW]; exact ((But.refl g w).alloc _).alloc _
  have hb0 : W.heap[b]? = some (.cells #[.int .i64 4, .int .i64 i, .int .u32 x, .int .u32 y, .int .u32 o] 38 (0, 0)) := by rw [hW, hb]; exact blk_alloc (heap_alloc_new _ _) _
  have hb1 : W.heap[b + 1]? = some (.cells #[.int .i64 0, .int .i64 0, .int .u32 0, .int .u32 0, .int .u32 0] 38 (0, 0)) := by rw [hW, hb, show w.heap.size + 1 = (w.alloc (.cells #[.int .i64 4, .int .i64 i, .int .u32 x, .int .u32 y, .int .u32 o] 38)).heap.size from by simp]; exact heap_alloc_new _ _
  have q0 := cell_of_heap (j := 0) hb0 rfl
  have q1 := cell_of_heap (j := 1) hb0 rfl
  have q2 := cell_of_heap (j := 2) hb0 rfl
  have q3 := cell_of_heap (j := 3) hb0 rfl
  have q4 := cell_of_heap (j := 4) hb0 rfl
  have p0 := cell_of_heap (j := 0) hb1 rfl
  have p1 := cell_of_heap (j := 1) hb1 rfl
  have p2 := cell_of_heap (j := 2) hb1 rfl
  have p3 := cell_of_heap (j := 3) hb1 rfl
  have p4 := cell_of_heap (j := 4) hb1 rfl
  have z4 := blk_frozen hb0 4
  have y0 := blk_frozen hb1 0
  have y1 := blk_frozen hb1 1
  have y2 := blk_frozen hb1 2
  have y3 := blk_frozen hb1 3
  have y4 := blk_frozen hb1 4
  have yg := h2.frozen i
  have hw := h2.cell hi
  obtain ⟨v, hv⟩ : ∃ v, v = l.getD i 0 := ⟨_, rfl⟩
  rw [← hv] at hw
  try rw [← hv]
  have hlt := h.lt
  have hg1 : g ≠ b := by omega
  have hg2 : g ≠ b + 1 := by omega
  clear hlt
  have hii : (i : Int) < (l.length : Int) := by omega
  go_enter Tryz.func19, Tryz.ntmps19
  go_upto_region 1 with (fail)
  rw [← hW, ← hb]
  replace h := Lib.hid h
  replace hW := Lib.hid hW
  replace hb0 := Lib.hid hb0
  replace hb1 := Lib.hid hb1
  replace hB := Lib.hid hB
  replace hv := Lib.hid hv
  replace h2 := Lib.hid h2
  have hi' := Lib.hid hi
  have hbs : w.heap.size ≤ b := Nat.le_of_eq hb.symm
  replace hb := Lib.hid hb
  replace hbs := Lib.hid hbs
  go_wp2_with (go_at_call 49; go_must (refine (hth _).mono ?_; rintro e w1 ⟨rfl, rfl⟩))
  (try simp only [Exit.inBlock, Exit.then])
  have e0 := hb1.out
  have m0 := h2.out
  have b0 := hB.out
  have e1 := blk_far e0 (p := ⟨b, 4, none⟩) (by show b + 1 ≠ b; omega) (.int .u32 v)
  have m1 := m0.far ⟨b, 4, none⟩ (by show b ≠ g; omega) (.int .u32 v)
  have b1 := b0.set ⟨b, 4, none⟩ (by right; have := hbs.out; show w.heap.size ≤ b; omega) (.int .u32 v)
  have e2 := blk_far e1 (p := ⟨g, i, none⟩) (by exact Ne.symm hg2) (.int .u32 x)
  have m2 := m1.set i hi'.out x
  have b2 := b1.set ⟨g, i, none⟩ (by exact .inl rfl) (.int .u32 x)
  have e3 := blk_set e2 0 (.int .i64 4)
  have m3 := m2.far ⟨b + 1, 0, none⟩ (by show b + 1 ≠ g; omega) (.int .i64 4)
  have b3 := b2.set ⟨b + 1, 0, none⟩ (by right; have := hbs.out; show w.heap.size ≤ b + 1; omega) (.int .i64 4)
  have e4 := blk_set e3 1 (.int .i64 i)
  have m4 := m3.far ⟨b + 1, 1, none⟩ (by show b + 1 ≠ g; omega) (.int .i64 i)
  have b4 := b3.set ⟨b + 1, 1, none⟩ (by right; have := hbs.out; show w.heap.size ≤ b + 1; omega) (.int .i64 i)
  have e5 := blk_set e4 2 (.int .u32 x)
  have m5 := m4.far ⟨b + 1, 2, none⟩ (by show b + 1 ≠ g; omega) (.int .u32 x)
  have b5 := b4.set ⟨b + 1, 2, none⟩ (by right; have := hbs.out; show w.heap.size ≤ b + 1; omega) (.int .u32 x)
  have e6 := blk_set e5 3 (.int .u32 y)
  have m6 := m5.far ⟨b + 1, 3, none⟩ (by show b + 1 ≠ g; omega) (.int .u32 y)
  have b6 := b5.set ⟨b + 1, 3, none⟩ (by right; have := hbs.out; show w.heap.size ≤ b + 1; omega) (.int .u32 y)
  have e7 := blk_set e6 4 (.int .u32 v)
  have m7 := m6.far ⟨b + 1, 4, none⟩ (by show b + 1 ≠ g; omega) (.int .u32 v)
  have b7 := b6.set ⟨b + 1, 4, none⟩ (by right; have := hbs.out; show w.heap.size ≤ b + 1; omega) (.int .u32 v)
  refine bodyPost_ret (results_ct rfl _ _ (b + 1) 38 #[.int .i64 4, .int .i64 i, .int .u32 x, .int .u32 y, .int .u32 v] (0, 0) _ rfl e7 Tryz.underlying38 rfl (by kernel_rfl)) rfl ?_
  exact ⟨rfl, m7, b7⟩

set_option maxHeartbeats 2000000 in
theorem rdo_cas_hit (h : Wr w g l) (i cp : Nat) (hi : i < l.length) (hcp : l.length ≤ cp) (x y o : Int) (he : l.getD i 0 = x) : Calls Tryz.prog 19 #[.slice (some ⟨g, 0, none⟩) l.length cp, .agg #[.int .i64 5, .int .i64 i, .int .u32 x, .int .u32 y, .int .u32 o]] w fun e w' => e = .returned (.tuple #[.agg #[.int .i64 5, .int .i64 i, .int .u32 x, .int .u32 y, .int .u32 (l.getD i 0)], .bool true]) ∧ Wr w' g (l.set i y) ∧ But g w w' := by
  have hth := there_r (i := i) (n := l.length) (g := g) cp hi
  obtain ⟨b, hb⟩ : ∃ b, b = w.heap.size := ⟨_, rfl⟩
  obtain ⟨W, hW⟩ : ∃ W, W = (w.alloc (.cells #[.int .i64 5, .int .i64 i, .int .u32 x, .int .u32 y, .int .u32 o] 38)).alloc (.cells #[.int .i64 0, .int .i64 0, .int .u32 0, .int .u32 0, .int .u32 0] 38) := ⟨_, rfl⟩
  have h2 : Wr W g l := by rw [hW]; exact h.below (below_alloc (below_alloc (Below.refl _ w) _) _)
  have hB : But g w W := by rw [hW]; exact ((But.refl g w).alloc _).alloc _
  have hb0 : W.heap[b]? = some (.cells #[.int .i64 5, .int .i64 i, .int .u32 x, .int .u32 y, .int .u32 o] 38 (0, 0)) := by rw [hW, hb]; exact blk_alloc (heap_alloc_new _ _) _
  have hb1 : W.heap[b + 1]? = some (.cells #[.int .i64 0, .int .i64 0, .int .u32 0, .int .u32 0, .int .u32 0] 38 (0, 0)) := by rw [hW, hb, show w.heap.size + 1 = (w.alloc (.cells #[.int .i64 5, .int .i64 i, .int .u32 x, .int .u32 y, .int .u32 o] 38)).heap.size from by simp]; exact heap_alloc_new _ _
  have q0 := cell_of_heap (j := 0) hb0 rfl
  have q1 := cell_of_heap (j := 1) hb0 rfl
  have q2 := cell_of_heap (j := 2) hb0 rfl
  have q3 := cell_of_heap (j := 3) hb0 rfl
  have q4 := cell_of_heap (j := 4) hb0 rfl
  have p0 := cell_of_heap (j := 0) hb1 rfl
  have p1 := cell_of_heap (j := 1) hb1 rfl
  have p2 := cell_of_heap (j := 2) hb1 rfl
  have p3 := cell_of_heap (j := 3) hb1 rfl
  have p4 := cell_of_heap (j := 4) hb1 rfl
  have z4 := blk_frozen hb0 4
  have y0 := blk_frozen hb1 0
  have y1 := blk_frozen hb1 1
  have y2 := blk_frozen hb1 2
  have y3 := blk_frozen hb1 3
  have y4 := blk_frozen hb1 4
  have yg := h2.frozen i
  have hw := h2.cell hi
  obtain ⟨v, hv⟩ : ∃ v, v = l.getD i 0 := ⟨_, rfl⟩
  rw [← hv] at hw
  try rw [← hv]
  have hlt := h.lt
  have hg1 : g ≠ b := by omega
  have hg2 : g ≠ b + 1 := by omega
  clear hlt
  have hii : (i : Int) < (l.length : Int) := by omega
  go_enter Tryz.func19, Tryz.ntmps19
  go_upto_region 1 with (fail)
  rw [← hW, ← hb]
  replace h := Lib.hid h
  replace hW := Lib.hid hW
  replace hb0 := Lib.hid hb0
  replace hb1 := Lib.hid hb1
  replace hB := Lib.hid hB
  replace hv := Lib.hid hv
  replace h2 := Lib.hid h2
  have hi' := Lib.hid hi
  have hbs : w.heap.size ≤ b := Nat.le_of_eq hb.symm
  replace hb := Lib.hid hb
  replace hbs := Lib.hid hbs
  rw [← hv.out] at he
  have heb : (v == x) = true := beq_iff_eq.mpr he
  replace he := Lib.hid he
  go_wp2_with (go_at_call 49; go_must (refine (hth _).mono ?_; rintro e w1 ⟨rfl, rfl⟩))
  (try simp only [Exit.inBlock, Exit.then])
  have e0 := hb1.out
  have m0 := h2.out
  have b0 := hB.out
  have e1 := blk_far e0 (p := ⟨b, 4, none⟩) (by show b + 1 ≠ b; omega) (.int .u32 v)
  have m1 := m0.far ⟨b, 4, none⟩ (by show b ≠ g; omega) (.int .u32 v)
  have b1 := b0.set ⟨b, 4, none⟩ (by right; have := hbs.out; show w.heap.size ≤ b; omega) (.int .u32 v)
  have e2 := blk_far e1 (p := ⟨g, i, none⟩) (by exact Ne.symm hg2) (.int .u32 y)
  have m2 := m1.set i hi'.out y
  have b2 := b1.set ⟨g, i, none⟩ (by exact .inl rfl) (.int .u32 y)
  have e3 := blk_set e2 0 (.int .i64 5)
  have m3 := m2.far ⟨b + 1, 0, none⟩ (by show b + 1 ≠ g; omega) (.int .i64 5)
  have b3 := b2.set ⟨b + 1, 0, none⟩ (by right; have := hbs.out; show w.heap.size ≤ b + 1; omega) (.int .i64 5)
  have e4 := blk_set e3 1 (.int .i64 i)
  have m4 := m3.far ⟨b + 1, 1, none⟩ (by show b + 1 ≠ g; omega) (.int .i64 i)
  have b4 := b3.set ⟨b + 1, 1, none⟩ (by right; have := hbs.out; show w.heap.size ≤ b + 1; omega) (.int .i64 i)
  have e5 := blk_set e4 2 (.int .u32 x)
  have m5 := m4.far ⟨b + 1, 2, none⟩ (by show b + 1 ≠ g; omega) (.int .u32 x)
  have b5 := b4.set ⟨b + 1, 2, none⟩ (by right; have := hbs.out; show w.heap.size ≤ b + 1; omega) (.int .u32 x)
  have e6 := blk_set e5 3 (.int .u32 y)
  have m6 := m5.far ⟨b + 1, 3, none⟩ (by show b + 1 ≠ g; omega) (.int .u32 y)
  have b6 := b5.set ⟨b + 1, 3, none⟩ (by right; have := hbs.out; show w.heap.size ≤ b + 1; omega) (.int .u32 y)
  have e7 := blk_set e6 4 (.int .u32 v)
  have m7 := m6.far ⟨b + 1, 4, none⟩ (by show b + 1 ≠ g; omega) (.int .u32 v)
  have b7 := b6.set ⟨b + 1, 4, none⟩ (by right; have := hbs.out; show w.heap.size ≤ b + 1; omega) (.int .u32 v)
  refine bodyPost_ret (results_ct rfl _ _ (b + 1) 38 #[.int .i64 5, .int .i64 i, .int .u32 x, .int .u32 y, .int .u32 v] (0, 0) _ rfl e7 Tryz.underlying38 rfl (by kernel_rfl)) rfl ?_
  exact ⟨rfl, m7, b7⟩

set_option maxHeartbeats 2000000 in
theorem rdo_cas_miss (h : Wr w g l) (i cp : Nat) (hi : i < l.length) (hcp : l.length ≤ cp) (x y o : Int) (he : l.getD i 0 ≠ x) : Calls Tryz.prog 19 #[.slice (some ⟨g, 0, none⟩) l.length cp, .agg #[.int .i64 5, .int .i64 i, .int .u32 x, .int .u32 y, .int .u32 o]] w fun e w' => e = .returned (.tuple #[.agg #[.int .i64 5, .int .i64 i, .int .u32 x, .int .u32 y, .int .u32 (l.getD i 0)], .bool true]) ∧ Wr w' g l ∧ But g w w' := by
  have hth := there_r (i := i) (n := l.length) (g := g) cp hi
  obtain ⟨b, hb⟩ : ∃ b, b = w.heap.size := ⟨_, rfl⟩
  obtain ⟨W, hW⟩ : ∃ W, W = (w.alloc (.cells #[.int .i64 5, .int .i64 i, .int .u32 x, .int .u32 y, .int .u32 o] 38)).alloc (.cells #[.int .i64 0, .int .i64 0, .int .u32 0, .int .u32 0, .int .u32 0] 38) := ⟨_, rfl⟩
  have h2 : Wr W g l := by rw [hW]; exact h.below (below_alloc (below_alloc (Below.refl _ w) _) _)
  have hB : But g w W := by rw [hW]; exact ((But.refl g w).alloc _).alloc _
  have hb0 : W.heap[b]? = some (.cells #[.int .i64 5, .int .i64 i, .int .u32 x, .int .u32 y, .int .u32 o] 38 (0, 0)) := by rw [hW, hb]; exact blk_alloc (heap_alloc_new _ _) _
  have hb1 : W.heap[b + 1]? = some (.cells #[.int .i64 0, .int .i64 0, .int .u32 0, .int .u32 0, .int .u32 0] 38 (0, 0)) := by rw [hW, hb, show w.heap.size + 1 = (w.alloc (.cells #[.int .i64 5, .int .i64 i, .int .u32 x, .int .u32 y, .int .u32 o] 38)).heap.size from by simp]; exact heap_alloc_new _ _
  have q0 := cell_of_heap (j := 0) hb0 rfl
  have q1 := cell_of_heap (j := 1) hb0 rfl
  have q2 := cell_of_heap (j := 2) hb0 rfl
  have q3 := cell_of_heap (j := 3) hb0 rfl
  have q4 := cell_of_heap (j := 4) hb0 rfl
  have p0 := cell_of_heap (j := 0) hb1 rfl
  have p1 := cell_of_heap (j := 1) hb1 rfl
  have p2 := cell_of_heap (j := 2) hb1 rfl
  have p3 := cell_of_heap (j := 3) hb1 rfl
  have p4 := cell_of_heap (j := 4) hb1 rfl
  have z4 := blk_frozen hb0 4
  have y0 := blk_frozen hb1 0
  have y1 := blk_frozen hb1 1
  have y2 := blk_frozen hb1 2
  have y3 := blk_frozen hb1 3
  have y4 := blk_frozen hb1 4
  have yg := h2.frozen i
  have hw := h2.cell hi
  obtain ⟨v, hv⟩ : ∃ v, v = l.getD i 0 := ⟨_, rfl⟩
  rw [← hv] at hw
  try rw [← hv]
  have hlt := h.lt
  have hg1 : g ≠ b := by omega
  have hg2 : g ≠ b + 1 := by omega
  clear hlt
  have hii : (i : Int) < (l.length : Int) := by omega
  go_enter Tryz.func19, Tryz.ntmps19
  go_upto_region 1 with (fail)
  rw [← hW, ← hb]
  replace h := Lib.hid h
  replace hW := Lib.hid hW
  replace hb0 := Lib.hid hb0
  replace hb1 := Lib.hid hb1
  replace hB := Lib.hid hB
  replace hv := Lib.hid hv
  replace h2 := Lib.hid h2
  have hi' := Lib.hid hi
  have hbs : w.heap.size ≤ b := Nat.le_of_eq hb.symm
  replace hb := Lib.hid hb
  replace hbs := Lib.hid hbs
  rw [← hv.out] at he
  have heb : (v == x) = false := beq_eq_false_iff_ne.mpr he
  replace he := Lib.hid he
  go_wp2_with (go_at_call 49; go_must (refine (hth _).mono ?_; rintro e w1 ⟨rfl, rfl⟩))
  (try simp only [Exit.inBlock, Exit.then])
  have e0 := hb1.out
  have m0 := h2.out
  have b0 := hB.out
  have e1 := blk_far e0 (p := ⟨b, 4, none⟩) (by show b + 1 ≠ b; omega) (.int .u32 v)
  have m1 := m0.far ⟨b, 4, none⟩ (by show b ≠ g; omega) (.int .u32 v)
  have b1 := b0.set ⟨b, 4, none⟩ (by right; have := hbs.out; show w.heap.size ≤ b; omega) (.int .u32 v)
  have e2 := blk_set e1 0 (.int .i64 5)
  have m2 := m1.far ⟨b + 1, 0, none⟩ (by show b + 1 ≠ g; omega) (.int .i64 5)
  have b2 := b1.set ⟨b + 1, 0, none⟩ (by right; have := hbs.out; show w.heap.size ≤ b + 1; omega) (.int .i64 5)
  have e3 := blk_set e2 1 (.int .i64 i)
  have m3 := m2.far ⟨b + 1, 1, none⟩ (by show b + 1 ≠ g; omega) (.int .i64 i)
  have b3 := b2.set ⟨b + 1, 1, none⟩ (by right; have := hbs.out; show w.heap.size ≤ b + 1; omega) (.int .i64 i)
  have e4 := blk_set e3 2 (.int .u32 x)
  have m4 := m3.far ⟨b + 1, 2, none⟩ (by show b + 1 ≠ g; omega) (.int .u32 x)
  have b4 := b3.set ⟨b + 1, 2, none⟩ (by right; have := hbs.out; show w.heap.size ≤ b + 1; omega) (.int .u32 x)
  have e5 := blk_set e4 3 (.int .u32 y)
  have m5 := m4.far ⟨b + 1, 3, none⟩ (by show b + 1 ≠ g; omega) (.int .u32 y)
  have b5 := b4.set ⟨b + 1, 3, none⟩ (by right; have := hbs.out; show w.heap.size ≤ b + 1; omega) (.int .u32 y)
  have e6 := blk_set e5 4 (.int .u32 v)
  have m6 := m5.far ⟨b + 1, 4, none⟩ (by show b + 1 ≠ g; omega) (.int .u32 v)
  have b6 := b5.set ⟨b + 1, 4, none⟩ (by right; have := hbs.out; show w.heap.size ≤ b + 1; omega) (.int .u32 v)
  refine bodyPost_ret (results_ct rfl _ _ (b + 1) 38 #[.int .i64 5, .int .i64 i, .int .u32 x, .int .u32 y, .int .u32 v] (0, 0) _ rfl e6 Tryz.underlying38 rfl (by kernel_rfl)) rfl ?_
  exact ⟨rfl, m6, b6⟩

set_option maxHeartbeats 2000000 in
theorem rdo_add (h : Wr w g l) (i cp : Nat) (hi : i < l.length) (hcp : l.length ≤ cp) (x y o : Int) : Calls Tryz.prog 19 #[.slice (some ⟨g, 0, none⟩) l.length cp, .agg #[.int .i64 3, .int .i64 i, .int .u32 x, .int .u32 y, .int .u32 o]] w fun e w' => e = .returned (.tuple #[.agg #[.int .i64 3, .int .i64 i, .int .u32 x, .int .u32 y, .int .u32 (l.getD i 0)], .bool true]) ∧ Wr w' g (l.set i (u32 (l.getD i 0 + x))) ∧ But g w w' := by
  have hth := there_r (i := i) (n := l.length) (g := g) cp hi
  obtain ⟨b, hb⟩ : ∃ b, b = w.heap.size := ⟨_, rfl⟩
  obtain ⟨W, hW⟩ : ∃ W, W = (w.alloc (.cells #[.int .i64 3, .int .i64 i, .int .u32 x, .int .u32 y, .int .u32 o] 38)).alloc (.cells #[.int .i64 0, .int .i64 0, .int .u32 0, .int .u32 0, .int .u32 0] 38) := ⟨_, rfl⟩
  have h2 : Wr W g l := by rw [hW]; exact h.below (below_alloc (below_alloc (Below.refl _ w) _) _)
  have hB : But g w W := by rw [hW]; exact ((But.refl g w).alloc _).alloc _
  have hb0 : W.heap[b]? = some (.cells #[.int .i64 3, .int .i64 i, .int .u32 x, .int .u32 y, .int .u32 o] 38 (0, 0)) := by rw [hW, hb]; exact blk_alloc (heap_alloc_new _ _) _
  have hb1 : W.heap[b + 1]? = some (.cells #[.int .i64 0, .int .i64 0, .int .u32 0, .int .u32 0, .int .u32 0] 38 (0, 0)) := by rw [hW, hb, show w.heap.size + 1 = (w.alloc (.cells #[.int .i64 3, .int .i64 i, .int .u32 x, .int .u32 y, .int .u32 o] 38)).heap.size from by simp]; exact heap_alloc_new _ _
  have q0 := cell_of_heap (j := 0) hb0 rfl
  have q1 := cell_of_heap (j := 1) hb0 rfl
  have q2 := cell_of_heap (j := 2) hb0 rfl
  have q3 := cell_of_heap (j := 3) hb0 rfl
  have q4 := cell_of_heap (j := 4) hb0 rfl
  have p0 := cell_of_heap (j := 0) hb1 rfl
  have p1 := cell_of_heap (j := 1) hb1 rfl
  have p2 := cell_of_heap (j := 2) hb1 rfl
  have p3 := cell_of_heap (j := 3) hb1 rfl
  have p4 := cell_of_heap (j := 4) hb1 rfl
  have z4 := blk_frozen hb0 4
  have y0 := blk_frozen hb1 0
  have y1 := blk_frozen hb1 1
  have y2 := blk_frozen hb1 2
  have y3 := blk_frozen hb1 3
  have y4 := blk_frozen hb1 4
  have yg := h2.frozen i
  have hw := h2.cell hi
  obtain ⟨v, hv⟩ : ∃ v, v = l.getD i 0 := ⟨_, rfl⟩
  rw [← hv] at hw
  try rw [← hv]
  have hlt := h.lt
  have hg1 : g ≠ b := by omega
  have hg2 : g ≠ b + 1 := by omega
  clear hlt
  have hii : (i : Int) < (l.length : Int) := by omega
  go_enter Tryz.func19, Tryz.ntmps19
  go_upto_region 1 with (fail)
  rw [← hW, ← hb]
  replace h := Lib.hid h
  replace hW := Lib.hid hW
  replace hb0 := Lib.hid hb0
  replace hb1 := Lib.hid hb1
  replace hB := Lib.hid hB
  replace hv := Lib.hid hv
  replace h2 := Lib.hid h2
  have hi' := Lib.hid hi
  have hbs : w.heap.size ≤ b := Nat.le_of_eq hb.symm
  replace hb := Lib.hid hb
  replace hbs := Lib.hid hbs
  go_wp2_with (go_at_call 49; go_must (refine (hth _).mono ?_; rintro e w1 ⟨rfl, rfl⟩))
  (try simp only [Exit.inBlock, Exit.then])
  have e0 := hb1.out
  have m0 := h2.out
  have b0 := hB.out
  have e1 := blk_far e0 (p := ⟨b, 4, none⟩) (by show b + 1 ≠ b; omega) (.int .u32 v)
  have m1 := m0.far ⟨b, 4, none⟩ (by show b ≠ g; omega) (.int .u32 v)
  have b1 := b0.set ⟨b, 4, none⟩ (by right; have := hbs.out; show w.heap.size ≤ b; omega) (.int .u32 v)
  have e2 := blk_far e1 (p := ⟨g, i, none⟩) (by exact Ne.symm hg2) (.int .u32 (IntKind.u32.wrap (v + x)))
  have m2 := m1.set i hi'.out (IntKind.u32.wrap (v + x))
  have b2 := b1.set ⟨g, i, none⟩ (by exact .inl rfl) (.int .u32 (IntKind.u32.wrap (v + x)))
  have e3 := blk_set e2 0 (.int .i64 3)
  have m3 := m2.far ⟨b + 1, 0, none⟩ (by show b + 1 ≠ g; omega) (.int .i64 3)
  have b3 := b2.set ⟨b + 1, 0, none⟩ (by right; have := hbs.out; show w.heap.size ≤ b + 1; omega) (.int .i64 3)
  have e4 := blk_set e3 1 (.int .i64 i)
  have m4 := m3.far ⟨b + 1, 1, none⟩ (by show b + 1 ≠ g; omega) (.int .i64 i)
  have b4 := b3.set ⟨b + 1, 1, none⟩ (by right; have := hbs.out; show w.heap.size ≤ b + 1; omega) (.int .i64 i)
  have e5 := blk_set e4 2 (.int .u32 x)
  have m5 := m4.far ⟨b + 1, 2, none⟩ (by show b + 1 ≠ g; omega) (.int .u32 x)
  have b5 := b4.set ⟨b + 1, 2, none⟩ (by right; have := hbs.out; show w.heap.size ≤ b + 1; omega) (.int .u32 x)
  have e6 := blk_set e5 3 (.int .u32 y)
  have m6 := m5.far ⟨b + 1, 3, none⟩ (by show b + 1 ≠ g; omega) (.int .u32 y)
  have b6 := b5.set ⟨b + 1, 3, none⟩ (by right; have := hbs.out; show w.heap.size ≤ b + 1; omega) (.int .u32 y)
  have e7 := blk_set e6 4 (.int .u32 v)
  have m7 := m6.far ⟨b + 1, 4, none⟩ (by show b + 1 ≠ g; omega) (.int .u32 v)
  have b7 := b6.set ⟨b + 1, 4, none⟩ (by right; have := hbs.out; show w.heap.size ≤ b + 1; omega) (.int .u32 v)
  refine bodyPost_ret (results_ct rfl _ _ (b + 1) 38 #[.int .i64 3, .int .i64 i, .int .u32 x, .int .u32 y, .int .u32 v] (0, 0) _ rfl e7 Tryz.underlying38 rfl (by kernel_rfl)) rfl ?_
  exact ⟨rfl, wrap_u32 (v + x) ▸ m7, b7⟩

theorem rdo_walk (h : Wr w g l) (k c x y o : Int) (cp : Nat) (hcp : l.length ≤ cp) (hk : (doAcc l k c x y).2.1 = true) : Calls Tryz.prog 19 #[.slice (some ⟨g, 0, none⟩) l.length cp, .agg #[.int .i64 k, .int .i64 c, .int .u32 x, .int .u32 y, .int .u32 o]] w fun e w' => e = .returned (.tuple #[accV (doAcc l k c x y).1, .bool true]) ∧ Wr w' g (doAcc l k c x y).2.2 ∧ But g w w' := by
  by_cases hc : cellOk l c
  · obtain ⟨i, rfl⟩ := Int.eq_ofNat_of_zero_le hc.1
    have hi : i < l.length := by have := hc.2; omega
    revert hk
    unfold doAcc
    rw [if_pos hc]
    simp only [Int.toNat_natCast]
    intro hk
    have : k = 1 ∨ k = 2 ∨ k = 3 ∨ k = 4 ∨ k = 5 := by
      by_cases h1 : k = 1 ∨ k = 2 ∨ k = 3 ∨ k = 4 ∨ k = 5
      · exact h1
      · rw [if_neg (by omega), if_neg (by omega), if_neg (by omega), if_neg (by omega), if_neg (by omega)] at hk
        cases hk
    rcases this with rfl | rfl | rfl | rfl | rfl
    · exact rdo_load h i cp hi hcp x y o
    · exact rdo_store h i cp hi hcp x y o
    · exact rdo_add h i cp hi hcp x y o
    · exact rdo_swap h i cp hi hcp x y o
    · by_cases he : l.getD i 0 = x
      · simp only [if_pos he]
        exact rdo_cas_hit h i cp hi hcp x y o he
      · simp only [if_neg he]
        exact rdo_cas_miss h i cp hi hcp x y o he
  · rw [doAcc_none hc] at hk
    cases hk
theorem do_facts {l : List Int} {k c x y : Int} (h : (doAcc l k c x y).2.1 = true) : (doAcc l k c x y).1.kind = k ∧ (doAcc l k c x y).1.cell = c ∧ (doAcc l k c x y).1.x = x ∧ (doAcc l k c x y).1.y = y ∧ k ≠ 0 ∧ (doAcc l k c x y).2.2.length = l.length := by
  by_cases hc : cellOk l c
  · revert h
    unfold doAcc
    rw [if_pos hc]
    dsimp only
    split
    · rintro -; exact ⟨rfl, rfl, rfl, rfl, by omega, rfl⟩
    · split
      · rintro -; exact ⟨rfl, rfl, rfl, rfl, by omega, List.length_set⟩
      · split
        · rintro -; exact ⟨rfl, rfl, rfl, rfl, by omega, by split <;> simp⟩
        · split
          · rintro -; exact ⟨rfl, rfl, rfl, rfl, by omega, List.length_set⟩
          · split
            · rintro -; exact ⟨rfl, rfl, rfl, rfl, by omega, List.length_set⟩
            · intro h; cases h
  · rw [doAcc_none hc] at h
    cases h

end Go.Proofs.YtkmlefbdhdlfmaaGreat.Wo
