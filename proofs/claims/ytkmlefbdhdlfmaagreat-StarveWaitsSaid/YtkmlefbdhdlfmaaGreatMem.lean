/- The memory of words, and what reads and writes it: function by function, against the plain texts. -/
import Derived.Test.YtkmlefbdhdlfmaaGreatCore
import Derived.Test.YtkmlefbdhdlfmaaGreatProg
import Derived.Test.YtkmlefbdhdlfmaaGreatWMore
import Derived.Test.YtkmlefbdhdlfmaaGreatSq
import Derived.Lib.Hide
import Derived.WalkSpells
import Derived.Deep.DeepMust
import Derived.Deep.RegionHeld3
namespace Go.Proofs.YtkmlefbdhdlfmaaGreat.Wo
open Go.RowKit Go.Proofs.YtkmlefbdhdlfmaaGreatW.PrintWords Go.Proofs.YtkmlefbdhdlfmaaGreatW.PrintMore Go.Proofs.YtkmlefbdhdlfmaaGreatW.PrintLast
open Stile
set_option linter.unusedSimpArgs false
set_option linter.unusedVariables false
set_option maxRecDepth 100000

theorem cell_of_heap {w : World} {b j : Nat} {cells : Array Value} {t : TypeId} {v : Value} (h : w.heap[b]? = some (.cells cells t (0, 0))) (hv : cells[j]? = some v) : w.cell? ⟨b, j, none⟩ = some v := by
  simp [World.cell?, h, hv]

/-- Only one block, and new memory. -/
structure But (g : Nat) (w w1 : World) : Prop where
  os : w1.os = w.os
  tape : w1.tape = w.tape
  output : w1.output = w.output
  size : w.heap.size ≤ w1.heap.size
  block : ∀ k, k < w.heap.size → k ≠ g → w1.heap[k]? = w.heap[k]?
variable {w w1 w2 : World} {p pm g : Nat}
theorem But.refl (g : Nat) (w : World) : But g w w := ⟨rfl, rfl, rfl, Nat.le_refl _, fun _ _ _ => rfl⟩
theorem But.trans (h : But g w w1) (k : But g w1 w2) : But g w w2 :=
  ⟨k.os.trans h.os, k.tape.trans h.tape, k.output.trans h.output, Nat.le_trans h.size k.size, fun b hb h1 => (k.block b (Nat.lt_of_lt_of_le hb h.size) h1).trans (h.block b hb h1)⟩
theorem But.of_below (h : Below w.heap.size w w1) : But g w w1 := ⟨h.os, h.tape, h.output, h.size, fun b hb _ => h.block b hb⟩
theorem But.alloc (h : But g w w1) (o : Obj) : But g w (w1.alloc o) := h.trans ⟨rfl, rfl, rfl, by simp, fun b hb _ => Below.heap_alloc w1 o b hb⟩
theorem But.drew (h : But g w w1) : But g w w1.drew := ⟨h.os, h.tape, h.output, h.size, h.block⟩
theorem But.set (h : But g w w1) (a : Addr) (ha : a.block = g ∨ w.heap.size ≤ a.block) (v : Value) : But g w (w1.setCell a v) :=
  ⟨h.os, h.tape, h.output, by simpa [World.setCell] using h.size, fun b hb h1 => (Below.heap_setCell w1 a v b (by rcases ha with e | e <;> omega)).trans (h.block b hb h1)⟩

/-- An access. -/
def accV (a : Acc) : Value := .agg #[.int .i64 a.kind, .int .i64 a.cell, .int .u32 a.x, .int .u32 a.y, .int .u32 a.old]

/-- A memory: pm its block, g that of its words. -/
structure Mm (w : World) (pm g : Nat) (l : List Int) : Prop where
  head : ∃ cap, w.heap[pm]? = some (.cells #[.slice (some ⟨g, 0, none⟩) l.length cap] 139 (0, 0))
  row : ∃ cells : Array Value, w.heap[g]? = some (.cells cells 22 (0, 0)) ∧ ∀ i, i < l.length → cells[i]? = some (.int .u32 (l.getD i 0))
variable {l : List Int}
theorem Mm.ne (h : Mm w pm g l) : pm ≠ g := by
  obtain ⟨cap, hh⟩ := h.head
  obtain ⟨cells, hc, _⟩ := h.row
  exact blk_ne hh hc (by decide)
theorem Mm.lt (h : Mm w pm g l) : pm < w.heap.size ∧ g < w.heap.size := by
  obtain ⟨cap, hh⟩ := h.head
  obtain ⟨cells, hc, _⟩ := h.row
  exact ⟨blk_lt hh, blk_lt hc⟩
theorem Mm.of_blocks (h : Mm w pm g l) (h1 : w1.heap[pm]? = w.heap[pm]?) (h2 : w1.heap[g]? = w.heap[g]?) : Mm w1 pm g l := by
  obtain ⟨cap, hh⟩ := h.head
  obtain ⟨cells, hc, hr⟩ := h.row
  exact ⟨⟨cap, h1.trans hh⟩, cells, h2.trans hc, hr⟩
theorem Mm.below (h : Mm w pm g l) (hb : Below w.heap.size w w1) : Mm w1 pm g l := h.of_blocks (hb.block pm h.lt.1) (hb.block g h.lt.2)
theorem Mm.drew (h : Mm w pm g l) : Mm w.drew pm g l := h.of_blocks rfl rfl
theorem Mm.alloc (h : Mm w pm g l) (o : Obj) : Mm (w.alloc o) pm g l := h.below (below_alloc (Below.refl _ _) o)
theorem Mm.sl (h : Mm w pm g l) : ∃ cap, w.cell? ⟨pm, 0, none⟩ = some (.slice (some ⟨g, 0, none⟩) l.length cap) := by
  obtain ⟨cap, hh⟩ := h.head
  exact ⟨cap, cell_of_heap hh rfl⟩
theorem Mm.word (h : Mm w pm g l) (i : Nat) (hi : i < l.length) : w.cell? ⟨g, i, none⟩ = some (.int .u32 (l.getD i 0)) := by
  obtain ⟨cells, hc, hr⟩ := h.row
  exact cell_of_heap hc (hr i hi)
theorem Mm.frozen (h : Mm w pm g l) (j : Nat) : w.frozen? ⟨g, j, none⟩ = false := by
  obtain ⟨cells, hc, _⟩ := h.row
  exact blk_frozen hc j
/-- A word is written. -/
theorem Mm.set (h : Mm w pm g l) (i : Nat) (hi : i < l.length) (x : Int) : Mm (w.setCell ⟨g, i, none⟩ (.int .u32 x)) pm g (l.set i x) := by
  have hne := h.ne
  obtain ⟨cap, hh⟩ := h.head
  obtain ⟨cells, hc, hr⟩ := h.row
  have hsz : i < cells.size := (Array.getElem?_eq_some_iff.1 (hr i hi)).1
  refine ⟨⟨cap, ?_⟩, _, blk_set hc i _, fun j hj => ?_⟩
  · rw [List.length_set]
    exact blk_far hh hne _
  · rw [List.length_set] at hj
    by_cases e : j = i
    · subst e
      rw [Array.getElem?_setIfInBounds_self_of_lt hsz]
      simp [List.getD_eq_getElem?_getD, hj]
    · rw [Array.getElem?_setIfInBounds_ne (by omega), hr j hj]
      simp [List.getD_eq_getElem?_getD, List.getElem?_set_ne (by omega : i ≠ j)]
theorem Mm.far (h : Mm w pm g l) (a : Addr) (h1 : a.block ≠ pm) (h2 : a.block ≠ g) (v : Value) : Mm (w.setCell a v) pm g l :=
  h.of_blocks (Below.heap_setCell w a v pm (by omega)) (Below.heap_setCell w a v g (by omega))

theorem len_walk (h : Mm w pm g l) : Calls Tryz.prog 210 #[.pointer (some ⟨pm, 0, none⟩)] w fun e w' => e = .returned (.int .i64 (l.length : Int)) ∧ w' = w := by
  obtain ⟨cap, hc⟩ := h.sl
  replace h := Lib.hid h
  go_enter Tryz.func210, Tryz.ntmps210
  go_wp2
  go_ret
  exact ⟨rfl, rfl⟩

theorem cell_walk (h : Mm w pm g l) (c : Int) : Calls Tryz.prog 206 #[.pointer (some ⟨pm, 0, none⟩), .int .i64 c] w fun e w' => e = .returned (.pointer (if cellOk l c then some ⟨g, c.toNat, none⟩ else none)) ∧ w' = w := by
  obtain ⟨cap, hc⟩ := h.sl
  have hl := len_walk h
  replace h := Lib.hid h
  by_cases h0 : c < 0
  · rw [if_neg (by unfold cellOk; omega)]
    go_enter Tryz.func206, Tryz.ntmps206
    go_wp2
    go_ret
    exact ⟨rfl, rfl⟩
  · obtain ⟨i, rfl⟩ := Int.eq_ofNat_of_zero_le (by omega : 0 ≤ c)
    have h0b : decide ((i : Int) < 0) = false := decide_eq_false h0
    replace h0 := Lib.hid h0
    by_cases h1 : i < l.length
    · rw [if_pos (by unfold cellOk; omega)]
      have h1i : (i : Int) < (l.length : Int) := by omega
      have h1b : decide ((i : Int) ≥ (l.length : Int)) = false := decide_eq_false (by omega)
      go_enter Tryz.func206, Tryz.ntmps206
      go_wp2_with (go_at_call 210; refine hl.mono ?_; rintro e w1 ⟨rfl, rfl⟩)
      go_ret
      exact ⟨by simp, rfl⟩
    · rw [if_neg (by unfold cellOk; omega)]
      have h1b : decide ((i : Int) ≥ (l.length : Int)) = true := decide_eq_true (by omega)
      go_enter Tryz.func206, Tryz.ntmps206
      go_wp2_with (go_at_call 210; refine hl.mono ?_; rintro e w1 ⟨rfl, rfl⟩)
      go_ret
      exact ⟨rfl, rfl⟩

theorem doAcc_none {l : List Int} {k c x y : Int} (h : ¬ cellOk l c) : doAcc l k c x y = (Acc.zero, false, l) := if_neg h
set_option maxHeartbeats 2000000 in
theorem do_none (h : Mm w pm g l) (k c x y o : Int) (hc : ¬ cellOk l c) : Calls Tryz.prog 185 #[.pointer (some ⟨pm, 0, none⟩), .agg #[.int .i64 k, .int .i64 c, .int .u32 x, .int .u32 y, .int .u32 o]] w fun e w' => e = .returned (.tuple #[accV Acc.zero, .bool false]) ∧ Mm w' pm g l ∧ But g w w' := by
  have hcell : ∀ w', Mm w' pm g l → Calls Tryz.prog 206 #[.pointer (some ⟨pm, 0, none⟩), .int .i64 c] w' fun e w1 => e = .returned (.pointer none) ∧ w1 = w' := by
    intro w' hw
    have := cell_walk hw c
    rw [if_neg hc] at this
    exact this
  have h2 := (h.alloc (.cells #[.int .i64 k, .int .i64 c, .int .u32 x, .int .u32 y, .int .u32 o] 38)).alloc (.cells #[.int .i64 0, .int .i64 0, .int .u32 0, .int .u32 0, .int .u32 0] 38)
  have hl := h.lt
  replace h := Lib.hid h
  go_enter Tryz.func185, Tryz.ntmps185
  go_wp2_with (go_at_call 206; refine (hcell _ h2).mono ?_; rintro e w1 ⟨rfl, rfl⟩)
  (try simp only [Exit.inBlock, Exit.then])
  refine bodyPost_ret (results_ct rfl _ _ (w.heap.size + 1) 38 #[.int .i64 0, .int .i64 0, .int .u32 0, .int .u32 0, .int .u32 0] (0, 0) _ rfl (by rw [show w.heap.size + 1 = (w.alloc (.cells #[.int .i64 k, .int .i64 c, .int .u32 x, .int .u32 y, .int .u32 o] 38)).heap.size from by simp]; exact heap_alloc_new _ _) Tryz.underlying38 rfl (by kernel_rfl)) rfl ?_
  exact ⟨rfl, h2, ((But.refl g w).alloc _).alloc _⟩

set_option maxHeartbeats 2000000 in
theorem do_load (h : Mm w pm g l) (i : Nat) (hi : i < l.length) (x y o : Int) : Calls Tryz.prog 185 #[.pointer (some ⟨pm, 0, none⟩), .agg #[.int .i64 1, .int .i64 i, .int .u32 x, .int .u32 y, .int .u32 o]] w fun e w' => e = .returned (.tuple #[accV ⟨1, i, x, y, l.getD i 0⟩, .bool true]) ∧ Mm w' pm g l ∧ But g w w' := by
  have hcell : ∀ w', Mm w' pm g l → Calls Tryz.prog 206 #[.pointer (some ⟨pm, 0, none⟩), .int .i64 i] w' fun e w1 => e = .returned (.pointer (some ⟨g, i, none⟩)) ∧ w1 = w' := by
    intro w' hw
    have := cell_walk hw i
    rw [if_pos (by unfold cellOk; omega)] at this
    simpa using this
  obtain ⟨b, hb⟩ : ∃ b, b = w.heap.size := ⟨_, rfl⟩
  obtain ⟨W, hW⟩ : ∃ W, W = (w.alloc (.cells #[.int .i64 1, .int .i64 i, .int .u32 x, .int .u32 y, .int .u32 o] 38)).alloc (.cells #[.int .i64 0, .int .i64 0, .int .u32 0, .int .u32 0, .int .u32 0] 38) := ⟨_, rfl⟩
  have h2 : Mm W pm g l := by rw [hW]; exact (h.alloc _).alloc _
  have hB : But g w W := by rw [hW]; exact ((But.refl g w).alloc _).alloc _
  have hb0 : W.heap[b]? = some (.cells #[.int .i64 1, .int .i64 i, .int .u32 x, .int .u32 y, .int .u32 o] 38 (0, 0)) := by rw [hW, hb]; exact blk_alloc (heap_alloc_new _ _) _
  have hb1 : W.heap[b + 1]? = some (.cells #[.int .i64 0, .int .i64 0, .int .u32 0, .int .u32 0, .int .u32 0] 38 (0, 0)) := by rw [hW, hb, show w.heap.size + 1 = (w.alloc (.cells #[.int .i64 1, .int .i64 i, .int .u32 x, .int .u32 y, .int .u32 o] 38)).heap.size from by simp]; exact heap_alloc_new _ _
  have q0 := cell_of_heap (j := 0) hb0 rfl
  have q1 := cell_of_heap (j := 1) hb0 rfl
  have q2 := cell_of_heap (j := 2) hb0 rfl
  have q3 := cell_of_heap (j := 3) hb0 rfl
  have q4 := cell_of_heap (j := 4) hb0 rfl
  have p0 := cell_of_heap (j := 0) hb1 rfl
  have p1 := cell_of_heap (j := 1) hb1 rfl
  have p2 := cell_of_heap (j := 2) hb1 rfl
  have p3 := cell_of_heap (j := 3) hb1 rfl
  have p4 := cell_of_heap (j := 4) hb1 rfl
  have z4 := blk_frozen hb0 4
  have y0 := blk_frozen hb1 0
  have y1 := blk_frozen hb1 1
  have y2 := blk_frozen hb1 2
  have y3 := blk_frozen hb1 3
  have y4 := blk_frozen hb1 4
  have yg := h2.frozen i
  have hw := h2.word i hi
  obtain ⟨v, hv⟩ : ∃ v, v = l.getD i 0 := ⟨_, rfl⟩
  rw [← hv] at hw
  try rw [← hv]
  have hlt := h.lt
  have hg1 : g ≠ b := by omega
  have hg2 : g ≠ b + 1 := by omega
  have hm1 : pm ≠ b := by omega
  have hm2 : pm ≠ b + 1 := by omega
  clear hlt
  go_enter Tryz.func185, Tryz.ntmps185
  go_upto_region 1 with (fail)
  rw [← hW, ← hb]
  replace h := Lib.hid h
  replace hW := Lib.hid hW
  replace hb0 := Lib.hid hb0
  replace hb1 := Lib.hid hb1
  replace hB := Lib.hid hB
  replace hv := Lib.hid hv
  replace hi := Lib.hid hi
  have hbs : w.heap.size ≤ b := Nat.le_of_eq hb.symm
  replace hb := Lib.hid hb
  replace hbs := Lib.hid hbs
  go_wp2_with (go_at_call 206; refine (hcell _ h2).mono ?_; rintro e w1 ⟨rfl, rfl⟩; replace h2 := Lib.hid h2)
  (try simp only [Exit.inBlock, Exit.then])
  have e0 := hb1.out
  have m0 := h2.out
  have b0 := hB.out
  have e1 := blk_far e0 (p := ⟨b, 4, none⟩) (by show b + 1 ≠ b; omega) (.int .u32 v)
  have m1 := m0.far ⟨b, 4, none⟩ (by show b ≠ pm; omega) (by show b ≠ g; omega) (.int .u32 v)
  have b1 := b0.set ⟨b, 4, none⟩ (by right; have := hbs.out; show w.heap.size ≤ b; omega) (.int .u32 v)
  have e2 := blk_set e1 0 (.int .i64 1)
  have m2 := m1.far ⟨b + 1, 0, none⟩ (by show b + 1 ≠ pm; omega) (by show b + 1 ≠ g; omega) (.int .i64 1)
  have b2 := b1.set ⟨b + 1, 0, none⟩ (by right; have := hbs.out; show w.heap.size ≤ b + 1; omega) (.int .i64 1)
  have e3 := blk_set e2 1 (.int .i64 i)
  have m3 := m2.far ⟨b + 1, 1, none⟩ (by show b + 1 ≠ pm; omega) (by show b + 1 ≠ g; omega) (.int .i64 i)
  have b3 := b2.set ⟨b + 1, 1, none⟩ (by right; have := hbs.out; show w.heap.size ≤ b + 1; omega) (.int .i64 i)
  have e4 := blk_set e3 2 (.int .u32 x)
  have m4 := m3.far ⟨b + 1, 2, none⟩ (by show b + 1 ≠ pm; omega) (by show b + 1 ≠ g; omega) (.int .u32 x)
  have b4 := b3.set ⟨b + 1, 2, none⟩ (by right; have := hbs.out; show w.heap.size ≤ b + 1; omega) (.int .u32 x)
  have e5 := blk_set e4 3 (.int .u32 y)
  have m5 := m4.far ⟨b + 1, 3, none⟩ (by show b + 1 ≠ pm; omega) (by show b + 1 ≠ g; omega) (.int .u32 y)
  have b5 := b4.set ⟨b + 1, 3, none⟩ (by right; have := hbs.out; show w.heap.size ≤ b + 1; omega) (.int .u32 y)
  have e6 := blk_set e5 4 (.int .u32 v)
  have m6 := m5.far ⟨b + 1, 4, none⟩ (by show b + 1 ≠ pm; omega) (by show b + 1 ≠ g; omega) (.int .u32 v)
  have b6 := b5.set ⟨b + 1, 4, none⟩ (by right; have := hbs.out; show w.heap.size ≤ b + 1; omega) (.int .u32 v)
  refine bodyPost_ret (results_ct rfl _ _ (b + 1) 38 #[.int .i64 1, .int .i64 i, .int .u32 x, .int .u32 y, .int .u32 v] (0, 0) _ rfl e6 Tryz.underlying38 rfl (by kernel_rfl)) rfl ?_
  exact ⟨rfl, m6, b6⟩

set_option maxHeartbeats 2000000 in
theorem do_store (h : Mm w pm g l) (i : Nat) (hi : i < l.length) (x y o : Int) : Calls Tryz.prog 185 #[.pointer (some ⟨pm, 0, none⟩), .agg #[.int .i64 2, .int .i64 i, .int .u32 x, .int .u32 y, .int .u32 o]] w fun e w' => e = .returned (.tuple #[accV ⟨2, i, x, y, l.getD i 0⟩, .bool true]) ∧ Mm w' pm g (l.set i x) ∧ But g w w' := by
  have hcell : ∀ w', Mm w' pm g l → Calls Tryz.prog 206 #[.pointer (some ⟨pm, 0, none⟩), .int .i64 i] w' fun e w1 => e = .returned (.pointer (some ⟨g, i, none⟩)) ∧ w1 = w' := by
    intro w' hw
    have := cell_walk hw i
    rw [if_pos (by unfold cellOk; omega)] at this
    simpa using this
  obtain ⟨b, hb⟩ : ∃ b, b = w.heap.size := ⟨_, rfl⟩
  obtain ⟨W, hW⟩ : ∃ W, W = (w.alloc (.cells #[.int .i64 2, .int .i64 i, .int .u32 x, .int .u32 y, .int .u32 o] 38)).alloc (.cells #[.int .i64 0, .int .i64 0, .int .u32 0, .int .u32 0, .int .u32 0] 38) := ⟨_, rfl⟩
  have h2 : Mm W pm g l := by rw [hW]; exact (h.alloc _).alloc _
  have hB : But g w W := by rw [hW]; exact ((But.refl g w).alloc _).alloc _
  have hb0 : W.heap[b]? = some (.cells #[.int .i64 2, .int .i64 i, .int .u32 x, .int .u32 y, .int .u32 o] 38 (0, 0)) := by rw [hW, hb]; exact blk_alloc (heap_alloc_new _ _) _
  have hb1 : W.heap[b + 1]? = some (.cells #[.int .i64 0, .int .i64 0, .int .u32 0, .int .u32 0, .int .u32 0] 38 (0, 0)) := by rw [hW, hb, show w.heap.size + 1 = (w.alloc (.cells #[.int .i64 2, .int .i64 i, .int .u32 x, .int .u32 y, .int .u32 o] 38)).heap.size from by simp]; exact heap_alloc_new _ _
  have q0 := cell_of_heap (j := 0) hb0 rfl
  have q1 := cell_of_heap (j := 1) hb0 rfl
  have q2 := cell_of_heap (j := 2) hb0 rfl
  have q3 := cell_of_heap (j := 3) hb0 rfl
  have q4 := cell_of_heap (j := 4) hb0 rfl
  have p0 := cell_of_heap (j := 0) hb1 rfl
  have p1 := cell_of_heap (j := 1) hb1 rfl
  have p2 := cell_of_heap (j := 2) hb1 rfl
  have p3 := cell_of_heap (j := 3) hb1 rfl
  have p4 := cell_of_heap (j := 4) hb1 rfl
  have z4 := blk_frozen hb0 4
  have y0 := blk_frozen hb1 0
  have y1 := blk_frozen hb1 1
  have y2 := blk_frozen hb1 2
  have y3 := blk_frozen hb1 3
  have y4 := blk_frozen hb1 4
  have yg := h2.frozen i
  have hw := h2.word i hi
  obtain ⟨v, hv⟩ : ∃ v, v = l.getD i 0 := ⟨_, rfl⟩
  rw [← hv] at hw
  try rw [← hv]
  have hlt := h.lt
  have hg1 : g ≠ b := by omega
  have hg2 : g ≠ b + 1 := by omega
  have hm1 : pm ≠ b := by omega
  have hm2 : pm ≠ b + 1 := by omega
  clear hlt
  go_enter Tryz.func185, Tryz.ntmps185
  go_upto_region 1 with (fail)
  rw [← hW, ← hb]
  replace h := Lib.hid h
  replace hW := Lib.hid hW
  replace hb0 := Lib.hid hb0
  replace hb1 := Lib.hid hb1
  replace hB := Lib.hid hB
  replace hv := Lib.hid hv
  replace hi := Lib.hid hi
  have hbs : w.heap.size ≤ b := Nat.le_of_eq hb.symm
  replace hb := Lib.hid hb
  replace hbs := Lib.hid hbs
  go_wp2_with (go_at_call 206; refine (hcell _ h2).mono ?_; rintro e w1 ⟨rfl, rfl⟩; replace h2 := Lib.hid h2)
  (try simp only [Exit.inBlock, Exit.then])
  have e0 := hb1.out
  have m0 := h2.out
  have b0 := hB.out
  have e1 := blk_far e0 (p := ⟨b, 4, none⟩) (by show b + 1 ≠ b; omega) (.int .u32 v)
  have m1 := m0.far ⟨b, 4, none⟩ (by show b ≠ pm; omega) (by show b ≠ g; omega) (.int .u32 v)
  have b1 := b0.set ⟨b, 4, none⟩ (by right; have := hbs.out; show w.heap.size ≤ b; omega) (.int .u32 v)
  have e2 := blk_far e1 (p := ⟨g, i, none⟩) (by exact Ne.symm hg2) (.int .u32 x)
  have m2 := m1.set i hi.out x
  have b2 := b1.set ⟨g, i, none⟩ (by exact .inl rfl) (.int .u32 x)
  have e3 := blk_set e2 0 (.int .i64 2)
  have m3 := m2.far ⟨b + 1, 0, none⟩ (by show b + 1 ≠ pm; omega) (by show b + 1 ≠ g; omega) (.int .i64 2)
  have b3 := b2.set ⟨b + 1, 0, none⟩ (by right; have := hbs.out; show w.heap.size ≤ b + 1; omega) (.int .i64 2)
  have e4 := blk_set e3 1 (.int .i64 i)
  have m4 := m3.far ⟨b + 1, 1, none⟩ (by show b + 1 ≠ pm; omega) (by show b + 1 ≠ g; omega) (.int .i64 i)
  have b4 := b3.set ⟨b + 1, 1, none⟩ (by right; have := hbs.out; show w.heap.size ≤ b + 1; omega) (.int .i64 i)
  have e5 := blk_set e4 2 (.int .u32 x)
  have m5 := m4.far ⟨b + 1, 2, none⟩ (by show b + 1 ≠ pm; omega) (by show b + 1 ≠ g; omega) (.int .u32 x)
  have b5 := b4.set ⟨b + 1, 2, none⟩ (by right; have := hbs.out; show w.heap.size ≤ b + 1; omega) (.int .u32 x)
  have e6 := blk_set e5 3 (.int .u32 y)
  have m6 := m5.far ⟨b + 1, 3, none⟩ (by show b + 1 ≠ pm; omega) (by show b + 1 ≠ g; omega) (.int .u32 y)
  have b6 := b5.set ⟨b + 1, 3, none⟩ (by right; have := hbs.out; show w.heap.size ≤ b + 1; omega) (.int .u32 y)
  have e7 := blk_set e6 4 (.int .u32 v)
  have m7 := m6.far ⟨b + 1, 4, none⟩ (by show b + 1 ≠ pm; omega) (by show b + 1 ≠ g; omega) (.int .u32 v)
  have b7 := b6.set ⟨b + 1, 4, none⟩ (by right; have := hbs.out; show w.heap.size ≤ b + 1; omega) (.int .u32 v)
  refine bodyPost_ret (results_ct rfl _ _ (b + 1) 38 #[.int .i64 2, .int .i64 i, .int .u32 x, .int .u32 y, .int .u32 v] (0, 0) _ rfl e7 Tryz.underlying38 rfl (by kernel_rfl)) rfl ?_
  exact ⟨rfl, m7, b7⟩

set_option maxHeartbeats 2000000 in
theorem do_swap (h : Mm w pm g l) (i : Nat) (hi : i < l.length) (x y o : Int) : Calls Tryz.prog 185 #[.pointer (some ⟨pm, 0, none⟩), .agg #[.int .i64 4, .int .i64 i, .int .u32 x, .int .u32 y, .int .u32 o]] w fun e w' => e = .returned (.tuple #[accV ⟨4, i, x, y, l.getD i 0⟩, .bool true]) ∧ Mm w' pm g (l.set i x) ∧ But g w w' := by
  have hcell : ∀ w', Mm w' pm g l → Calls Tryz.prog 206 #[.pointer (some ⟨pm, 0, none⟩), .int .i64 i] w' fun e w1 => e = .returned (.pointer (some ⟨g, i, none⟩)) ∧ w1 = w' := by
    intro w' hw
    have := cell_walk hw i
    rw [if_pos (by unfold cellOk; omega)] at this
    simpa using this
  obtain ⟨b, hb⟩ : ∃ b, b = w.heap.size := ⟨_, rfl⟩
  obtain ⟨W, hW⟩ : ∃ W, W = (w.alloc (.cells #[.int .i64 4, .int .i64 i, .int .u32 x, .int .u32 y, .int .u32 o] 38)).alloc (.cells #[.int .i64 0, .int .i64 0, .int .u32 0, .int .u32 0, .int .u32 0] 38) := ⟨_, rfl⟩
  have h2 : Mm W pm g l := by rw [hW]; exact (h.alloc _).alloc _
  have hB : But g w W := by rw [hW]; exact ((But.refl g w).alloc _).alloc _
  have hb0 : W.heap[b]? = some (.cells #[.int .i64 4, .int .i64 i, .int .u32 x, .int .u32 y, .int .u32 o] 38 (0, 0)) := by rw [hW, hb]; exact blk_alloc (heap_alloc_new _ _) _
  have hb1 : W.heap[b + 1]? = some (.cells #[.int .i64 0, .int .i64 0, .int .u32 0, .int .u32 0, .int .u32 0] 38 (0, 0)) := by rw [hW, hb, show w.heap.size + 1 = (w.alloc (.cells #[.int .i64 4, .int .i64 i, .int .u32 x, .int .u32 y, .int .u32 o] 38)).heap.size from by simp]; exact heap_alloc_new _ _
  have q0 := cell_of_heap (j := 0) hb0 rfl
  have q1 := cell_of_heap (j := 1) hb0 rfl
  have q2 := cell_of_heap (j := 2) hb0 rfl
  have q3 := cell_of_heap (j := 3) hb0 rfl
  have q4 := cell_of_heap (j := 4) hb0 rfl
  have p0 := cell_of_heap (j := 0) hb1 rfl
  have p1 := cell_of_heap (j := 1) hb1 rfl
  have p2 := cell_of_heap (j := 2) hb1 rfl
  have p3 := cell_of_heap (j := 3) hb1 rfl
  have p4 := cell_of_heap (j := 4) hb1 rfl
  have z4 := blk_frozen hb0 4
  have y0 := blk_frozen hb1 0
  have y1 := blk_frozen hb1 1
  have y2 := blk_frozen hb1 2
  have y3 := blk_frozen hb1 3
  have y4 := blk_frozen hb1 4
  have yg := h2.frozen i
  have hw := h2.word i hi
  obtain ⟨v, hv⟩ : ∃ v, v = l.getD i 0 := ⟨_, rfl⟩
  rw [← hv] at hw
  try rw [← hv]
  have hlt := h.lt
  have hg1 : g ≠ b := by omega
  have hg2 : g ≠ b + 1 := by omega
  have hm1 : pm ≠ b := by omega
  have hm2 : pm ≠ b + 1 := by omega
  clear hlt
  go_enter Tryz.func185, Tryz.ntmps185
  go_upto_region 1 with (fail)
  rw [← hW, ← hb]
  replace h := Lib.hid h
  replace hW := Lib.hid hW
  replace hb0 := Lib.hid hb0
  replace hb1 := Lib.hid hb1
  replace hB := Lib.hid hB
  replace hv := Lib.hid hv
  replace hi := Lib.hid hi
  have hbs : w.heap.size ≤ b := Nat.le_of_eq hb.symm
  replace hb := Lib.hid hb
  replace hbs := Lib.hid hbs
  go_wp2_with (go_at_call 206; refine (hcell _ h2).mono ?_; rintro e w1 ⟨rfl, rfl⟩; replace h2 := Lib.hid h2)
  (try simp only [Exit.inBlock, Exit.then])
  have e0 := hb1.out
  have m0 := h2.out
  have b0 := hB.out
  have e1 := blk_far e0 (p := ⟨b, 4, none⟩) (by show b + 1 ≠ b; omega) (.int .u32 v)
  have m1 := m0.far ⟨b, 4, none⟩ (by show b ≠ pm; omega) (by show b ≠ g; omega) (.int .u32 v)
  have b1 := b0.set ⟨b, 4, none⟩ (by right; have := hbs.out; show w.heap.size ≤ b; omega) (.int .u32 v)
  have e2 := blk_far e1 (p := ⟨g, i, none⟩) (by exact Ne.symm hg2) (.int .u32 x)
  have m2 := m1.set i hi.out x
  have b2 := b1.set ⟨g, i, none⟩ (by exact .inl rfl) (.int .u32 x)
  have e3 := blk_set e2 0 (.int .i64 4)
  have m3 := m2.far ⟨b + 1, 0, none⟩ (by show b + 1 ≠ pm; omega) (by show b + 1 ≠ g; omega) (.int .i64 4)
  have b3 := b2.set ⟨b + 1, 0, none⟩ (by right; have := hbs.out; show w.heap.size ≤ b + 1; omega) (.int .i64 4)
  have e4 := blk_set e3 1 (.int .i64 i)
  have m4 := m3.far ⟨b + 1, 1, none⟩ (by show b + 1 ≠ pm; omega) (by show b + 1 ≠ g; omega) (.int .i64 i)
  have b4 := b3.set ⟨b + 1, 1, none⟩ (by right; have := hbs.out; show w.heap.size ≤ b + 1; omega) (.int .i64 i)
  have e5 := blk_set e4 2 (.int .u32 x)
  have m5 := m4.far ⟨b + 1, 2, none⟩ (by show b + 1 ≠ pm; omega) (by show b + 1 ≠ g; omega) (.int .u32 x)
  have b5 := b4.set ⟨b + 1, 2, none⟩ (by right; have := hbs.out; show w.heap.size ≤ b + 1; omega) (.int .u32 x)
  have e6 := blk_set e5 3 (.int .u32 y)
  have m6 := m5.far ⟨b + 1, 3, none⟩ (by show b + 1 ≠ pm; omega) (by show b + 1 ≠ g; omega) (.int .u32 y)
  have b6 := b5.set ⟨b + 1, 3, none⟩ (by right; have := hbs.out; show w.heap.size ≤ b + 1; omega) (.int .u32 y)
  have e7 := blk_set e6 4 (.int .u32 v)
  have m7 := m6.far ⟨b + 1, 4, none⟩ (by show b + 1 ≠ pm; omega) (by show b + 1 ≠ g; omega) (.int .u32 v)
  have b7 := b6.set ⟨b + 1, 4, none⟩ (by right; have := hbs.out; show w.heap.size ≤ b + 1; omega) (.int .u32 v)
  refine bodyPost_ret (results_ct rfl _ _ (b + 1) 38 #[.int .i64 4, .int .i64 i, .int .u32 x, .int .u32 y, .int .u32 v] (0, 0) _ rfl e7 Tryz.underlying38 rfl (by kernel_rfl)) rfl ?_
  exact ⟨rfl, m7, b7⟩

set_option maxHeartbeats 2000000 in
theorem do_cas_hit (h : Mm w pm g l) (i : Nat) (hi : i < l.length) (x y o : Int) (he : l.getD i 0 = x) : Calls Tryz.prog 185 #[.pointer (some ⟨pm, 0, none⟩), .agg #[.int .i64 5, .int .i64 i, .int .u32 x, .int .u32 y, .int .u32 o]] w fun e w' => e = .returned (.tuple #[accV ⟨5, i, x, y, l.getD i 0⟩, .bool true]) ∧ Mm w' pm g (l.set i y) ∧ But g w w' := by
  have hcell : ∀ w', Mm w' pm g l → Calls Tryz.prog 206 #[.pointer (some ⟨pm, 0, none⟩), .int .i64 i] w' fun e w1 => e = .returned (.pointer (some ⟨g, i, none⟩)) ∧ w1 = w' := by
    intro w' hw
    have := cell_walk hw i
    rw [if_pos (by unfold cellOk; omega)] at this
    simpa using this
  obtain ⟨b, hb⟩ : ∃ b, b = w.heap.size := ⟨_, rfl⟩
  obtain ⟨W, hW⟩ : ∃ W, W = (w.alloc (.cells #[.int .i64 5, .int .i64 i, .int .u32 x, .int .u32 y, .int .u32 o] 38)).alloc (.cells #[.int .i64 0, .int .i64 0, .int .u32 0, .int .u32 0, .int .u32 0] 38) := ⟨_, rfl⟩
  have h2 : Mm W pm g l := by rw [hW]; exact (h.alloc _).alloc _
  have hB : But g w W := by rw [hW]; exact ((But.refl g w).alloc _).alloc _
  have hb0 : W.heap[b]? = some (.cells #[.int .i64 5, .int .i64 i, .int .u32 x, .int .u32 y, .int .u32 o] 38 (0, 0)) := by rw [hW, hb]; exact blk_alloc (heap_alloc_new _ _) _
  have hb1 : W.heap[b + 1]? = some (.cells #[.int .i64 0, .int .i64 0, .int .u32 0, .int .u32 0, .int .u32 0] 38 (0, 0)) := by rw [hW, hb, show w.heap.size + 1 = (w.alloc (.cells #[.int .i64 5, .int .i64 i, .int .u32 x, .int .u32 y, .int .u32 o] 38)).heap.size from by simp]; exact heap_alloc_new _ _
  have q0 := cell_of_heap (j := 0) hb0 rfl
  have q1 := cell_of_heap (j := 1) hb0 rfl
  have q2 := cell_of_heap (j := 2) hb0 rfl
  have q3 := cell_of_heap (j := 3) hb0 rfl
  have q4 := cell_of_heap (j := 4) hb0 rfl
  have p0 := cell_of_heap (j := 0) hb1 rfl
  have p1 := cell_of_heap (j := 1) hb1 rfl
  have p2 := cell_of_heap (j := 2) hb1 rfl
  have p3 := cell_of_heap (j := 3) hb1 rfl
  have p4 := cell_of_heap (j := 4) hb1 rfl
  have z4 := blk_frozen hb0 4
  have y0 := blk_frozen hb1 0
  have y1 := blk_frozen hb1 1
  have y2 := blk_frozen hb1 2
  have y3 := blk_frozen hb1 3
  have y4 := blk_frozen hb1 4
  have yg := h2.frozen i
  have hw := h2.word i hi
  obtain ⟨v, hv⟩ : ∃ v, v = l.getD i 0 := ⟨_, rfl⟩
  rw [← hv] at hw
  try rw [← hv]
  have hlt := h.lt
  have hg1 : g ≠ b := by omega
  have hg2 : g ≠ b + 1 := by omega
  have hm1 : pm ≠ b := by omega
  have hm2 : pm ≠ b + 1 := by omega
  clear hlt
  go_enter Tryz.func185, Tryz.ntmps185
  go_upto_region 1 with (fail)
  rw [← hW, ← hb]
  replace h := Lib.hid h
  replace hW := Lib.hid hW
  replace hb0 := Lib.hid hb0
  replace hb1 := Lib.hid hb1
  replace hB := Lib.hid hB
  replace hv := Lib.hid hv
  replace hi := Lib.hid hi
  have hbs : w.heap.size ≤ b := Nat.le_of_eq hb.symm
  replace hb := Lib.hid hb
  replace hbs := Lib.hid hbs
  rw [← hv.out] at he
  have heb : (v == x) = true := beq_iff_eq.mpr he
  replace he := Lib.hid he
  go_wp2_with (go_at_call 206; refine (hcell _ h2).mono ?_; rintro e w1 ⟨rfl, rfl⟩; replace h2 := Lib.hid h2)
  (try simp only [Exit.inBlock, Exit.then])
  have e0 := hb1.out
  have m0 := h2.out
  have b0 := hB.out
  have e1 := blk_far e0 (p := ⟨b, 4, none⟩) (by show b + 1 ≠ b; omega) (.int .u32 v)
  have m1 := m0.far ⟨b, 4, none⟩ (by show b ≠ pm; omega) (by show b ≠ g; omega) (.int .u32 v)
  have b1 := b0.set ⟨b, 4, none⟩ (by right; have := hbs.out; show w.heap.size ≤ b; omega) (.int .u32 v)
  have e2 := blk_far e1 (p := ⟨g, i, none⟩) (by exact Ne.symm hg2) (.int .u32 y)
  have m2 := m1.set i hi.out y
  have b2 := b1.set ⟨g, i, none⟩ (by exact .inl rfl) (.int .u32 y)
  have e3 := blk_set e2 0 (.int .i64 5)
  have m3 := m2.far ⟨b + 1, 0, none⟩ (by show b + 1 ≠ pm; omega) (by show b + 1 ≠ g; omega) (.int .i64 5)
  have b3 := b2.set ⟨b + 1, 0, none⟩ (by right; have := hbs.out; show w.heap.size ≤ b + 1; omega) (.int .i64 5)
  have e4 := blk_set e3 1 (.int .i64 i)
  have m4 := m3.far ⟨b + 1, 1, none⟩ (by show b + 1 ≠ pm; omega) (by show b + 1 ≠ g; omega) (.int .i64 i)
  have b4 := b3.set ⟨b + 1, 1, none⟩ (by right; have := hbs.out; show w.heap.size ≤ b + 1; omega) (.int .i64 i)
  have e5 := blk_set e4 2 (.int .u32 x)
  have m5 := m4.far ⟨b + 1, 2, none⟩ (by show b + 1 ≠ pm; omega) (by show b + 1 ≠ g; omega) (.int .u32 x)
  have b5 := b4.set ⟨b + 1, 2, none⟩ (by right; have := hbs.out; show w.heap.size ≤ b + 1; omega) (.int .u32 x)
  have e6 := blk_set e5 3 (.int .u32 y)
  have m6 := m5.far ⟨b + 1, 3, none⟩ (by show b + 1 ≠ pm; omega) (by show b + 1 ≠ g; omega) (.int .u32 y)
  have b6 := b5.set ⟨b + 1, 3, none⟩ (by right; have := hbs.out; show w.heap.size ≤ b + 1; omega) (.int .u32 y)
  have e7 := blk_set e6 4 (.int .u32 v)
  have m7 := m6.far ⟨b + 1, 4, none⟩ (by show b + 1 ≠ pm; omega) (by show b + 1 ≠ g; omega) (.int .u32 v)
  have b7 := b6.set ⟨b + 1, 4, none⟩ (by right; have := hbs.out; show w.heap.size ≤ b + 1; omega) (.int .u32 v)
  refine bodyPost_ret (results_ct rfl _ _ (b + 1) 38 #[.int .i64 5, .int .i64 i, .int .u32 x, .int .u32 y, .int .u32 v] (0, 0) _ rfl e7 Tryz.underlying38 rfl (by kernel_rfl)) rfl ?_
  exact ⟨rfl, m7, b7⟩

set_option maxHeartbeats 2000000 in
theorem do_cas_miss (h : Mm w pm g l) (i : Nat) (hi : i < l.length) (x y o : Int) (he : l.getD i 0 ≠ x) : Calls Tryz.prog 185 #[.pointer (some ⟨pm, 0, none⟩), .agg #[.int .i64 5, .int .i64 i, .int .u32 x, .int .u32 y, .int .u32 o]] w fun e w' => e = .returned (.tuple #[accV ⟨5, i, x, y, l.getD i 0⟩, .bool true]) ∧ Mm w' pm g l ∧ But g w w' := by
  have hcell : ∀ w', Mm w' pm g l → Calls Tryz.prog 206 #[.pointer (some ⟨pm, 0, none⟩), .int .i64 i] w' fun e w1 => e = .returned (.pointer (some ⟨g, i, none⟩)) ∧ w1 = w' := by
    intro w' hw
    have := cell_walk hw i
    rw [if_pos (by unfold cellOk; omega)] at this
    simpa using this
  obtain ⟨b, hb⟩ : ∃ b, b = w.heap.size := ⟨_, rfl⟩
  obtain ⟨W, hW⟩ : ∃ W, W = (w.alloc (.cells #[.int .i64 5, .int .i64 i, .int .u32 x, .int .u32 y, .int .u32 o] 38)).alloc (.cells #[.int .i64 0, .int .i64 0, .int .u32 0, .int .u32 0, .int .u32 0] 38) := ⟨_, rfl⟩
  have h2 : Mm W pm g l := by rw [hW]; exact (h.alloc _).alloc _
  have hB : But g w W := by rw [hW]; exact ((But.refl g w).alloc _).alloc _
  have hb0 : W.heap[b]? = some (.cells #[.int .i64 5, .int .i64 i, .int .u32 x, .int .u32 y, .int .u32 o] 38 (0, 0)) := by rw [hW, hb]; exact blk_alloc (heap_alloc_new _ _) _
  have hb1 : W.heap[b + 1]? = some (.cells #[.int .i64 0, .int .i64 0, .int .u32 0, .int .u32 0, .int .u32 0] 38 (0, 0)) := by rw [hW, hb, show w.heap.size + 1 = (w.alloc (.cells #[.int .i64 5, .int .i64 i, .int .u32 x, .int .u32 y, .int .u32 o] 38)).heap.size from by simp]; exact heap_alloc_new _ _
  have q0 := cell_of_heap (j := 0) hb0 rfl
  have q1 := cell_of_heap (j := 1) hb0 rfl
  have q2 := cell_of_heap (j := 2) hb0 rfl
  have q3 := cell_of_heap (j := 3) hb0 rfl
  have q4 := cell_of_heap (j := 4) hb0 rfl
  have p0 := cell_of_heap (j := 0) hb1 rfl
  have p1 := cell_of_heap (j := 1) hb1 rfl
  have p2 := cell_of_heap (j := 2) hb1 rfl
  have p3 := cell_of_heap (j := 3) hb1 rfl
  have p4 := cell_of_heap (j := 4) hb1 rfl
  have z4 := blk_frozen hb0 4
  have y0 := blk_frozen hb1 0
  have y1 := blk_frozen hb1 1
  have y2 := blk_frozen hb1 2
  have y3 := blk_frozen hb1 3
  have y4 := blk_frozen hb1 4
  have yg := h2.frozen i
  have hw := h2.word i hi
  obtain ⟨v, hv⟩ : ∃ v, v = l.getD i 0 := ⟨_, rfl⟩
  rw [← hv] at hw
  try rw [← hv]
  have hlt := h.lt
  have hg1 : g ≠ b := by omega
  have hg2 : g ≠ b + 1 := by omega
  have hm1 : pm ≠ b := by omega
  have hm2 : pm ≠ b + 1 := by omega
  clear hlt
  go_enter Tryz.func185, Tryz.ntmps185
  go_upto_region 1 with (fail)
  rw [← hW, ← hb]
  replace h := Lib.hid h
  replace hW := Lib.hid hW
  replace hb0 := Lib.hid hb0
  replace hb1 := Lib.hid hb1
  replace hB := Lib.hid hB
  replace hv := Lib.hid hv
  replace hi := Lib.hid hi
  have hbs : w.heap.size ≤ b := Nat.le_of_eq hb.symm
  replace hb := Lib.hid hb
  replace hbs := Lib.hid hbs
  rw [← hv.out] at he
  have heb : (v == x) = false := beq_eq_false_iff_ne.mpr he
  replace he := Lib.hid he
  go_wp2_with (go_at_call 206; refine (hcell _ h2).mono ?_; rintro e w1 ⟨rfl, rfl⟩; replace h2 := Lib.hid h2)
  (try simp only [Exit.inBlock, Exit.then])
  have e0 := hb1.out
  have m0 := h2.out
  have b0 := hB.out
  have e1 := blk_far e0 (p := ⟨b, 4, none⟩) (by show b + 1 ≠ b; omega) (.int .u32 v)
  have m1 := m0.far ⟨b, 4, none⟩ (by show b ≠ pm; omega) (by show b ≠ g; omega) (.int .u32 v)
  have b1 := b0.set ⟨b, 4, none⟩ (by right; have := hbs.out; show w.heap.size ≤ b; omega) (.int .u32 v)
  have e2 := blk_set e1 0 (.int .i64 5)
  have m2 := m1.far ⟨b + 1, 0, none⟩ (by show b + 1 ≠ pm; omega) (by show b + 1 ≠ g; omega) (.int .i64 5)
  have b2 := b1.set ⟨b + 1, 0, none⟩ (by right; have := hbs.out; show w.heap.size ≤ b + 1; omega) (.int .i64 5)
  have e3 := blk_set e2 1 (.int .i64 i)
  have m3 := m2.far ⟨b + 1, 1, none⟩ (by show b + 1 ≠ pm; omega) (by show b + 1 ≠ g; omega) (.int .i64 i)
  have b3 := b2.set ⟨b + 1, 1, none⟩ (by right; have := hbs.out; show w.heap.size ≤ b + 1; omega) (.int .i64 i)
  have e4 := blk_set e3 2 (.int .u32 x)
  have m4 := m3.far ⟨b + 1, 2, none⟩ (by show b + 1 ≠ pm; omega) (by show b + 1 ≠ g; omega) (.int .u32 x)
  have b4 := b3.set ⟨b + 1, 2, none⟩ (by right; have := hbs.out; show w.heap.size ≤ b + 1; omega) (.int .u32 x)
  have e5 := blk_set e4 3 (.int .u32 y)
  have m5 := m4.far ⟨b + 1, 3, none⟩ (by show b + 1 ≠ pm; omega) (by show b + 1 ≠ g; omega) (.int .u32 y)
  have b5 := b4.set ⟨b + 1, 3, none⟩ (by right; have := hbs.out; show w.heap.size ≤ b + 1; omega) (.int .u32 y)
  have e6 := blk_set e5 4 (.int .u32 v)
  have m6 := m5.far ⟨b + 1, 4, none⟩ (by show b + 1 ≠ pm; omega) (by show b + 1 ≠ g; omega) (.int .u32 v)
  have b6 := b5.set ⟨b + 1, 4, none⟩ (by right; have := hbs.out; show w.heap.size ≤ b + 1; omega) (.int .u32 v)
  refine bodyPost_ret (results_ct rfl _ _ (b + 1) 38 #[.int .i64 5, .int .i64 i, .int .u32 x, .int .u32 y, .int .u32 v] (0, 0) _ rfl e6 Tryz.underlying38 rfl (by kernel_rfl)) rfl ?_
  exact ⟨rfl, m6, b6⟩

set_option maxHeartbeats 2000000 in
theorem do_add (h : Mm w pm g l) (i : Nat) (hi : i < l.length) (x y o : Int) : Calls Tryz.prog 185 #[.pointer (some ⟨pm, 0, none⟩), .agg #[.int .i64 3, .int .i64 i, .int .u32 x, .int .u32 y, .int .u32 o]] w fun e w' => e = .returned (.tuple #[accV ⟨3, i, x, y, l.getD i 0⟩, .bool true]) ∧ Mm w' pm g (l.set i (u32 (l.getD i 0 + x))) ∧ But g w w' := by
  have hcell : ∀ w', Mm w' pm g l → Calls Tryz.prog 206 #[.pointer (some ⟨pm, 0, none⟩), .int .i64 i] w' fun e w1 => e = .returned (.pointer (some ⟨g, i, none⟩)) ∧ w1 = w' := by
    intro w' hw
    have := cell_walk hw i
    rw [if_pos (by unfold cellOk; omega)] at this
    simpa using this
  obtain ⟨b, hb⟩ : ∃ b, b = w.heap.size := ⟨_, rfl⟩
  obtain ⟨W, hW⟩ : ∃ W, W = (w.alloc (.cells #[.int .i64 3, .int .i64 i, .int .u32 x, .int .u32 y, .int .u32 o] 38)).alloc (.cells #[.int .i64 0, .int .i64 0, .int .u32 0, .int .u32 0, .int .u32 0] 38) := ⟨_, rfl⟩
  have h2 : Mm W pm g l := by rw [hW]; exact (h.alloc _).alloc _
  have hB : But g w W := by rw [hW]; exact ((But.refl g w).alloc _).alloc _
  have hb0 : W.heap[b]? = some (.cells #[.int .i64 3, .int .i64 i, .int .u32 x, .int .u32 y, .int .u32 o] 38 (0, 0)) := by rw [hW, hb]; exact blk_alloc (heap_alloc_new _ _) _
  have hb1 : W.heap[b + 1]? = some (.cells #[.int .i64 0, .int .i64 0, .int .u32 0, .int .u32 0, .int .u32 0] 38 (0, 0)) := by rw [hW, hb, show w.heap.size + 1 = (w.alloc (.cells #[.int .i64 3, .int .i64 i, .int .u32 x, .int .u32 y, .int .u32 o] 38)).heap.size from by simp]; exact heap_alloc_new _ _
  have q0 := cell_of_heap (j := 0) hb0 rfl
  have q1 := cell_of_heap (j := 1) hb0 rfl
  have q2 := cell_of_heap (j := 2) hb0 rfl
  have q3 := cell_of_heap (j := 3) hb0 rfl
  have q4 := cell_of_heap (j := 4) hb0 rfl
  have p0 := cell_of_heap (j := 0) hb1 rfl
  have p1 := cell_of_heap (j := 1) hb1 rfl
  have p2 := cell_of_heap (j := 2) hb1 rfl
  have p3 := cell_of_heap (j := 3) hb1 rfl
  have p4 := cell_of_heap (j := 4) hb1 rfl
  have z4 := blk_frozen hb0 4
  have y0 := blk_frozen hb1 0
  have y1 := blk_frozen hb1 1
  have y2 := blk_frozen hb1 2
  have y3 := blk_frozen hb1 3
  have y4 := blk_frozen hb1 4
  have yg := h2.frozen i
  have hw := h2.word i hi
  obtain ⟨v, hv⟩ : ∃ v, v = l.getD i 0 := ⟨_, rfl⟩
  rw [← hv] at hw
  try rw [← hv]
  have hlt := h.lt
  have hg1 : g ≠ b := by omega
  have hg2 : g ≠ b + 1 := by omega
  have hm1 : pm ≠ b := by omega
  have hm2 : pm ≠ b + 1 := by omega
  clear hlt
  go_enter Tryz.func185, Tryz.ntmps185
  go_upto_region 1 with (fail)
  rw [← hW, ← hb]
  replace h := Lib.hid h
  replace hW := Lib.hid hW
  replace hb0 := Lib.hid hb0
  replace hb1 := Lib.hid hb1
  replace hB := Lib.hid hB
  replace hv := Lib.hid hv
  replace hi := Lib.hid hi
  have hbs : w.heap.size ≤ b := Nat.le_of_eq hb.symm
  replace hb := Lib.hid hb
  replace hbs := Lib.hid hbs
  go_upto_region 11 with (go_at_call 206; refine (hcell _ h2).mono ?_; rintro e w1 ⟨rfl, rfl⟩; replace h2 := Lib.hid h2)
  have hw1 : ((w1.setCell ⟨b, 4, none⟩ (.int .u32 v)).drew).cell? ⟨g, i, none⟩ = some (.int .u32 v) := (World.cell?_of_block (w := w1) (Below.heap_setCell w1 ⟨b, 4, none⟩ (.int .u32 v) g hg1)).trans hw
  have q21 : ((w1.setCell ⟨b, 4, none⟩ (.int .u32 v)).drew).cell? ⟨b, 2, none⟩ = some (.int .u32 x) := cell_of_heap (w := w1.setCell ⟨b, 4, none⟩ (.int .u32 v)) (blk_set hb0.out 4 (.int .u32 v)) rfl
  refine start_ (n := 8) (S := fun w' => w'.cell? ⟨g, i, none⟩ = some (.int .u32 v) ∧ w'.cell? ⟨b, 2, none⟩ = some (.int .u32 x)) (ds := [7]) #[false, false, false, false, false, false, false, false] (by kernel_rfl) rfl rfl ⟨hw1, q21⟩ (fun hHeld => ?_)
  refine pu_ 0 30 (mk 8 1) rfl rfl ?_
  refine pu_ 1 31 (mk 8 3) rfl rfl ?_
  refine pu_ 3 33 (mk 8 11) rfl rfl ?_
  refine tk2_ 2 32 (mk 8 15) rfl rfl hHeld ?_
  refine tk2_ 4 34 (mk 8 31) rfl rfl hHeld ?_
  refine pu_ 5 35 (mk 8 63) rfl rfl ?_
  refine pu_ 6 36 (mk 8 127) rfl rfl ?_
  refine last_ (i := 7) (N := none) (mk 8 255) rfl rfl (by kernel_rfl) (by decide) (fun K hK => ?_)
  refine skip_ (w1 := ?_) (by rfl) rfl ?_ ?_
  rotate_left
  · go_simp
    rfl
  refine hK.out _ _ ?_
  clear hK K
  refine done_ (by kernel_rfl) ?_
  obtain ⟨nv, hnv⟩ : ∃ nv, nv = IntKind.u32.wrap (v + x) := ⟨_, rfl⟩
  rw [← hnv]
  have hnu : nv = u32 (v + x) := by rw [hnv]; unfold u32; simp [IntKind.wrap, IntKind.signed, IntKind.bits]
  replace hnv := Lib.hid hnv
  have e0 := blk_far (blk_far hb1.out (p := ⟨b, 4, none⟩) (by show b + 1 ≠ b; omega) (.int .u32 v)) (p := ⟨g, i, none⟩) (Ne.symm hg2) (.int .u32 nv)
  have f0 := blk_far (blk_set hb0.out 4 (.int .u32 v)) (p := ⟨g, i, none⟩) (Ne.symm hg1) (.int .u32 nv)
  have m0 := ((h2.out.far ⟨b, 4, none⟩ (by show b ≠ pm; omega) (by show b ≠ g; omega) (.int .u32 v)).set i hi.out nv).drew
  have b0 := ((hB.out.set ⟨b, 4, none⟩ (by right; have := hbs.out; show w.heap.size ≤ b; omega) (.int .u32 v)).set ⟨g, i, none⟩ (.inl rfl) (.int .u32 nv)).drew
  obtain ⟨W3, hW3⟩ : ∃ W3, W3 = ((w1.setCell ⟨b, 4, none⟩ (.int .u32 v)).setCell ⟨g, i, none⟩ (.int .u32 nv)).drew := ⟨_, rfl⟩
  replace e0 : W3.heap[b + 1]? = some (.cells #[.int .i64 0, .int .i64 0, .int .u32 0, .int .u32 0, .int .u32 0] 38 (0, 0)) := by rw [hW3]; exact e0
  replace f0 : W3.heap[b]? = some (.cells #[.int .i64 3, .int .i64 i, .int .u32 x, .int .u32 y, .int .u32 v] 38 (0, 0)) := by rw [hW3]; exact f0
  rw [← hW3] at m0 b0 ⊢
  clear hW3 hw1 q21 q0 q1 q2 q3 q4 p0 p1 p2 p3 p4 y0 y1 y2 y3 y4 z4 yg hw
  have q0 := cell_of_heap (j := 0) f0 rfl
  have q1 := cell_of_heap (j := 1) f0 rfl
  have q2 := cell_of_heap (j := 2) f0 rfl
  have q3 := cell_of_heap (j := 3) f0 rfl
  have q4 := cell_of_heap (j := 4) f0 rfl
  have p0 := cell_of_heap (j := 0) e0 rfl
  have p1 := cell_of_heap (j := 1) e0 rfl
  have p2 := cell_of_heap (j := 2) e0 rfl
  have p3 := cell_of_heap (j := 3) e0 rfl
  have p4 := cell_of_heap (j := 4) e0 rfl
  have y0 := blk_frozen e0 0
  have y1 := blk_frozen e0 1
  have y2 := blk_frozen e0 2
  have y3 := blk_frozen e0 3
  have y4 := blk_frozen e0 4
  replace e0 := Lib.hid e0
  replace f0 := Lib.hid f0
  replace m0 := Lib.hid m0
  replace b0 := Lib.hid b0
  replace hnu := Lib.hid hnu
  go_wp2
  (try simp only [Exit.inBlock, Exit.then])
  have e0 := e0.out
  have m0 := m0.out
  have b0 := b0.out
  rw [hnu.out] at m0
  have e1 := blk_set e0 0 (.int .i64 3)
  have m1 := m0.far ⟨b + 1, 0, none⟩ (by show b + 1 ≠ pm; omega) (by show b + 1 ≠ g; omega) (.int .i64 3)
  have b1 := b0.set ⟨b + 1, 0, none⟩ (by right; have := hbs.out; show w.heap.size ≤ b + 1; omega) (.int .i64 3)
  have e2 := blk_set e1 1 (.int .i64 i)
  have m2 := m1.far ⟨b + 1, 1, none⟩ (by show b + 1 ≠ pm; omega) (by show b + 1 ≠ g; omega) (.int .i64 i)
  have b2 := b1.set ⟨b + 1, 1, none⟩ (by right; have := hbs.out; show w.heap.size ≤ b + 1; omega) (.int .i64 i)
  have e3 := blk_set e2 2 (.int .u32 x)
  have m3 := m2.far ⟨b + 1, 2, none⟩ (by show b + 1 ≠ pm; omega) (by show b + 1 ≠ g; omega) (.int .u32 x)
  have b3 := b2.set ⟨b + 1, 2, none⟩ (by right; have := hbs.out; show w.heap.size ≤ b + 1; omega) (.int .u32 x)
  have e4 := blk_set e3 3 (.int .u32 y)
  have m4 := m3.far ⟨b + 1, 3, none⟩ (by show b + 1 ≠ pm; omega) (by show b + 1 ≠ g; omega) (.int .u32 y)
  have b4 := b3.set ⟨b + 1, 3, none⟩ (by right; have := hbs.out; show w.heap.size ≤ b + 1; omega) (.int .u32 y)
  have e5 := blk_set e4 4 (.int .u32 v)
  have m5 := m4.far ⟨b + 1, 4, none⟩ (by show b + 1 ≠ pm; omega) (by show b + 1 ≠ g; omega) (.int .u32 v)
  have b5 := b4.set ⟨b + 1, 4, none⟩ (by right; have := hbs.out; show w.heap.size ≤ b + 1; omega) (.int .u32 v)
  refine bodyPost_ret (results_ct rfl _ _ (b + 1) 38 #[.int .i64 3, .int .i64 i, .int .u32 x, .int .u32 y, .int .u32 v] (0, 0) _ rfl e5 Tryz.underlying38 rfl (by kernel_rfl)) rfl ?_
  exact ⟨rfl, m5, b5⟩

/-- An access, of any kind that there is. -/
theorem do_walk (h : Mm w pm g l) (k c x y o : Int) (hk : 1 ≤ k ∧ k ≤ 5) : Calls Tryz.prog 185 #[.pointer (some ⟨pm, 0, none⟩), .agg #[.int .i64 k, .int .i64 c, .int .u32 x, .int .u32 y, .int .u32 o]] w fun e w' => e = .returned (.tuple #[accV (doAcc l k c x y).1, .bool (doAcc l k c x y).2.1]) ∧ Mm w' pm g (doAcc l k c x y).2.2 ∧ But g w w' := by
  by_cases hc : cellOk l c
  · obtain ⟨i, rfl⟩ := Int.eq_ofNat_of_zero_le hc.1
    have hi : i < l.length := by have := hc.2; omega
    unfold doAcc
    rw [if_pos hc]
    simp only [Int.toNat_natCast]
    have : k = 1 ∨ k = 2 ∨ k = 3 ∨ k = 4 ∨ k = 5 := by omega
    rcases this with rfl | rfl | rfl | rfl | rfl
    · exact do_load h i hi x y o
    · exact do_store h i hi x y o
    · exact do_add h i hi x y o
    · exact do_swap h i hi x y o
    · by_cases he : l.getD i 0 = x
      · simp only [if_pos he]
        exact do_cas_hit h i hi x y o he
      · simp only [if_neg he]
        exact do_cas_miss h i hi x y o he
  · rw [doAcc_none hc]
    exact do_none h k c x y o hc

theorem load_walk (h : Mm w pm g l) (c : Int) : Calls Tryz.prog 180 #[.pointer (some ⟨pm, 0, none⟩), .int .i64 c] w fun e w' => e = .returned (.int .u32 (doAcc l 1 c 0 0).1.old) ∧ Mm w' pm g l ∧ But g w w' := by
  have hd := do_walk h 1 c 0 0 0 (by omega)
  have hl : (doAcc l 1 c 0 0).2.2 = l := by unfold doAcc; split <;> rfl
  have hg := h.lt
  rw [hl] at hd
  obtain ⟨a, ha⟩ : ∃ a, a = (doAcc l 1 c 0 0).1 := ⟨_, rfl⟩
  obtain ⟨ok, hok⟩ : ∃ ok, ok = (doAcc l 1 c 0 0).2.1 := ⟨_, rfl⟩
  rw [← ha, ← hok] at hd
  rw [← ha]
  clear ha hok hl
  obtain ⟨a0, a1, a2, a3, a4⟩ := a
  replace h := Lib.hid h
  go_enter Tryz.func180, Tryz.ntmps180
  go_wp2_with (go_at_call 185; refine hd.mono ?_; rintro e w1 ⟨rfl, hm1, hb1⟩; unfold accV; replace hm1 := Lib.hid hm1; replace hb1 := Lib.hid hb1)
  go_ret
  exact ⟨rfl, hm1.out.alloc _, hb1.out.alloc _⟩

/-! ### which cell is what -/
theorem right_walk (n : Int) (w : World) : Calls Tryz.prog 139 #[.int .i64 n] w fun e w' => e = .returned (.bool (decide (1 ≤ n ∧ n ≤ 64))) ∧ w' = w := by
  by_cases h1 : 1 ≤ n
  · have h1b : decide (n ≥ 1) = true := decide_eq_true h1
    exact e1
  · have h1b : decide (n ≥ 1) = false := decide_eq_false h1
    exact e1
set_option maxHeartbeats 2000000 in
theorem pcell_walk (n row i : Int) (hr : 0 ≤ row ∧ row ≤ 3) (w : World) : Calls Tryz.prog 203 #[.agg #[.int .i64 n], .int .i64 row, .int .i64 i] w fun e w' => e = .returned (.int .i64 (pcell n row i)) ∧ Below w.heap.size w w' := by
  have hw := right_walk n
  unfold pcell right
  by_cases hn : 1 ≤ n ∧ n ≤ 64
  · rw [decide_eq_true hn] at hw
    by_cases h0 : i < 0
    · rw [if_neg (by omega)]
      have h0b : decide (i < 0) = true := decide_eq_true h0
      exact e2
    · have h0b : decide (i < 0) = false := decide_eq_false h0
      by_cases h1 : i < n
      · rw [if_pos (by omega)]
        have h1b : decide (i ≥ n) = false := decide_eq_false (by omega)
        have e1 : wrap64 (row * n) = row * n := by
          have : 0 ≤ row * n := Int.mul_nonneg hr.1 (by omega)
          have : row * n ≤ 3 * 64 := Int.mul_le_mul hr.2 hn.2 (by omega) (by omega)
          unfold wrap64; omega
        have e2 : wrap64 (8 + row * n) = 8 + row * n := by
          have : 0 ≤ row * n := Int.mul_nonneg hr.1 (by omega)
          have : row * n ≤ 3 * 64 := Int.mul_le_mul hr.2 hn.2 (by omega) (by omega)
          unfold wrap64; omega
        have e3 : wrap64 (8 + row * n + i) = 8 + row * n + i := by
          have : 0 ≤ row * n := Int.mul_nonneg hr.1 (by omega)
          have : row * n ≤ 3 * 64 := Int.mul_le_mul hr.2 hn.2 (by omega) (by omega)
          unfold wrap64; omega
        obtain ⟨q, hq⟩ : ∃ q, q = row * n := ⟨_, rfl⟩
        rw [← hq] at e1 e2 e3 ⊢
        replace hq := Lib.hid hq
        replace e1 := Lib.hid e1
        replace e2 := Lib.hid e2
        replace e3 := Lib.hid e3
        replace hn := Lib.hid hn
        replace hr := Lib.hid hr
        replace h0 := Lib.hid h0
        replace h1 := Lib.hid h1
        go_enter Tryz.func203, Tryz.ntmps203
        go_wp2_with (go_at_call 139; refine (hw _).mono ?_; rintro e w1 ⟨rfl, rfl⟩)
        go_ret
        refine ⟨?_, below_alloc (Below.refl _ _) _⟩
        simp only [← hq.out]
        first
          | rfl
          | (simp only [i64_w, e1.out, e2.out, e3.out]; rfl)
      · rw [if_neg (by omega)]
        have h1b : decide (i ≥ n) = true := decide_eq_true (by omega)
        exact e2
  · rw [decide_eq_false hn] at hw
    rw [if_neg (by omega)]
    exact e2
theorem pnext_walk (n i : Int) (w : World) : Calls Tryz.prog 191 #[.agg #[.int .i64 n], .int .i64 i] w fun e w' => e = .returned (.int .i64 (pnext n i)) ∧ Below w.heap.size w w' := by
  have h := pcell_walk n 0 i (by omega)
  go_enter Tryz.func191, Tryz.ntmps191
  exact e3
theorem pblocked_walk (n i : Int) (w : World) : Calls Tryz.prog 192 #[.agg #[.int .i64 n], .int .i64 i] w fun e w' => e = .returned (.int .i64 (pblocked n i)) ∧ Below w.heap.size w w' := by
  have h := pcell_walk n 1 i (by omega)
  go_enter Tryz.func192, Tryz.ntmps192
  exact e3
theorem pwatch_walk (n i : Int) (w : World) : Calls Tryz.prog 186 #[.agg #[.int .i64 n], .int .i64 i] w fun e w' => e = .returned (.int .i64 (pwatch n i)) ∧ Below w.heap.size w w' := by
  have h := pcell_walk n 2 i (by omega)
  go_enter Tryz.func186, Tryz.ntmps186
  exact e3
theorem ppermit_walk (n i : Int) (w : World) : Calls Tryz.prog 181 #[.agg #[.int .i64 n], .int .i64 i] w fun e w' => e = .returned (.int .i64 (ppermit n i)) ∧ Below w.heap.size w w' := by
  have h := pcell_walk n 3 i (by omega)
  go_enter Tryz.func181, Tryz.ntmps181
  exact e3
/-! ### permits -/
theorem there_walk (h : Mm w pm g l) (n task : Int) : Calls Tryz.prog 141 #[.pointer (some ⟨pm, 0, none⟩), .agg #[.int .i64 n], .int .i64 task] w fun e w' => e = .returned (.bool ((doAcc l 1 (ppermit n task) 0 0).1.old != 0)) ∧ Mm w' pm g l ∧ But g w w' := by
  have hp := ppermit_walk n task
  have h0 := h.alloc (.cells #[.int .i64 n] 94)
  have hB := (But.refl g w).alloc (.cells #[.int .i64 n] 94)
  obtain ⟨c, hc⟩ : ∃ c, c = ppermit n task := ⟨_, rfl⟩
  rw [← hc] at hp ⊢
  clear hc
  replace h := Lib.hid h
  replace h0 := Lib.hid h0
  replace hB := Lib.hid hB
  go_enter Tryz.func141, Tryz.ntmps141
  go_wp2_with (first
    | (go_at_call 181; refine (hp _).mono ?_; rintro e w1 ⟨rfl, hb1⟩; have h1 := h0.out.below hb1; have hB1 := hB.out.trans (But.of_below hb1); clear hb1; replace h1 := Lib.hid h1; replace hB1 := Lib.hid hB1)
    | (go_at_call 180; refine (load_walk h1.out c).mono ?_; rintro e w2 ⟨rfl, h2, hB2⟩; replace h2 := Lib.hid h2; have hB3 := hB1.out.trans hB2; clear hB2; replace hB3 := Lib.hid hB3))
  go_ret
  exact ⟨rfl, h2.out, hB3.out⟩

/-- A method value of the memory. -/
abbrev doV (pm : Nat) : Value := .func (.func 185) #[.pointer (some ⟨pm, 0, none⟩)] #[]
set_option maxHeartbeats 2000000 in
theorem with_walk (h : Mm w pm g l) (n task k c x y o : Int) (hk : 1 ≤ k ∧ k ≤ 5) : Calls Tryz.prog 205 #[doV pm, .agg #[.int .i64 n], .int .i64 task, .agg #[.int .i64 k, .int .i64 c, .int .u32 x, .int .u32 y, .int .u32 o]] w fun e w' => e = .returned (.tuple #[accV (doAcc l k (ppermit n task) x y).1, .bool (doAcc l k (ppermit n task) x y).2.1]) ∧ Mm w' pm g (doAcc l k (ppermit n task) x y).2.2 ∧ But g w w' := by
  have hp := ppermit_walk n task
  obtain ⟨cc, hc⟩ : ∃ cc, cc = ppermit n task := ⟨_, rfl⟩
  rw [← hc] at hp ⊢
  clear hc
  obtain ⟨W, hW⟩ : ∃ W, W = ((w.alloc (.cells #[.int .i64 n] 94)).alloc (.cells #[.int .i64 k, .int .i64 c, .int .u32 x, .int .u32 y, .int .u32 o] 38)).alloc (.cells #[.int .i64 0, .int .i64 0, .int .u32 0, .int .u32 0, .int .u32 0] 38) := ⟨_, rfl⟩
  obtain ⟨b, hb⟩ : ∃ b, b = w.heap.size := ⟨_, rfl⟩
  have hm : Mm W pm g l := by rw [hW]; exact ((h.alloc _).alloc _).alloc _
  have hB : But g w W := by rw [hW]; exact (((But.refl g w).alloc _).alloc _).alloc _
  have hb0 : W.heap[b]? = some (.cells #[.int .i64 n] 94 (0, 0)) := by rw [hW, hb]; exact blk_alloc (blk_alloc (heap_alloc_new _ _) _) _
  have hb1 : W.heap[b + 1]? = some (.cells #[.int .i64 k, .int .i64 c, .int .u32 x, .int .u32 y, .int .u32 o] 38 (0, 0)) := by
    rw [hW, hb]
    refine blk_alloc ?_ _
    have := heap_alloc_new (w.alloc (.cells #[.int .i64 n] 94)) (.cells #[.int .i64 k, .int .i64 c, .int .u32 x, .int .u32 y, .int .u32 o] 38)
    simpa using this
  have hb2 : W.heap[b + 1 + 1]? = some (.cells #[.int .i64 0, .int .i64 0, .int .u32 0, .int .u32 0, .int .u32 0] 38 (0, 0)) := by
    rw [hW, hb]
    have := heap_alloc_new ((w.alloc (.cells #[.int .i64 n] 94)).alloc (.cells #[.int .i64 k, .int .i64 c, .int .u32 x, .int .u32 y, .int .u32 o] 38)) (.cells #[.int .i64 0, .int .i64 0, .int .u32 0, .int .u32 0, .int .u32 0] 38)
    simpa using this
  have q0 := cell_of_heap (j := 0) hb0 rfl
  have hlt := h.lt
  have hbs : w.heap.size ≤ b := Nat.le_of_eq hb.symm
  go_enter Tryz.func205, Tryz.ntmps205
  go_upto_region 1 with (fail)
  rw [← hW, ← hb]
  have hg1 : b + 1 ≠ g := by omega
  have hm1 : b + 1 ≠ pm := by omega
  have hg2 : b + 1 + 1 ≠ g := by omega
  have hm2 : b + 1 + 1 ≠ pm := by omega
  replace h := Lib.hid h
  replace hb := Lib.hid hb
  replace hW := Lib.hid hW
  replace hk := Lib.hid hk
  replace hm := Lib.hid hm
  replace hB := Lib.hid hB
  replace hb0 := Lib.hid hb0
  replace hb1 := Lib.hid hb1
  replace hb2 := Lib.hid hb2
  replace hbs := Lib.hid hbs
  clear hlt
  go_wp2_with (first
    | (go_at_call 181; refine (hp _).mono ?_; rintro e w1 ⟨rfl, hc1⟩;
       have ha1 := (hc1.block (b + 1) (blk_lt hb1.out)).trans hb1.out; have ha2 := (hc1.block (b + 1 + 1) (blk_lt hb2.out)).trans hb2.out;
       have hm3 := hm.out.below hc1; have hB3 := hB.out.trans (But.of_below hc1); clear hc1 q0;
       have t0 := cell_of_heap (j := 0) ha1 rfl; have t1 := cell_of_heap (j := 1) ha1 rfl; have t2 := cell_of_heap (j := 2) ha1 rfl; have t3 := cell_of_heap (j := 3) ha1 rfl; have t4 := cell_of_heap (j := 4) ha1 rfl;
       have z1 := blk_frozen ha1 1; replace ha1 := Lib.hid ha1; replace ha2 := Lib.hid ha2; replace hm3 := Lib.hid hm3; replace hB3 := Lib.hid hB3)
    | (go_at_call 185; have hS := hm3.out.far ⟨b + 1, 1, none⟩ hm1 hg1 (.int .i64 cc); have hS2 := blk_far ha2.out (p := ⟨b + 1, 1, none⟩) (by show b + 1 + 1 ≠ b + 1; omega) (.int .i64 cc);
       have hB4 := hB3.out.set ⟨b + 1, 1, none⟩ (by right; have := hbs.out; show w.heap.size ≤ b + 1; omega) (.int .i64 cc);
       have hd := do_walk hS k cc x y o hk.out;
       obtain ⟨l1, hl1⟩ : ∃ l1, l1 = (doAcc l k cc x y).2.2 := ⟨_, rfl⟩;
       obtain ⟨ok, hok⟩ : ∃ ok, ok = (doAcc l k cc x y).2.1 := ⟨_, rfl⟩;
       obtain ⟨a, ha⟩ : ∃ a, a = (doAcc l k cc x y).1 := ⟨_, rfl⟩;
       rw [← hl1, ← hok, ← ha] at hd; (obtain ⟨a0, a1, a2, a3, a4⟩ := a);
       refine hd.mono ?_; rintro e w2 ⟨rfl, h2, hB2⟩; unfold accV; have hR := (hB2.block (b + 1 + 1) (blk_lt hS2) hg2).trans hS2; have hB5 := hB4.trans hB2;
       clear hS hS2 hB4 hB2 hd t0 t1 t2 t3 t4 z1;
       have p0 := cell_of_heap (j := 0) hR rfl; have p1 := cell_of_heap (j := 1) hR rfl; have p2 := cell_of_heap (j := 2) hR rfl; have p3 := cell_of_heap (j := 3) hR rfl; have p4 := cell_of_heap (j := 4) hR rfl; have y0 := blk_frozen hR 0; have y1 := blk_frozen hR 1; have y2 := blk_frozen hR 2; have y3 := blk_frozen hR 3; have y4 := blk_frozen hR 4;
       replace hR := Lib.hid hR; replace h2 := Lib.hid h2; replace hB5 := Lib.hid hB5; replace hl1 := Lib.hid hl1; replace hok := Lib.hid hok; replace ha := Lib.hid ha))
  have e0 := hR.out
  have m0 := h2.out
  have b0 := hB5.out
  have e1 := blk_set e0 0 (.int .i64 a0)
  have m1 := m0.far ⟨b + 1 + 1, 0, none⟩ hm2 hg2 (.int .i64 a0)
  have b1 := b0.set ⟨b + 1 + 1, 0, none⟩ (by right; have := hbs.out; show w.heap.size ≤ b + 1 + 1; omega) (.int .i64 a0)
  have e2 := blk_set e1 1 (.int .i64 a1)
  have m2 := m1.far ⟨b + 1 + 1, 1, none⟩ hm2 hg2 (.int .i64 a1)
  have b2 := b1.set ⟨b + 1 + 1, 1, none⟩ (by right; have := hbs.out; show w.heap.size ≤ b + 1 + 1; omega) (.int .i64 a1)
  have e3 := blk_set e2 2 (.int .u32 a2)
  have m3 := m2.far ⟨b + 1 + 1, 2, none⟩ hm2 hg2 (.int .u32 a2)
  have b3 := b2.set ⟨b + 1 + 1, 2, none⟩ (by right; have := hbs.out; show w.heap.size ≤ b + 1 + 1; omega) (.int .u32 a2)
  have e4 := blk_set e3 3 (.int .u32 a3)
  have m4 := m3.far ⟨b + 1 + 1, 3, none⟩ hm2 hg2 (.int .u32 a3)
  have b4 := b3.set ⟨b + 1 + 1, 3, none⟩ (by right; have := hbs.out; show w.heap.size ≤ b + 1 + 1; omega) (.int .u32 a3)
  have e5 := blk_set e4 4 (.int .u32 a4)
  have m5 := m4.far ⟨b + 1 + 1, 4, none⟩ hm2 hg2 (.int .u32 a4)
  have b5 := b4.set ⟨b + 1 + 1, 4, none⟩ (by right; have := hbs.out; show w.heap.size ≤ b + 1 + 1; omega) (.int .u32 a4)
  (try simp only [Exit.inBlock, Exit.then])
  refine bodyPost_ret (results_ct rfl _ _ (b + 1 + 1) 38 #[.int .i64 a0, .int .i64 a1, .int .u32 a2, .int .u32 a3, .int .u32 a4] (0, 0) _ rfl e5 Tryz.underlying38 rfl (by kernel_rfl)) rfl ?_
  rw [← hl1.out, ← ha.out, ← hok.out]
  exact ⟨rfl, m5, b5⟩

set_option maxHeartbeats 2000000 in
theorem take_walk (h : Mm w pm g l) (n task : Int) : Calls Tryz.prog 187 #[.pointer (some ⟨pm, 0, none⟩), .agg #[.int .i64 n], .int .i64 task] w fun e w' => e = .returned (.tuple #[accV (takePermit l n task).1, .bool (takePermit l n task).2.1]) ∧ Mm w' pm g (takePermit l n task).2.2 ∧ But g w w' := by
  unfold takePermit
  by_cases hv : ((doAcc l 1 (ppermit n task) 0 0).1.old != 0) = true
  · rw [if_pos (bne_iff_ne.mp hv)]
    have hwt := fun W' (hW' : Mm W' pm g l) => with_walk hW' n task 4 0 0 0 0 (by omega)
    obtain ⟨l1, hl1⟩ : ∃ l1, l1 = (doAcc l 4 (ppermit n task) 0 0).2.2 := ⟨_, rfl⟩
    obtain ⟨ok, hok⟩ : ∃ ok, ok = (doAcc l 4 (ppermit n task) 0 0).2.1 := ⟨_, rfl⟩
    obtain ⟨a, ha⟩ : ∃ a, a = (doAcc l 4 (ppermit n task) 0 0).1 := ⟨_, rfl⟩
    rw [← hl1, ← hok, ← ha] at hwt
    rw [← hl1, ← hok, ← ha]
    clear hl1 hok ha
    obtain ⟨a0, a1, a2, a3, a4⟩ := a
    obtain ⟨W, hW⟩ : ∃ W, W = (w.alloc (.cells #[.int .i64 n] 94)).alloc (.cells #[.int .i64 0, .int .i64 0, .int .u32 0, .int .u32 0, .int .u32 0] 38) := ⟨_, rfl⟩
    obtain ⟨b, hb⟩ : ∃ b, b = w.heap.size := ⟨_, rfl⟩
    have hm : Mm W pm g l := by rw [hW]; exact (h.alloc _).alloc _
    have hB : But g w W := by rw [hW]; exact ((But.refl g w).alloc _).alloc _
    have hb0 : W.heap[b]? = some (.cells #[.int .i64 n] 94 (0, 0)) := by rw [hW, hb]; exact blk_alloc (heap_alloc_new _ _) _
    have hb1 : W.heap[b + 1]? = some (.cells #[.int .i64 0, .int .i64 0, .int .u32 0, .int .u32 0, .int .u32 0] 38 (0, 0)) := by
      rw [hW, hb]
      have := heap_alloc_new (w.alloc (.cells #[.int .i64 n] 94)) (.cells #[.int .i64 0, .int .i64 0, .int .u32 0, .int .u32 0, .int .u32 0] 38)
      simpa using this
    have q0 := cell_of_heap (j := 0) hb0 rfl
    have hlt := h.lt
    have hbs : w.heap.size ≤ b := Nat.le_of_eq hb.symm
    go_enter Tryz.func187, Tryz.ntmps187
    go_upto_region 1 with (fail)
    rw [← hW, ← hb]
    have hg0 : b ≠ g := by omega
    have hm0 : b ≠ pm := by omega
    have hg2 : b + 1 ≠ g := by omega
    have hm2 : b + 1 ≠ pm := by omega
    replace h := Lib.hid h
    replace hb := Lib.hid hb
    replace hW := Lib.hid hW
    replace hm := Lib.hid hm
    replace hB := Lib.hid hB
    replace hb0 := Lib.hid hb0
    replace hb1 := Lib.hid hb1
    replace hbs := Lib.hid hbs
    clear hlt
    replace hwt := Lib.hid hwt
    go_wp2_with (first
      | (go_at_call 141; refine (there_walk hm.out n task).mono ?_; rintro e w1 ⟨rfl, hm1, hB1⟩; rw [hv]; have ha0 := (hB1.block b (blk_lt hb0.out) hg0).trans hb0.out; have ha1 := (hB1.block (b + 1) (blk_lt hb1.out) hg2).trans hb1.out; have hB2 := hB.out.trans hB1; clear hB1 q0; have q0 := cell_of_heap (j := 0) ha0 rfl; have p0 := cell_of_heap (j := 0) ha1 rfl; have p1 := cell_of_heap (j := 1) ha1 rfl; have p2 := cell_of_heap (j := 2) ha1 rfl; have p3 := cell_of_heap (j := 3) ha1 rfl; have p4 := cell_of_heap (j := 4) ha1 rfl; have y0 := blk_frozen ha1 0; have y1 := blk_frozen ha1 1; have y2 := blk_frozen ha1 2; have y3 := blk_frozen ha1 3; have y4 := blk_frozen ha1 4; replace ha0 := Lib.hid ha0; replace ha1 := Lib.hid ha1; replace hm1 := Lib.hid hm1; replace hB2 := Lib.hid hB2)
      | (go_at_call 205; refine (hwt.out _ hm1.out).mono ?_; rintro e w2 ⟨rfl, hm3, hB3⟩; unfold accV; have hc1 := (hB3.block (b + 1) (blk_lt ha1.out) hg2).trans ha1.out; have hB4 := hB2.out.trans hB3; clear hB3 q0 p0 p1 p2 p3 p4 y0 y1 y2 y3 y4; have p0 := cell_of_heap (j := 0) hc1 rfl; have p1 := cell_of_heap (j := 1) hc1 rfl; have p2 := cell_of_heap (j := 2) hc1 rfl; have p3 := cell_of_heap (j := 3) hc1 rfl; have p4 := cell_of_heap (j := 4) hc1 rfl; have y0 := blk_frozen hc1 0; have y1 := blk_frozen hc1 1; have y2 := blk_frozen hc1 2; have y3 := blk_frozen hc1 3; have y4 := blk_frozen hc1 4; replace hc1 := Lib.hid hc1; replace hm3 := Lib.hid hm3; replace hB4 := Lib.hid hB4))
    have e0 := hc1.out
    have m0 := hm3.out
    have b0 := hB4.out
    have e1 := blk_set e0 0 (.int .i64 a0)
    have m1 := m0.far ⟨b + 1, 0, none⟩ hm2 hg2 (.int .i64 a0)
    have b1 := b0.set ⟨b + 1, 0, none⟩ (by right; have := hbs.out; show w.heap.size ≤ b + 1; omega) (.int .i64 a0)
    have e2 := blk_set e1 1 (.int .i64 a1)
    have m2 := m1.far ⟨b + 1, 1, none⟩ hm2 hg2 (.int .i64 a1)
    have b2 := b1.set ⟨b + 1, 1, none⟩ (by right; have := hbs.out; show w.heap.size ≤ b + 1; omega) (.int .i64 a1)
    have e3 := blk_set e2 2 (.int .u32 a2)
    have m3 := m2.far ⟨b + 1, 2, none⟩ hm2 hg2 (.int .u32 a2)
    have b3 := b2.set ⟨b + 1, 2, none⟩ (by right; have := hbs.out; show w.heap.size ≤ b + 1; omega) (.int .u32 a2)
    have e4 := blk_set e3 3 (.int .u32 a3)
    have m4 := m3.far ⟨b + 1, 3, none⟩ hm2 hg2 (.int .u32 a3)
    have b4 := b3.set ⟨b + 1, 3, none⟩ (by right; have := hbs.out; show w.heap.size ≤ b + 1; omega) (.int .u32 a3)
    have e5 := blk_set e4 4 (.int .u32 a4)
    have m5 := m4.far ⟨b + 1, 4, none⟩ hm2 hg2 (.int .u32 a4)
    have b5 := b4.set ⟨b + 1, 4, none⟩ (by right; have := hbs.out; show w.heap.size ≤ b + 1; omega) (.int .u32 a4)
    (try simp only [Exit.inBlock, Exit.then])
    refine bodyPost_ret (results_ct rfl _ _ (b + 1) 38 #[.int .i64 a0, .int .i64 a1, .int .u32 a2, .int .u32 a3, .int .u32 a4] (0, 0) _ rfl e5 Tryz.underlying38 rfl (by kernel_rfl)) rfl ?_
    exact ⟨rfl, m5, b5⟩
  · rw [if_neg (fun k => hv (bne_iff_ne.mpr k))]
    rw [Bool.not_eq_true] at hv
    obtain ⟨W, hW⟩ : ∃ W, W = (w.alloc (.cells #[.int .i64 n] 94)).alloc (.cells #[.int .i64 0, .int .i64 0, .int .u32 0, .int .u32 0, .int .u32 0] 38) := ⟨_, rfl⟩
    obtain ⟨b, hb⟩ : ∃ b, b = w.heap.size := ⟨_, rfl⟩
    have hm : Mm W pm g l := by rw [hW]; exact (h.alloc _).alloc _
    have hB : But g w W := by rw [hW]; exact ((But.refl g w).alloc _).alloc _
    have hb0 : W.heap[b]? = some (.cells #[.int .i64 n] 94 (0, 0)) := by rw [hW, hb]; exact blk_alloc (heap_alloc_new _ _) _
    have hb1 : W.heap[b + 1]? = some (.cells #[.int .i64 0, .int .i64 0, .int .u32 0, .int .u32 0, .int .u32 0] 38 (0, 0)) := by
      rw [hW, hb]
      have := heap_alloc_new (w.alloc (.cells #[.int .i64 n] 94)) (.cells #[.int .i64 0, .int .i64 0, .int .u32 0, .int .u32 0, .int .u32 0] 38)
      simpa using this
    have q0 := cell_of_heap (j := 0) hb0 rfl
    have hlt := h.lt
    have hbs : w.heap.size ≤ b := Nat.le_of_eq hb.symm
    go_enter Tryz.func187, Tryz.ntmps187
    go_upto_region 1 with (fail)
    rw [← hW, ← hb]
    have hg0 : b ≠ g := by omega
    have hm0 : b ≠ pm := by omega
    have hg2 : b + 1 ≠ g := by omega
    have hm2 : b + 1 ≠ pm := by omega
    replace h := Lib.hid h
    replace hb := Lib.hid hb
    replace hW := Lib.hid hW
    replace hm := Lib.hid hm
    replace hB := Lib.hid hB
    replace hb0 := Lib.hid hb0
    replace hb1 := Lib.hid hb1
    replace hbs := Lib.hid hbs
    clear hlt
    go_wp2_with (go_at_call 141; refine (there_walk hm.out n task).mono ?_; rintro e w1 ⟨rfl, hm1, hB1⟩; rw [hv]; have ha0 := (hB1.block b (blk_lt hb0.out) hg0).trans hb0.out; have ha1 := (hB1.block (b + 1) (blk_lt hb1.out) hg2).trans hb1.out; have hB2 := hB.out.trans hB1; clear hB1 q0; have q0 := cell_of_heap (j := 0) ha0 rfl; have p0 := cell_of_heap (j := 0) ha1 rfl; have p1 := cell_of_heap (j := 1) ha1 rfl; have p2 := cell_of_heap (j := 2) ha1 rfl; have p3 := cell_of_heap (j := 3) ha1 rfl; have p4 := cell_of_heap (j := 4) ha1 rfl; have y0 := blk_frozen ha1 0; have y1 := blk_frozen ha1 1; have y2 := blk_frozen ha1 2; have y3 := blk_frozen ha1 3; have y4 := blk_frozen ha1 4; replace ha0 := Lib.hid ha0; replace ha1 := Lib.hid ha1; replace hm1 := Lib.hid hm1; replace hB2 := Lib.hid hB2)
    have e0 := ha1.out
    have m0 := hm1.out
    have b0 := hB2.out
    have e1 := blk_set e0 0 (.int .i64 0)
    have m1 := m0.far ⟨b + 1, 0, none⟩ hm2 hg2 (.int .i64 0)
    have b1 := b0.set ⟨b + 1, 0, none⟩ (by right; have := hbs.out; show w.heap.size ≤ b + 1; omega) (.int .i64 0)
    have e2 := blk_set e1 1 (.int .i64 0)
    have m2 := m1.far ⟨b + 1, 1, none⟩ hm2 hg2 (.int .i64 0)
    have b2 := b1.set ⟨b + 1, 1, none⟩ (by right; have := hbs.out; show w.heap.size ≤ b + 1; omega) (.int .i64 0)
    have e3 := blk_set e2 2 (.int .u32 0)
    have m3 := m2.far ⟨b + 1, 2, none⟩ hm2 hg2 (.int .u32 0)
    have b3 := b2.set ⟨b + 1, 2, none⟩ (by right; have := hbs.out; show w.heap.size ≤ b + 1; omega) (.int .u32 0)
    have e4 := blk_set e3 3 (.int .u32 0)
    have m4 := m3.far ⟨b + 1, 3, none⟩ hm2 hg2 (.int .u32 0)
    have b4 := b3.set ⟨b + 1, 3, none⟩ (by right; have := hbs.out; show w.heap.size ≤ b + 1; omega) (.int .u32 0)
    have e5 := blk_set e4 4 (.int .u32 0)
    have m5 := m4.far ⟨b + 1, 4, none⟩ hm2 hg2 (.int .u32 0)
    have b5 := b4.set ⟨b + 1, 4, none⟩ (by right; have := hbs.out; show w.heap.size ≤ b + 1; omega) (.int .u32 0)
    (try simp only [Exit.inBlock, Exit.then])
    refine bodyPost_ret (results_ct rfl _ _ (b + 1) 38 #[.int .i64 0, .int .i64 0, .int .u32 0, .int .u32 0, .int .u32 0] (0, 0) _ rfl e5 Tryz.underlying38 rfl (by kernel_rfl)) rfl ?_
    exact ⟨rfl, m5, b5⟩

end Go.Proofs.YtkmlefbdhdlfmaaGreat.Wo
