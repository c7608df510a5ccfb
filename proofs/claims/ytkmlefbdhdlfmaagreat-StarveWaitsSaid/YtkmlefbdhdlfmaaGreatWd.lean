/- A world, and what is read of it: function by function, against the plain text. -/
import Derived.Test.YtkmlefbdhdlfmaaGreatWk
namespace Go.Proofs.YtkmlefbdhdlfmaaGreat.Wo
open Go.RowKit Go.Proofs.YtkmlefbdhdlfmaaGreatW.PrintWords Go.Proofs.YtkmlefbdhdlfmaaGreatW.PrintMore Go.Proofs.YtkmlefbdhdlfmaaGreatW.PrintLast
open Stile
set_option linter.unusedSimpArgs false
set_option linter.unusedVariables false
set_option maxRecDepth 100000
theorem e145 {P : Prop} (h : P := by
 induction vs generalizing w1 o with
 | nil => exact h
 | cons v vs ih => exact ih (h.set ⟨b, o, none⟩ hb v) (o + 1)) : P := h
theorem e146 {P : Prop} (h : P := by
 rw [if_pos (by decide)]
 exact e149) : P := h
theorem e147 {P : Prop} (h : P := by
 rw [if_neg (by decide), if_pos (by decide)]
 exact e149) : P := h
theorem e148 {P : Prop} (h : P := by
 rw [if_neg (by decide), if_neg (by decide), if_pos (by decide)]
 exact e149) : P := h
theorem e149 {P : Prop} (h : P := by
 go_enter Tryz.func142, Tryz.ntmps142
 go_wp2
 go_ret
 exact ⟨rfl, rfl⟩) : P := h
theorem e150 {P : Prop} (h : P := by
 replace h0 := Lib.hid h0
 go_enter Tryz.func85, Tryz.ntmps85
 go_wp2_with (go_at_call 142; go_must (refine (hn.out _).mono ?_; rintro e w1 ⟨rfl, rfl⟩))
 go_ret
 exact ⟨rfl, rfl⟩) : P := h
theorem e151 {P : Prop} (h : P := by
 rw [if_pos (by decide)]
 go_enter Tryz.func86, Tryz.ntmps86
 go_wp2
 go_ret
 exact ⟨rfl, rfl⟩) : P := h
theorem e152 {P : Prop} (h : P := by
 rw [if_pos (by decide)]
 go_enter Tryz.func89, Tryz.ntmps89
 go_wp2
 go_ret
 exact ⟨rfl, rfl⟩) : P := h
theorem e153 {P : Prop} (h : P := by
 rw [if_neg (by decide), if_pos (by decide)]
 go_enter Tryz.func89, Tryz.ntmps89
 go_wp2
 go_ret
 exact ⟨rfl, rfl⟩) : P := h
theorem e154 {P : Prop} (h : P := by
 go_enter Tryz.func38, Tryz.ntmps38
 go_wp2
 go_ret2
 exact ⟨rfl, rfl⟩) : P := h
theorem e155 {P : Prop} (h : P := by
 replace hlen := Lib.hid hlen
 go_enter Tryz.func45, Tryz.ntmps45
 go_wp2
 go_ret
 exact ⟨rfl, rfl⟩) : P := h
theorem e157 {P : Prop} (h : P := by
 replace h := Lib.hid h
 replace hi := Lib.hid hi
 replace ht := Lib.hid ht
 go_enter Tryz.func22, Tryz.ntmps22
 exact e180) : P := h
theorem e158 {P : Prop} (h : P := by
 replace h := Lib.hid h
 replace hi := Lib.hid hi
 replace ht := Lib.hid ht
 go_enter Tryz.func21, Tryz.ntmps21
 exact e180) : P := h
theorem e159 {P : Prop} (h : P := by
 rintro w' ⟨s0, s1, s2, s3, s4, s5, s6, s7, s8, s9, s10, s11, s12, s13⟩
 go_simp
 with_reducible rfl) : P := h
theorem e180 {P : Prop} (h : P := by
 go_wp2_with (go_at_call 45; refine ht.out.mono ?_; rintro e w1 ⟨rfl, rfl⟩)
 go_ret
 exact ⟨rfl, rfl⟩) : P := h
theorem blk_setAll {w : World} {g : Nat} {e : TypeId} {cur : Array Value} (hh : w.heap[g]? = some (.cells cur e (0, 0))) (vs : List Value) (hl : vs.length = cur.size) : (w.setCells g 0 vs).heap[g]? = some (.cells vs.toArray e (0, 0)) := by
 obtain ⟨cur', h1, h2, h3⟩ := setCells_row vs 0 w cur hh (by omega)
 have : cur' = vs.toArray := by
  apply Array.ext'
  rw [h3]
  simp [hl]
 rw [h1, this]
theorem But.setCells {g : Nat} {w w1 : World} (h : But g w w1) (b o : Nat) (hb : b = g ∨ w.heap.size ≤ b) (vs : List Value) : But g w (w1.setCells b o vs) := e145
theorem Fr.setCells {B p g : Nat} {w w1 : World} (h : Fr B p g w w1) (b o : Nat) (hb : b = p ∨ b = g ∨ w.heap.size ≤ b) (vs : List Value) : Fr B p g w (w1.setCells b o vs) := e145
theorem Mm.setCells {w : World} {pm g : Nat} {l : List Int} (h : Mm w pm g l) (b o : Nat) (h1 : b ≠ pm) (h2 : b ≠ g) (vs : List Value) : Mm (w.setCells b o vs) pm g l := by
 induction vs generalizing w o with
 | nil => exact h
 | cons v vs ih => exact ih (h.far ⟨b, o, none⟩ h1 h2 v) (o + 1)
def taskV (x : Task) : Nat → Value
 | 0 => .int .i64 x.hold
 | 1 => .int .i64 x.f.op
 | 2 => .int .i64 x.f.line
 | 3 => .int .u32 x.f.a
 | 4 => .int .u32 x.f.b
 | 5 => .int .i64 x.f.stage
 | 6 => .bool x.f.on
 | 7 => .int .i64 x.f.wc
 | 8 => .int .i64 x.f.wi
 | 9 => .bool x.f.hit
 | _ => .int .i64 x.f.ret
structure Tk (w : World) (t n : Nat) (f : Nat → Nat → Value) : Prop where
 row : ∃ cells : Array Value, w.heap[t]? = some (.cells cells 53 (0, 0)) ∧ ∀ i j, i < n → j < 11 → cells[i * 11 + j]? = some (f i j)
def upd (f : Nat → Nat → Value) (i j : Nat) (v : Value) : Nat → Nat → Value := fun x y => if x = i ∧ y = j then v else f x y
variable {w w1 w2 w0 : World} {a pm g t kf n : Nat} {W : Stile.W} {f : Nat → Nat → Value}
theorem Tk.lt (h : Tk w t n f) : t < w.heap.size := by
 obtain ⟨c, hc, _⟩ := h.row
 exact blk_lt hc
theorem Tk.of_block (h : Tk w t n f) (h1 : w1.heap[t]? = w.heap[t]?) : Tk w1 t n f := by
 obtain ⟨c, hc, hr⟩ := h.row
 exact ⟨c, h1.trans hc, hr⟩
theorem Tk.cell (h : Tk w t n f) {i j : Nat} (hi : i < n) (hj : j < 11) : w.cell? ⟨t, i * 11 + j, none⟩ = some (f i j) := by
 obtain ⟨c, hc, hr⟩ := h.row
 exact cell_of_heap hc (hr i j hi hj)
theorem Tk.frozen (h : Tk w t n f) (j : Nat) : w.frozen? ⟨t, j, none⟩ = false := by
 obtain ⟨c, hc, _⟩ := h.row
 exact blk_frozen hc j
theorem Tk.set (h : Tk w t n f) (i j : Nat) (hi : i < n) (hj : j < 11) (v : Value) : Tk (w.setCell ⟨t, i * 11 + j, none⟩ v) t n (upd f i j v) := by
 obtain ⟨c, hc, hr⟩ := h.row
 refine ⟨c.setIfInBounds (i * 11 + j) v, blk_set hc _ v, fun x y hx hy => ?_⟩
 have hlt : i * 11 + j < c.size := (Array.getElem?_eq_some_iff.1 (hr i j hi hj)).1
 unfold upd
 by_cases e : x = i ∧ y = j
 ·obtain ⟨rfl, rfl⟩ := e
  rw [if_pos ⟨rfl, rfl⟩]
  simp [hlt]
 ·rw [if_neg e, Array.getElem?_setIfInBounds_ne (by omega)]
  exact hr x y hx hy
theorem Tk.far (h : Tk w t n f) (p : Addr) (hp : t ≠ p.block) (v : Value) : Tk (w.setCell p v) t n f := h.of_block (Below.heap_setCell w p v t hp)
theorem Tk.congr {f' : Nat → Nat → Value} (h : Tk w t n f) (e : ∀ i j, i < n → j < 11 → f i j = f' i j) : Tk w t n f' := by
 obtain ⟨c, hc, hr⟩ := h.row
 exact ⟨c, hc, fun i j hi hj => by rw [← e i j hi hj]; exact hr i j hi hj⟩
theorem Tk.setCells (i : Nat) (hi : i < n) (vs : List Value) : ∀ (w : World) (f : Nat → Nat → Value) (j : Nat), Tk w t n f → j + vs.length ≤ 11 → Tk (w.setCells t (i * 11 + j) vs) t n (fun x y => if x = i ∧ j ≤ y ∧ y < j + vs.length then vs.getD (y - j) undef else f x y) := by
 induction vs with
 | nil => intro w f j h _; exact h.congr (fun x y _ _ => by rw [if_neg (by rintro ⟨_, h1, h2⟩; simp at h2; omega)])
 | cons v vs ih =>
  intro w f j h hj
  have hj' : j + (vs.length + 1) ≤ 11 := hj
  refine (ih (w.setCell ⟨t, i * 11 + j, none⟩ v) _ (j + 1) (h.set i j hi (by omega) v) (by omega)).congr ?_
  intro x y hx hy
  by_cases e : x = i ∧ j + 1 ≤ y ∧ y < j + 1 + vs.length
  ·rw [if_pos e, if_pos ⟨e.1, by omega, by simp; omega⟩, show y - j = (y - (j + 1)) + 1 from by omega]
   simp
  ·rw [if_neg e]
   unfold upd
   by_cases e2 : x = i ∧ y = j
   ·rw [if_pos e2, if_pos ⟨e2.1, by omega, by simp; omega⟩, e2.2]
    simp
   ·rw [if_neg e2, if_neg (by simp; omega)]
theorem Tk.far_cells (h : Tk w t n f) (b o : Nat) (hb : t ≠ b) (vs : List Value) : Tk (w.setCells b o vs) t n f := h.of_block (setCells_far vs o t hb)
theorem Tk.run (h : Tk w t n f) (i j : Nat) (hi : i < n) (T : TypeId) (u : Value) (seg : List Value) (hu : u.cells.toList = seg) (ht : (Tryz.prog.info? T).map (·.size) = some seg.length) (hj : j + seg.length ≤ 11) (h1 : ∀ q ∈ seg, q.oneCell' = true) : (Instr.storeAt T (.pointer (some ⟨t, i * 11 + j, none⟩)) u).run Tryz.prog w = .ok () (w.setCells t (i * 11 + j) seg) := by
 obtain ⟨c, hc, hr⟩ := h.row
 have := (Array.getElem?_eq_some_iff.1 (hr i 10 hi (by decide))).1
 exact run_store_run T u seg hc hu ht (by omega) h1
def kindFn (k : Int) : Option Nat :=
 if k = 1 then some 71 else if k = 2 then some 72 else if k = 3 then some 73 else if k = 4 then some 74 else if k = 5 then some 75 else if k = 6 then some 76 else none
structure Wd (w : World) (a pm g t kf : Nat) (W : Stile.W) : Prop where
 head : ∃ cap, w.heap[a]? = some (.cells #[.int .i64 W.kind, .int .i64 W.mode, .pointer (some ⟨pm, 0, none⟩), .int .i64 W.n, .func (.func kf) #[] #[], .slice (some ⟨t, 0, none⟩) W.t.length cap] 96 (0, 0))
 mem : Mm w pm g W.l
 tasks : Tk w t W.t.length (fun i j => taskV (W.t.getD i ⟨0, .zero⟩) j)
 fn : kindFn W.kind = some kf
theorem Wd.ne (h : Wd w a pm g t kf W) : a ≠ pm ∧ a ≠ g ∧ a ≠ t ∧ pm ≠ t ∧ g ≠ t ∧ pm ≠ g := by
 obtain ⟨cap, ha⟩ := h.head
 obtain ⟨c1, hm⟩ := h.mem.head
 obtain ⟨c2, hg, _⟩ := h.mem.row
 obtain ⟨c3, ht, _⟩ := h.tasks.row
 exact ⟨blk_ne ha hm (by decide), blk_ne ha hg (by decide), blk_ne ha ht (by decide), blk_ne hm ht (by decide), blk_ne hg ht (by decide), blk_ne hm hg (by decide)⟩
theorem Wd.lt (h : Wd w a pm g t kf W) : a < w.heap.size ∧ pm < w.heap.size ∧ g < w.heap.size ∧ t < w.heap.size := by
 obtain ⟨cap, ha⟩ := h.head
 exact ⟨blk_lt ha, h.mem.lt.1, h.mem.lt.2, h.tasks.lt⟩
theorem Wd.below (h : Wd w a pm g t kf W) (hb : Below w.heap.size w w1) : Wd w1 a pm g t kf W := by
 obtain ⟨cap, ha⟩ := h.head
 exact ⟨⟨cap, (hb.block a (blk_lt ha)).trans ha⟩, h.mem.below hb, h.tasks.of_block (hb.block t h.tasks.lt), h.fn⟩
theorem Wd.drew (h : Wd w a pm g t kf W) : Wd w.drew a pm g t kf W := h.below (below_drew (Below.refl _ _))
theorem Wd.alloc (h : Wd w a pm g t kf W) (o : Obj) : Wd (w.alloc o) a pm g t kf W := h.below (below_alloc (Below.refl _ _) o)
theorem Wd.but (h : Wd w a pm g t kf W) (hm : Mm w1 pm g W.l) (hb : But g w w1) : Wd w1 a pm g t kf W := by
 have hn := h.ne
 have hlt := h.lt
 obtain ⟨cap, ha⟩ := h.head
 exact ⟨⟨cap, (hb.block a hlt.1 hn.2.1).trans ha⟩, hm, h.tasks.of_block (hb.block t hlt.2.2.2 (Ne.symm hn.2.2.2.2.1)), h.fn⟩
structure Bt (g t : Nat) (w w1 : World) : Prop where
 os : w1.os = w.os
 tape : w1.tape = w.tape
 output : w1.output = w.output
 size : w.heap.size ≤ w1.heap.size
 block : ∀ k, k < w.heap.size → k ≠ g → k ≠ t → w1.heap[k]? = w.heap[k]?
theorem Bt.refl (g t : Nat) (w : World) : Bt g t w w := ⟨rfl, rfl, rfl, Nat.le_refl _, fun _ _ _ _ => rfl⟩
theorem Bt.trans (h : Bt g t w w1) (k : Bt g t w1 w2) : Bt g t w w2 :=
 ⟨k.os.trans h.os, k.tape.trans h.tape, k.output.trans h.output, Nat.le_trans h.size k.size, fun b hb h1 h2 => (k.block b (Nat.lt_of_lt_of_le hb h.size) h1 h2).trans (h.block b hb h1 h2)⟩
theorem Bt.of_below (h : Below w.heap.size w w1) : Bt g t w w1 := ⟨h.os, h.tape, h.output, h.size, fun b hb _ _ => h.block b hb⟩
theorem Bt.of_but (h : But g w w1) : Bt g t w w1 := ⟨h.os, h.tape, h.output, h.size, fun b hb h1 _ => h.block b hb h1⟩
theorem Bt.drew (h : Bt g t w w1) : Bt g t w w1.drew := ⟨h.os, h.tape, h.output, h.size, h.block⟩
theorem Bt.alloc (h : Bt g t w w1) (o : Obj) : Bt g t w (w1.alloc o) := h.trans (Bt.of_below (below_alloc (Below.refl _ _) o))
theorem Bt.set (h : Bt g t w w1) (p : Addr) (hp : p.block = g ∨ p.block = t ∨ w.heap.size ≤ p.block) (v : Value) : Bt g t w (w1.setCell p v) :=
 ⟨h.os, h.tape, h.output, by simpa [World.setCell] using h.size, fun b hb h1 h2 => (Below.heap_setCell w1 p v b (by rcases hp with e | e | e <;> omega)).trans (h.block b hb h1 h2)⟩
theorem Bt.setCells (h : Bt g t w w1) (b o : Nat) (hb : b = g ∨ b = t ∨ w.heap.size ≤ b) (vs : List Value) : Bt g t w (w1.setCells b o vs) := e145
theorem At.start (h : Wd w a pm g t kf W) {B : Nat} (hpm : pm < B) (hg : g < B) (hB : B ≤ w.heap.size) (r : Run) (hl : r.l = W.l) (hn : r.notes = []) : At B (w.alloc (.cells (runCells r pm (.slice none 0 0)) 99)) w.heap.size pm g r :=
 ⟨⟨hpm, hg, hB⟩, ⟨_, heap_alloc_new _ _, by rw [hn]; exact Kd.R_nil _ _ _ _ _⟩, by rw [hl]; exact h.mem.alloc _⟩
set_option maxHeartbeats 2000000 in
theorem needs_walk (op : Int) (w : World) : Calls Tryz.prog 142 #[.int .i64 op] w fun e w' => e = .returned (.int .i64 (needs op)) ∧ w' = w := by
 unfold needs
 by_cases h1 : op = 1
 ·subst h1
  exact e146
 ·have b1 : (op == 1) = false := beq_eq_false_iff_ne.mpr h1
  by_cases h3 : op = 3
  ·subst h3
   exact e146
  ·have b3 : (op == 3) = false := beq_eq_false_iff_ne.mpr h3
   by_cases h5 : op = 5
   ·subst h5
    exact e146
   ·have b5 : (op == 5) = false := beq_eq_false_iff_ne.mpr h5
    by_cases h6 : op = 6
    ·subst h6
     exact e146
    ·have b6 : (op == 6) = false := beq_eq_false_iff_ne.mpr h6
     by_cases h2 : op = 2
     ·subst h2
      exact e147
     ·have b2 : (op == 2) = false := beq_eq_false_iff_ne.mpr h2
      by_cases h7 : op = 7
      ·subst h7
       exact e147
      ·have b7 : (op == 7) = false := beq_eq_false_iff_ne.mpr h7
       by_cases h4 : op = 4
       ·subst h4
        exact e148
       ·have b4 : (op == 4) = false := beq_eq_false_iff_ne.mpr h4
        by_cases h8 : op = 8
        ·subst h8
         exact e148
        ·have b8 : (op == 8) = false := beq_eq_false_iff_ne.mpr h8
         rw [if_neg (by omega), if_neg (by omega), if_neg (by omega)]
         replace h1 := Lib.hid h1
         replace h2 := Lib.hid h2
         replace h3 := Lib.hid h3
         replace h4 := Lib.hid h4
         replace h5 := Lib.hid h5
         replace h6 := Lib.hid h6
         replace h7 := Lib.hid h7
         replace h8 := Lib.hid h8
         exact e149
set_option maxHeartbeats 2000000 in
theorem may_walk (op hold : Int) (w : World) : Calls Tryz.prog 85 #[.int .i64 op, .int .i64 hold] w fun e w' => e = .returned (.bool (may op hold)) ∧ w' = w := by
 have hn := needs_walk op
 unfold may
 generalize needs op = x at hn ⊢
 replace hn := Lib.hid hn
 by_cases h0 : x ≥ 0
 ·have b0 : decide (x ≥ 0) = true := decide_eq_true h0
  have hf : decide (x ≥ 0 ∧ x = hold) = (x == hold) := by by_cases e : x = hold <;> simp [e, h0] <;> omega
  rw [hf]
  clear hf
  exact e150
 ·have b0 : decide (x ≥ 0) = false := decide_eq_false h0
  rw [decide_eq_false (fun k => h0 k.1)]
  exact e150
set_option maxHeartbeats 2000000 in
theorem atHold_walk (op hold : Int) (w : World) : Calls Tryz.prog 86 #[.int .i64 op, .int .i64 hold] w fun e w' => e = .returned (.int .i64 (atHold op hold)) ∧ w' = w := by
 unfold atHold
 by_cases h2 : op = 2
 ·subst h2
  exact e151
 ·have b2 : (op == 2) = false := beq_eq_false_iff_ne.mpr h2
  by_cases h4 : op = 4
  ·subst h4
   exact e151
  ·have b4 : (op == 4) = false := beq_eq_false_iff_ne.mpr h4
   by_cases h8 : op = 8
   ·subst h8
    rw [if_neg (by decide), if_pos rfl]
    go_enter Tryz.func86, Tryz.ntmps86
    go_wp2
    go_ret
    exact ⟨rfl, rfl⟩
   ·have b8 : (op == 8) = false := beq_eq_false_iff_ne.mpr h8
    rw [if_neg (by omega), if_neg (by omega)]
    replace h2 := Lib.hid h2
    replace h4 := Lib.hid h4
    replace h8 := Lib.hid h8
    go_enter Tryz.func86, Tryz.ntmps86
    go_wp2
    go_ret
    exact ⟨rfl, rfl⟩
set_option maxHeartbeats 2000000 in
theorem behind_walk (op ret hold : Int) (w : World) : Calls Tryz.prog 89 #[.int .i64 op, .int .i64 ret, .int .i64 hold] w fun e w' => e = .returned (.int .i64 (behind op ret hold)) ∧ w' = w := by
 unfold behind
 by_cases hr : ret = 2
 ·subst hr
  rw [if_neg (by decide)]
  by_cases h1 : op = 1
  ·subst h1
   exact e152
  ·have b1 : (op == 1) = false := beq_eq_false_iff_ne.mpr h1
   by_cases h5 : op = 5
   ·subst h5
    exact e152
   ·have b5 : (op == 5) = false := beq_eq_false_iff_ne.mpr h5
    by_cases h3 : op = 3
    ·subst h3
     exact e153
    ·have b3 : (op == 3) = false := beq_eq_false_iff_ne.mpr h3
     by_cases h6 : op = 6
     ·subst h6
      exact e153
     ·have b6 : (op == 6) = false := beq_eq_false_iff_ne.mpr h6
      by_cases h7 : op = 7
      ·subst h7
       exact e153
      ·have b7 : (op == 7) = false := beq_eq_false_iff_ne.mpr h7
       rw [if_neg (by omega), if_neg (by omega)]
       replace h1 := Lib.hid h1
       replace h5 := Lib.hid h5
       replace h3 := Lib.hid h3
       replace h6 := Lib.hid h6
       replace h7 := Lib.hid h7
       go_enter Tryz.func89, Tryz.ntmps89
       go_wp2
       go_ret
       exact ⟨rfl, rfl⟩
 ·have br : (ret != 2) = true := bne_iff_ne.mpr hr
  rw [if_pos hr]
  replace hr := Lib.hid hr
  go_enter Tryz.func89, Tryz.ntmps89
  go_wp2
  go_ret
  exact ⟨rfl, rfl⟩
set_option maxHeartbeats 2000000 in
theorem slines_1 (w : World) : Calls Tryz.prog 38 #[.int .i64 1] w fun e w' => e = .returned (.tuple #[.func (.func 71) #[] #[], .bool true]) ∧ w' = w := e154
set_option maxHeartbeats 2000000 in
theorem slines_2 (w : World) : Calls Tryz.prog 38 #[.int .i64 2] w fun e w' => e = .returned (.tuple #[.func (.func 72) #[] #[], .bool true]) ∧ w' = w := e154
set_option maxHeartbeats 2000000 in
theorem slines_3 (w : World) : Calls Tryz.prog 38 #[.int .i64 3] w fun e w' => e = .returned (.tuple #[.func (.func 73) #[] #[], .bool true]) ∧ w' = w := e154
set_option maxHeartbeats 2000000 in
theorem slines_4 (w : World) : Calls Tryz.prog 38 #[.int .i64 4] w fun e w' => e = .returned (.tuple #[.func (.func 74) #[] #[], .bool true]) ∧ w' = w := e154
set_option maxHeartbeats 2000000 in
theorem slines_5 (w : World) : Calls Tryz.prog 38 #[.int .i64 5] w fun e w' => e = .returned (.tuple #[.func (.func 75) #[] #[], .bool true]) ∧ w' = w := e154
set_option maxHeartbeats 2000000 in
theorem slines_6 (w : World) : Calls Tryz.prog 38 #[.int .i64 6] w fun e w' => e = .returned (.tuple #[.func (.func 76) #[] #[], .bool true]) ∧ w' = w := e154
set_option maxHeartbeats 2000000 in
theorem task_walk (h : Wd w a pm g t kf W) (i : Int) : Calls Tryz.prog 45 #[.pointer (some ⟨a, 0, none⟩), .int .i64 i] w fun e w' => e = .returned (.pointer (if there W i then some ⟨t, i.toNat * 11, none⟩ else none)) ∧ w' = w := by
 obtain ⟨cap, hh⟩ := h.head
 have c5 := cell_of_heap (j := 5) hh rfl
 replace hh := Lib.hid hh
 replace h := Lib.hid h
 obtain ⟨len, hlen⟩ : ∃ x, x = W.t.length := ⟨_, rfl⟩
 rw [← hlen] at c5
 by_cases h0 : i < 0
 ·rw [if_neg (by unfold there; omega)]
  have h0b : decide (i < 0) = true := decide_eq_true h0
  replace h0 := Lib.hid h0
  exact e155
 ·obtain ⟨k, rfl⟩ := Int.eq_ofNat_of_zero_le (by omega : 0 ≤ i)
  have h0b : decide ((k : Int) < 0) = false := decide_eq_false h0
  replace h0 := Lib.hid h0
  by_cases h1 : k < len
  ·rw [if_pos (by unfold there; omega)]
   have h1i : (k : Int) < (len : Int) := by omega
   have h1b : decide ((k : Int) ≥ (len : Int)) = false := decide_eq_false (by omega)
   replace hlen := Lib.hid hlen
   go_enter Tryz.func45, Tryz.ntmps45
   go_wp2
   go_ret
   exact ⟨by simp, rfl⟩
  ·rw [if_neg (by unfold there; omega)]
   have h1b : decide ((k : Int) ≥ (len : Int)) = true := decide_eq_true (by omega)
   exact e155
set_option maxHeartbeats 2000000 in
theorem busy_walk (h : Wd w a pm g t kf W) (i : Int) : Calls Tryz.prog 22 #[.pointer (some ⟨a, 0, none⟩), .int .i64 i] w fun e w' => e = .returned (.int .i64 (busy W i)) ∧ w' = w := by
 have ht := task_walk h i
 unfold busy
 by_cases hi : there W i
 ·rw [if_pos hi] at ht ⊢
  have c := h.tasks.cell (i := i.toNat) (j := 1) (by unfold there at hi; omega) (by decide)
  change w.cell? ⟨t, i.toNat * 11 + 1, none⟩ = some (.int .i64 (taskAt W i).f.op) at c
  generalize (taskAt W i).f.op = x at c ⊢
  exact e157
 ·rw [if_neg hi] at ht ⊢
  exact e157
set_option maxHeartbeats 2000000 in
theorem hold_walk (h : Wd w a pm g t kf W) (i : Int) : Calls Tryz.prog 21 #[.pointer (some ⟨a, 0, none⟩), .int .i64 i] w fun e w' => e = .returned (.int .i64 (holdOf W i)) ∧ w' = w := by
 have ht := task_walk h i
 unfold holdOf
 by_cases hi : there W i
 ·rw [if_pos hi] at ht ⊢
  have c := h.tasks.cell (i := i.toNat) (j := 0) (by unfold there at hi; omega) (by decide)
  change w.cell? ⟨t, i.toNat * 11, none⟩ = some (.int .i64 (taskAt W i).hold) at c
  generalize (taskAt W i).hold = x at c ⊢
  exact e158
 ·rw [if_neg hi] at ht ⊢
  exact e158
set_option maxHeartbeats 2000000 in
theorem run_walk (h : Wd w a pm g t kf W) (k : Nat) (hk : k < W.t.length) : Calls Tryz.prog 42 #[.pointer (some ⟨a, 0, none⟩), .int .i64 k] w fun e w' => e = .returned (.agg (runCells (runAt W k) pm (.slice none 0 0))) ∧ Below w.heap.size w w' := by
 obtain ⟨cap, hh⟩ := h.head
 have tc1 : (w.alloc (.cells #[.pointer none, .int .i64 0, .int .i64 0, .int .i64 0, .int .i64 0, .int .i64 0, .int .u32 0, .int .u32 0, .int .i64 0, .bool false, .int .i64 0, .int .i64 0, .bool false, .int .i64 0, .int .i64 0, .int .i64 0, .int .u32 0, .int .u32 0, .int .u32 0, .slice none 0 0] 99)).cell? ⟨t, k * 11 + 1, none⟩ = some (taskV (W.t.getD k ⟨0, .zero⟩) 1) := (h.alloc (.cells #[.pointer none, .int .i64 0, .int .i64 0, .int .i64 0, .int .i64 0, .int .i64 0, .int .u32 0, .int .u32 0, .int .i64 0, .bool false, .int .i64 0, .int .i64 0, .bool false, .int .i64 0, .int .i64 0, .int .i64 0, .int .u32 0, .int .u32 0, .int .u32 0, .slice none 0 0] 99)).tasks.cell (j := 1) hk (by decide)
 have tc2 : (w.alloc (.cells #[.pointer none, .int .i64 0, .int .i64 0, .int .i64 0, .int .i64 0, .int .i64 0, .int .u32 0, .int .u32 0, .int .i64 0, .bool false, .int .i64 0, .int .i64 0, .bool false, .int .i64 0, .int .i64 0, .int .i64 0, .int .u32 0, .int .u32 0, .int .u32 0, .slice none 0 0] 99)).cell? ⟨t, k * 11 + 2, none⟩ = some (taskV (W.t.getD k ⟨0, .zero⟩) 2) := (h.alloc (.cells #[.pointer none, .int .i64 0, .int .i64 0, .int .i64 0, .int .i64 0, .int .i64 0, .int .u32 0, .int .u32 0, .int .i64 0, .bool false, .int .i64 0, .int .i64 0, .bool false, .int .i64 0, .int .i64 0, .int .i64 0, .int .u32 0, .int .u32 0, .int .u32 0, .slice none 0 0] 99)).tasks.cell (j := 2) hk (by decide)
 have tc3 : (w.alloc (.cells #[.pointer none, .int .i64 0, .int .i64 0, .int .i64 0, .int .i64 0, .int .i64 0, .int .u32 0, .int .u32 0, .int .i64 0, .bool false, .int .i64 0, .int .i64 0, .bool false, .int .i64 0, .int .i64 0, .int .i64 0, .int .u32 0, .int .u32 0, .int .u32 0, .slice none 0 0] 99)).cell? ⟨t, k * 11 + 3, none⟩ = some (taskV (W.t.getD k ⟨0, .zero⟩) 3) := (h.alloc (.cells #[.pointer none, .int .i64 0, .int .i64 0, .int .i64 0, .int .i64 0, .int .i64 0, .int .u32 0, .int .u32 0, .int .i64 0, .bool false, .int .i64 0, .int .i64 0, .bool false, .int .i64 0, .int .i64 0, .int .i64 0, .int .u32 0, .int .u32 0, .int .u32 0, .slice none 0 0] 99)).tasks.cell (j := 3) hk (by decide)
 have tc4 : (w.alloc (.cells #[.pointer none, .int .i64 0, .int .i64 0, .int .i64 0, .int .i64 0, .int .i64 0, .int .u32 0, .int .u32 0, .int .i64 0, .bool false, .int .i64 0, .int .i64 0, .bool false, .int .i64 0, .int .i64 0, .int .i64 0, .int .u32 0, .int .u32 0, .int .u32 0, .slice none 0 0] 99)).cell? ⟨t, k * 11 + 4, none⟩ = some (taskV (W.t.getD k ⟨0, .zero⟩) 4) := (h.alloc (.cells #[.pointer none, .int .i64 0, .int .i64 0, .int .i64 0, .int .i64 0, .int .i64 0, .int .u32 0, .int .u32 0, .int .i64 0, .bool false, .int .i64 0, .int .i64 0, .bool false, .int .i64 0, .int .i64 0, .int .i64 0, .int .u32 0, .int .u32 0, .int .u32 0, .slice none 0 0] 99)).tasks.cell (j := 4) hk (by decide)
 have tc5 : (w.alloc (.cells #[.pointer none, .int .i64 0, .int .i64 0, .int .i64 0, .int .i64 0, .int .i64 0, .int .u32 0, .int .u32 0, .int .i64 0, .bool false, .int .i64 0, .int .i64 0, .bool false, .int .i64 0, .int .i64 0, .int .i64 0, .int .u32 0, .int .u32 0, .int .u32 0, .slice none 0 0] 99)).cell? ⟨t, k * 11 + 5, none⟩ = some (taskV (W.t.getD k ⟨0, .zero⟩) 5) := (h.alloc (.cells #[.pointer none, .int .i64 0, .int .i64 0, .int .i64 0, .int .i64 0, .int .i64 0, .int .u32 0, .int .u32 0, .int .i64 0, .bool false, .int .i64 0, .int .i64 0, .bool false, .int .i64 0, .int .i64 0, .int .i64 0, .int .u32 0, .int .u32 0, .int .u32 0, .slice none 0 0] 99)).tasks.cell (j := 5) hk (by decide)
 have tc6 : (w.alloc (.cells #[.pointer none, .int .i64 0, .int .i64 0, .int .i64 0, .int .i64 0, .int .i64 0, .int .u32 0, .int .u32 0, .int .i64 0, .bool false, .int .i64 0, .int .i64 0, .bool false, .int .i64 0, .int .i64 0, .int .i64 0, .int .u32 0, .int .u32 0, .int .u32 0, .slice none 0 0] 99)).cell? ⟨t, k * 11 + 6, none⟩ = some (taskV (W.t.getD k ⟨0, .zero⟩) 6) := (h.alloc (.cells #[.pointer none, .int .i64 0, .int .i64 0, .int .i64 0, .int .i64 0, .int .i64 0, .int .u32 0, .int .u32 0, .int .i64 0, .bool false, .int .i64 0, .int .i64 0, .bool false, .int .i64 0, .int .i64 0, .int .i64 0, .int .u32 0, .int .u32 0, .int .u32 0, .slice none 0 0] 99)).tasks.cell (j := 6) hk (by decide)
 have tc7 : (w.alloc (.cells #[.pointer none, .int .i64 0, .int .i64 0, .int .i64 0, .int .i64 0, .int .i64 0, .int .u32 0, .int .u32 0, .int .i64 0, .bool false, .int .i64 0, .int .i64 0, .bool false, .int .i64 0, .int .i64 0, .int .i64 0, .int .u32 0, .int .u32 0, .int .u32 0, .slice none 0 0] 99)).cell? ⟨t, k * 11 + 7, none⟩ = some (taskV (W.t.getD k ⟨0, .zero⟩) 7) := (h.alloc (.cells #[.pointer none, .int .i64 0, .int .i64 0, .int .i64 0, .int .i64 0, .int .i64 0, .int .u32 0, .int .u32 0, .int .i64 0, .bool false, .int .i64 0, .int .i64 0, .bool false, .int .i64 0, .int .i64 0, .int .i64 0, .int .u32 0, .int .u32 0, .int .u32 0, .slice none 0 0] 99)).tasks.cell (j := 7) hk (by decide)
 have tc8 : (w.alloc (.cells #[.pointer none, .int .i64 0, .int .i64 0, .int .i64 0, .int .i64 0, .int .i64 0, .int .u32 0, .int .u32 0, .int .i64 0, .bool false, .int .i64 0, .int .i64 0, .bool false, .int .i64 0, .int .i64 0, .int .i64 0, .int .u32 0, .int .u32 0, .int .u32 0, .slice none 0 0] 99)).cell? ⟨t, k * 11 + 8, none⟩ = some (taskV (W.t.getD k ⟨0, .zero⟩) 8) := (h.alloc (.cells #[.pointer none, .int .i64 0, .int .i64 0, .int .i64 0, .int .i64 0, .int .i64 0, .int .u32 0, .int .u32 0, .int .i64 0, .bool false, .int .i64 0, .int .i64 0, .bool false, .int .i64 0, .int .i64 0, .int .i64 0, .int .u32 0, .int .u32 0, .int .u32 0, .slice none 0 0] 99)).tasks.cell (j := 8) hk (by decide)
 have tc9 : (w.alloc (.cells #[.pointer none, .int .i64 0, .int .i64 0, .int .i64 0, .int .i64 0, .int .i64 0, .int .u32 0, .int .u32 0, .int .i64 0, .bool false, .int .i64 0, .int .i64 0, .bool false, .int .i64 0, .int .i64 0, .int .i64 0, .int .u32 0, .int .u32 0, .int .u32 0, .slice none 0 0] 99)).cell? ⟨t, k * 11 + 9, none⟩ = some (taskV (W.t.getD k ⟨0, .zero⟩) 9) := (h.alloc (.cells #[.pointer none, .int .i64 0, .int .i64 0, .int .i64 0, .int .i64 0, .int .i64 0, .int .u32 0, .int .u32 0, .int .i64 0, .bool false, .int .i64 0, .int .i64 0, .bool false, .int .i64 0, .int .i64 0, .int .i64 0, .int .u32 0, .int .u32 0, .int .u32 0, .slice none 0 0] 99)).tasks.cell (j := 9) hk (by decide)
 have tc10 : (w.alloc (.cells #[.pointer none, .int .i64 0, .int .i64 0, .int .i64 0, .int .i64 0, .int .i64 0, .int .u32 0, .int .u32 0, .int .i64 0, .bool false, .int .i64 0, .int .i64 0, .bool false, .int .i64 0, .int .i64 0, .int .i64 0, .int .u32 0, .int .u32 0, .int .u32 0, .slice none 0 0] 99)).cell? ⟨t, k * 11 + 10, none⟩ = some (taskV (W.t.getD k ⟨0, .zero⟩) 10) := (h.alloc (.cells #[.pointer none, .int .i64 0, .int .i64 0, .int .i64 0, .int .i64 0, .int .i64 0, .int .u32 0, .int .u32 0, .int .i64 0, .bool false, .int .i64 0, .int .i64 0, .bool false, .int .i64 0, .int .i64 0, .int .i64 0, .int .u32 0, .int .u32 0, .int .u32 0, .slice none 0 0] 99)).tasks.cell (j := 10) hk (by decide)
 have hr : runAt W k = ⟨W.l, W.n, W.mode, k, (W.t.getD k ⟨0, .zero⟩).f, .zero, []⟩ := by unfold runAt taskAt; simp
 rw [hr]
 clear hr
 generalize W.t.getD k ⟨0, .zero⟩ = x at tc1 tc2 tc3 tc4 tc5 tc6 tc7 tc8 tc9 tc10 ⊢
 obtain ⟨xh, ⟨fop, fln, fa, fb, fst, fon, fwc, fwi, fhit, fret⟩⟩ := x
 change World.cell? _ _ = some (.int .i64 fop) at tc1
 change World.cell? _ _ = some (.int .i64 fln) at tc2
 change World.cell? _ _ = some (.int .u32 fa) at tc3
 change World.cell? _ _ = some (.int .u32 fb) at tc4
 change World.cell? _ _ = some (.int .i64 fst) at tc5
 change World.cell? _ _ = some (.bool fon) at tc6
 change World.cell? _ _ = some (.int .i64 fwc) at tc7
 change World.cell? _ _ = some (.int .i64 fwi) at tc8
 change World.cell? _ _ = some (.bool fhit) at tc9
 change World.cell? _ _ = some (.int .i64 fret) at tc10
 obtain ⟨len, hlen⟩ : ∃ x, x = W.t.length := ⟨_, rfl⟩
 have h1i : (k : Int) < (len : Int) := by omega
 obtain ⟨b, hb⟩ : ∃ b, b = w.heap.size := ⟨_, rfl⟩
 obtain ⟨W0, hW⟩ : ∃ W0, W0 = (w.alloc (.cells #[.pointer none, .int .i64 0, .int .i64 0, .int .i64 0, .int .i64 0, .int .i64 0, .int .u32 0, .int .u32 0, .int .i64 0, .bool false, .int .i64 0, .int .i64 0, .bool false, .int .i64 0, .int .i64 0, .int .i64 0, .int .u32 0, .int .u32 0, .int .u32 0, .slice none 0 0] 99)) := ⟨_, rfl⟩
 have hx0 : W0.heap[b]? = some (.cells #[.pointer none, .int .i64 0, .int .i64 0, .int .i64 0, .int .i64 0, .int .i64 0, .int .u32 0, .int .u32 0, .int .i64 0, .bool false, .int .i64 0, .int .i64 0, .bool false, .int .i64 0, .int .i64 0, .int .i64 0, .int .u32 0, .int .u32 0, .int .u32 0, .slice none 0 0] 99 (0, 0)) := by
  rw [hW, hb]
  simpa using heap_alloc_new w (.cells #[.pointer none, .int .i64 0, .int .i64 0, .int .i64 0, .int .i64 0, .int .i64 0, .int .u32 0, .int .u32 0, .int .i64 0, .bool false, .int .i64 0, .int .i64 0, .bool false, .int .i64 0, .int .i64 0, .int .i64 0, .int .u32 0, .int .u32 0, .int .u32 0, .slice none 0 0] 99)
 have hbs : w.heap.size ≤ b := Nat.le_of_eq hb.symm
 have hbs0 : w.heap.size ≤ w.heap.size := Nat.le_refl _
 have c1 := cell_of_heap (j := 1) (blk_alloc hh (.cells #[.pointer none, .int .i64 0, .int .i64 0, .int .i64 0, .int .i64 0, .int .i64 0, .int .u32 0, .int .u32 0, .int .i64 0, .bool false, .int .i64 0, .int .i64 0, .bool false, .int .i64 0, .int .i64 0, .int .i64 0, .int .u32 0, .int .u32 0, .int .u32 0, .slice none 0 0] 99)) rfl
 have c2 := cell_of_heap (j := 2) (blk_alloc hh (.cells #[.pointer none, .int .i64 0, .int .i64 0, .int .i64 0, .int .i64 0, .int .i64 0, .int .u32 0, .int .u32 0, .int .i64 0, .bool false, .int .i64 0, .int .i64 0, .bool false, .int .i64 0, .int .i64 0, .int .i64 0, .int .u32 0, .int .u32 0, .int .u32 0, .slice none 0 0] 99)) rfl
 have c3 := cell_of_heap (j := 3) (blk_alloc hh (.cells #[.pointer none, .int .i64 0, .int .i64 0, .int .i64 0, .int .i64 0, .int .i64 0, .int .u32 0, .int .u32 0, .int .i64 0, .bool false, .int .i64 0, .int .i64 0, .bool false, .int .i64 0, .int .i64 0, .int .i64 0, .int .u32 0, .int .u32 0, .int .u32 0, .slice none 0 0] 99)) rfl
 have c5 := cell_of_heap (j := 5) (blk_alloc hh (.cells #[.pointer none, .int .i64 0, .int .i64 0, .int .i64 0, .int .i64 0, .int .i64 0, .int .u32 0, .int .u32 0, .int .i64 0, .bool false, .int .i64 0, .int .i64 0, .bool false, .int .i64 0, .int .i64 0, .int .i64 0, .int .u32 0, .int .u32 0, .int .u32 0, .slice none 0 0] 99)) rfl
 rw [← hW] at c1 c2 c3 c5
 rw [← hlen] at c5
 have hB : But w.heap.size w W0 := by rw [hW]; exact (But.refl _ w).alloc _
 have t1 := tc1
 rw [← hW] at t1
 have t2 := tc2
 rw [← hW] at t2
 have t3 := tc3
 rw [← hW] at t3
 have t4 := tc4
 rw [← hW] at t4
 have t5 := tc5
 rw [← hW] at t5
 have t6 := tc6
 rw [← hW] at t6
 have t7 := tc7
 rw [← hW] at t7
 have t8 := tc8
 rw [← hW] at t8
 have t9 := tc9
 rw [← hW] at t9
 have t10 := tc10
 rw [← hW] at t10
 replace hlen := Lib.hid hlen
 replace hh := Lib.hid hh
 replace h := Lib.hid h
 go_enter Tryz.func42, Tryz.ntmps42
 go_upto_region 1 with (fail)
 rw [← hW, ← hb]
 replace hb := Lib.hid hb
 replace hW := Lib.hid hW
 replace hx0 := Lib.hid hx0
 replace hB := Lib.hid hB
 clear tc1 tc2 tc3 tc4 tc5 tc6 tc7 tc8 tc9 tc10
 refine start_ (n := 23) (S := fun w' => w'.cell? ⟨a, 1, none⟩ = some (.int .i64 W.mode) ∧ w'.cell? ⟨a, 2, none⟩ = some (.pointer (some ⟨pm, 0, none⟩)) ∧ w'.cell? ⟨a, 3, none⟩ = some (.int .i64 W.n) ∧ w'.cell? ⟨a, 5, none⟩ = some (.slice (some ⟨t, 0, none⟩) len cap) ∧ w'.cell? ⟨t, k * 11 + 1, none⟩ = some (.int .i64 fop) ∧ w'.cell? ⟨t, k * 11 + 2, none⟩ = some (.int .i64 fln) ∧ w'.cell? ⟨t, k * 11 + 3, none⟩ = some (.int .u32 fa) ∧ w'.cell? ⟨t, k * 11 + 4, none⟩ = some (.int .u32 fb) ∧ w'.cell? ⟨t, k * 11 + 5, none⟩ = some (.int .i64 fst) ∧ w'.cell? ⟨t, k * 11 + 6, none⟩ = some (.bool fon) ∧ w'.cell? ⟨t, k * 11 + 7, none⟩ = some (.int .i64 fwc) ∧ w'.cell? ⟨t, k * 11 + 8, none⟩ = some (.int .i64 fwi) ∧ w'.cell? ⟨t, k * 11 + 9, none⟩ = some (.bool fhit) ∧ w'.cell? ⟨t, k * 11 + 10, none⟩ = some (.int .i64 fret)) (ds := [22]) #[false, false, false, false, false, false, false, false, false, false, false, false, false, false, false, false, false, false, false, false, false, false, false] (by kernel_rfl) rfl rfl ⟨c1, c2, c3, c5, t1, t2, t3, t4, t5, t6, t7, t8, t9, t10⟩ (fun hHeld => ?_)
 refine pu_ 0 5 (mk 23 1) rfl rfl ?_
 refine pu_ 1 6 (mk 23 3) rfl rfl ?_
 refine pu_ 2 7 (mk 23 7) rfl rfl ?_
 refine pu_ 4 9 (mk 23 23) rfl rfl ?_
 refine pu_ 5 10 (mk 23 55) rfl rfl ?_
 refine pu_ 6 11 (mk 23 119) rfl rfl ?_
 refine pu_ 8 13 (mk 23 375) rfl rfl ?_
 refine pu_ 9 14 (mk 23 887) rfl rfl ?_
 refine pu_ 10 15 (mk 23 1911) rfl rfl ?_
 refine pu_ 12 17 (mk 23 6007) rfl rfl ?_
 refine pu_ 13 18 (mk 23 14199) rfl rfl ?_
 refine pu_ 14 19 (mk 23 30583) rfl rfl ?_
 refine pu_ 15 20 (mk 23 63351) rfl rfl ?_
 refine pu_ 17 22 (mk 23 194423) rfl rfl ?_
 refine take_ (i := 3) (N := some 8) (v := ?_) (a' := ?_) (mk 23 194431) rfl rfl (by kernel_rfl) (fun _ _ _ h => h) (Or.inl ⟨by rfl, ?_⟩) hHeld ?_ ?_
 rotate_left
 ·exact e159
 rotate_left
 ·exact e4
 refine take_ (i := 7) (N := some 12) (v := ?_) (a' := ?_) (mk 23 194559) rfl rfl (by kernel_rfl) (fun _ _ _ h => h) (Or.inl ⟨by rfl, ?_⟩) hHeld ?_ ?_
 rotate_left
 ·exact e159
 rotate_left
 ·exact e4
 refine take_ (i := 11) (N := some 16) (v := ?_) (a' := ?_) (mk 23 196607) rfl rfl (by kernel_rfl) (fun _ _ _ h => h) (Or.inl ⟨by rfl, ?_⟩) hHeld ?_ ?_
 rotate_left
 ·exact e159
 rotate_left
 ·exact e4
 refine take_ (i := 16) (N := some 21) (v := ?_) (a' := ?_) (mk 23 262143) rfl rfl (by kernel_rfl) (fun _ _ _ h => h) (Or.inl ⟨by rfl, ?_⟩) hHeld ?_ ?_
 rotate_left
 ·exact e159
 rotate_left
 ·exact e4
 refine pu_ 18 23 (mk 23 524287) rfl rfl ?_
 refine pu_ 19 24 (mk 23 1048575) rfl rfl ?_
 refine take_ (i := 20) (N := some 25) (v := ?_) (a' := ?_) (mk 23 2097151) rfl rfl (by kernel_rfl) (fun _ _ _ h => h) (Or.inl ⟨by rfl, ?_⟩) hHeld ?_ ?_
 rotate_left
 ·exact e159
 rotate_left
 ·exact e4
 refine pu_ 21 26 (mk 23 4194303) rfl rfl ?_
 refine last_ (i := 22) (N := none) (mk 23 8388607) rfl rfl (by kernel_rfl) (by decide) (fun K hK => ?_)
 refine skip_ (by rfl) rfl (store_run' rfl rfl rfl (run_store_run 99 (.agg #[.pointer (some ⟨pm, 0, none⟩), .int .i64 W.n, .int .i64 W.mode, .int .i64 k, .int .i64 fop, .int .i64 fln, .int .u32 fa, .int .u32 fb, .int .i64 fst, .bool fon, .int .i64 fwc, .int .i64 fwi, .bool fhit, .int .i64 fret, .int .i64 0, .int .i64 0, .int .u32 0, .int .u32 0, .int .u32 0, .slice none 0 0]) [.pointer (some ⟨pm, 0, none⟩), .int .i64 W.n, .int .i64 W.mode, .int .i64 k, .int .i64 fop, .int .i64 fln, .int .u32 fa, .int .u32 fb, .int .i64 fst, .bool fon, .int .i64 fwc, .int .i64 fwi, .bool fhit, .int .i64 fret, .int .i64 0, .int .i64 0, .int .u32 0, .int .u32 0, .int .u32 0, .slice none 0 0] (o := 0) (blk_drew hx0.out) (by rfl) (by kernel_rfl) (Nat.le_refl _) (by simp [Value.oneCell']))) ?_
 refine hK.out _ _ ?_
 clear hK K
 refine done_ (by kernel_rfl) ?_
 have h2 := blk_setAll (blk_drew hx0.out) [.pointer (some ⟨pm, 0, none⟩), .int .i64 W.n, .int .i64 W.mode, .int .i64 k, .int .i64 fop, .int .i64 fln, .int .u32 fa, .int .u32 fb, .int .i64 fst, .bool fon, .int .i64 fwc, .int .i64 fwi, .bool fhit, .int .i64 fret, .int .i64 0, .int .i64 0, .int .u32 0, .int .u32 0, .int .u32 0, .slice none 0 0] (by rfl)
 have b0 := hB.out.drew.setCells b 0 (.inr (by omega)) [.pointer (some ⟨pm, 0, none⟩), .int .i64 W.n, .int .i64 W.mode, .int .i64 k, .int .i64 fop, .int .i64 fln, .int .u32 fa, .int .u32 fb, .int .i64 fst, .bool fon, .int .i64 fwc, .int .i64 fwi, .bool fhit, .int .i64 fret, .int .i64 0, .int .i64 0, .int .u32 0, .int .u32 0, .int .u32 0, .slice none 0 0]
 go_wp2
 (try simp only [Exit.inBlock, Exit.then])
 refine bodyPost_ret (results_single rfl (.cell b 99 #[.pointer (some ⟨pm, 0, none⟩), .int .i64 W.n, .int .i64 W.mode, .int .i64 k, .int .i64 fop, .int .i64 fln, .int .u32 fa, .int .u32 fb, .int .i64 fst, .bool fon, .int .i64 fwc, .int .i64 fwi, .bool fhit, .int .i64 fret, .int .i64 0, .int .i64 0, .int .u32 0, .int .u32 0, .int .u32 0, .slice none 0 0] (0, 0) _ rfl h2 Tryz.underlying99 rfl (by kernel_rfl) .nil)) rfl ?_
 exact ⟨rfl, b0.os, b0.tape, b0.output, b0.size, fun k hk => b0.block k hk (Nat.ne_of_lt hk)⟩
set_option maxHeartbeats 2000000 in
theorem stuck_walk (h : Wd w a pm g t kf W) (i : Int) : Calls Tryz.prog 15 #[.pointer (some ⟨a, 0, none⟩), .int .i64 i] w fun e w' => e = .returned (.bool (Stile.stuck W i)) ∧ Wd w' a pm g t kf W ∧ Bt g t w w' := by
 have hb := busy_walk h i
 unfold Stile.stuck
 by_cases hz : busy W i = 0
 ·have bz : (busy W i != 0) = false := by simp [hz]
  rw [decide_eq_false (fun k => k hz)]
  generalize busy W i = x at bz hb
  replace h := Lib.hid h
  replace hz := Lib.hid hz
  replace hb := Lib.hid hb
  go_enter Tryz.func15, Tryz.ntmps15
  go_wp2_with (go_at_call 22; refine hb.out.mono ?_; rintro e w1 ⟨rfl, rfl⟩)
  go_ret
  exact ⟨rfl, h.out, Bt.refl _ _ _⟩
 ·have bz : (busy W i != 0) = true := bne_iff_ne.mpr hz
  have hi : there W i := by
   unfold busy at hz
   by_cases hi : there W i
   ·exact hi
   ·rw [if_neg hi] at hz
    exact absurd rfl hz
  rw [decide_eq_true hz]
  generalize busy W i = x at bz hb
  have hlen : i.toNat < W.t.length := by unfold there at hi; omega
  have hi0 : ((i.toNat : Nat) : Int) = i := by unfold there at hi; omega
  have hr := run_walk h i.toNat hlen
  rw [hi0] at hr
  replace hz := Lib.hid hz
  replace hb := Lib.hid hb
  have hs := fun W' (hW' : Wd W' a pm g t kf W) => lstuck_walk (r := runAt W i) hW'.mem (.slice none 0 0)
  generalize stuckRun (runAt W i) = z at hs ⊢
  generalize runCells (runAt W i) pm (.slice none 0 0) = cs at hs hr
  replace hs := Lib.hid hs
  replace hr := Lib.hid hr
  replace h := Lib.hid h
  clear hi0 hlen
  replace hi := Lib.hid hi
  go_enter Tryz.func15, Tryz.ntmps15
  go_wp2_with (first
   | (go_at_call 22; refine hb.out.mono ?_; rintro e w1 ⟨rfl, rfl⟩)
   | (go_at_call 42; go_must (refine hr.out.mono ?_; rintro e w1 ⟨rfl, hb1⟩; have h1 := Lib.hid (h.out.below hb1); have f1 := Lib.hid (Bt.of_below (g := g) (t := t) hb1); clear hb1))
   | (go_at_call 41; go_must (refine (hs.out _ h1.out).mono ?_; rintro e w2 ⟨rfl, hm2, hB2⟩; have h2 := Lib.hid (h1.out.but hm2 hB2); have f2 := Lib.hid (f1.out.trans (Bt.of_but hB2)); clear hm2 hB2)))
  go_ret
  exact ⟨rfl, h2.out, f2.out⟩
end Go.Proofs.YtkmlefbdhdlfmaaGreat.Wo
