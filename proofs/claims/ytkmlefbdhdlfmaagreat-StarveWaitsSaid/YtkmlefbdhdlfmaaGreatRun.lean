/- A task's run, and how it is read and written: function by function, against the plain texts. -/
import Derived.Test.YtkmlefbdhdlfmaaGreatMem
import Derived.Test.YtkmlefbdhdlfmaaGreatOk
namespace Go.Proofs.YtkmlefbdhdlfmaaGreat.Wo
open Go.RowKit Go.Proofs.YtkmlefbdhdlfmaaGreatW.PrintWords Go.Proofs.YtkmlefbdhdlfmaaGreatW.PrintMore Go.Proofs.YtkmlefbdhdlfmaaGreatW.PrintLast
open Stile
set_option linter.unusedSimpArgs false
set_option linter.unusedVariables false
set_option maxRecDepth 100000
def nt (x : Note) : Int × Int × Int × Int := (x.task, x.what, x.op, x.arg)
abbrev nk : Kd Note := Kd.iso (Kd.pair (Kd.int .i64) (Kd.pair (Kd.int .i64) (Kd.pair (Kd.int .i64) (Kd.int .i64)))) nt
def runCells (r : Run) (pm : Nat) (nv : Value) : Array Value := #[.pointer (some ⟨pm, 0, none⟩), .int .i64 r.n, .int .i64 r.mode, .int .i64 r.task, .int .i64 r.f.op, .int .i64 r.f.line, .int .u32 r.f.a, .int .u32 r.f.b, .int .i64 r.f.stage, .bool r.f.on, .int .i64 r.f.wc, .int .i64 r.f.wi, .bool r.f.hit, .int .i64 r.f.ret, .int .i64 r.acc.kind, .int .i64 r.acc.cell, .int .u32 r.acc.x, .int .u32 r.acc.y, .int .u32 r.acc.old, nv]
structure Fr (B p g : Nat) (w w1 : World) : Prop where
 os : w1.os = w.os
 tape : w1.tape = w.tape
 output : w1.output = w.output
 size : w.heap.size ≤ w1.heap.size
 block : ∀ k o, w.heap[k]? = some o → k ≠ p → k ≠ g → (k < B ∨ ∀ cs fr, o ≠ .cells cs 44 fr) → w1.heap[k]? = some o
variable {w w1 w2 : World} {B p pm g : Nat} {r r1 : Run}
theorem Fr.refl (B p g : Nat) (w : World) : Fr B p g w w := ⟨rfl, rfl, rfl, Nat.le_refl _, fun _ _ h _ _ _ => h⟩
theorem Fr.trans (h : Fr B p g w w1) (k : Fr B p g w1 w2) : Fr B p g w w2 :=
 ⟨k.os.trans h.os, k.tape.trans h.tape, k.output.trans h.output, Nat.le_trans h.size k.size, fun b o hb h1 h2 h3 => k.block b o (h.block b o hb h1 h2 h3) h1 h2 h3⟩
theorem Fr.of_but (h : But g w w1) : Fr B p g w w1 := ⟨h.os, h.tape, h.output, h.size, fun b o hb _ h2 _ => (h.block b (blk_lt hb) h2).trans hb⟩
theorem Fr.of_below (h : Below w.heap.size w w1) : Fr B p g w w1 := Fr.of_but (But.of_below h)
theorem Fr.alloc (h : Fr B p g w w1) (o : Obj) : Fr B p g w (w1.alloc o) := h.trans (Fr.of_below (below_alloc (Below.refl _ _) o))
theorem Fr.drew (h : Fr B p g w w1) : Fr B p g w w1.drew := ⟨h.os, h.tape, h.output, h.size, h.block⟩
theorem Fr.set (h : Fr B p g w w1) (a : Addr) (ha : a.block = p ∨ a.block = g ∨ w.heap.size ≤ a.block) (v : Value) : Fr B p g w (w1.setCell a v) :=
 ⟨h.os, h.tape, h.output, by simpa [World.setCell] using h.size, fun b o hb h1 h2 h3 => (Below.heap_setCell w1 a v b (by have := blk_lt hb; rcases ha with e | e | e <;> omega)).trans (h.block b o hb h1 h2 h3)⟩
theorem Fr.keep (h : Fr B p g w w1) {k : Nat} {cs : Array Value} {t : TypeId} (hk : w.heap[k]? = some (.cells cs t (0, 0))) (h1 : k ≠ p) (h2 : k ≠ g) (ht : t ≠ 44) : w1.heap[k]? = some (.cells cs t (0, 0)) :=
 h.block k _ hk h1 h2 (.inr (fun cs' fr e => ht (by cases e; rfl)))
structure At (B : Nat) (w : World) (p pm g : Nat) (r : Run) : Prop where
 lo : pm < B ∧ g < B ∧ B ≤ p
 head : ∃ nv, w.heap[p]? = some (.cells (runCells r pm nv) 99 (0, 0)) ∧ nk.R 44 w B (fun k => k ≠ p) nv r.notes
 mem : Mm w pm g r.l
theorem At.lt (h : At B w p pm g r) : p < w.heap.size := by
 obtain ⟨nv, hp, _⟩ := h.head
 exact blk_lt hp
theorem At.cell (h : At B w p pm g r) (j : Nat) {v : Value} (hj : ∀ nv, (runCells r pm nv)[j]? = some v) : w.cell? ⟨p, j, none⟩ = some v := by
 obtain ⟨nv, hp, _⟩ := h.head
 exact cell_of_heap hp (hj nv)
theorem At.frozen (h : At B w p pm g r) (j : Nat) : w.frozen? ⟨p, j, none⟩ = false := by
 obtain ⟨nv, hp, _⟩ := h.head
 exact blk_frozen hp j
theorem At.ne (h : At B w p pm g r) : p ≠ pm ∧ p ≠ g := by
 have := h.lo
 omega
theorem At.mem_to (h : At B w p pm g r) {l : List Int} (hm : Mm w1 pm g l) (hb : But g w w1) : At B w1 p pm g { r with l := l } := by
 have hn := h.ne
 have hlo := h.lo
 obtain ⟨nv, hp, hR⟩ := h.head
 refine ⟨h.lo, ⟨nv, (hb.block p (blk_lt hp) hn.2).trans hp, ?_⟩, hm⟩
 exact Kd.R_mono (Kd.R_step (Kd.R_bound hR) (fun k hk hlt => hb.block k hlt (by have := hk.2.1; omega))) (fun k hk => hk.1)
theorem At.below (h : At B w p pm g r) (hb : Below w.heap.size w w1) : At B w1 p pm g r := h.mem_to (h.mem.below hb) (But.of_below hb)
theorem At.alloc (h : At B w p pm g r) (o : Obj) : At B (w.alloc o) p pm g r := h.below (below_alloc (Below.refl _ _) o)
theorem At.drew (h : At B w p pm g r) : At B w.drew p pm g r := h.below (below_drew (Below.refl _ _))
theorem At.drewN (h : At B w p pm g r) (n : Nat) : At B (w.drewN n) p pm g r := h.below ⟨rfl, rfl, rfl, Nat.le_refl _, fun _ _ => rfl⟩
theorem Fr.drewN (h : Fr B p g w w1) (n : Nat) : Fr B p g w (w1.drewN n) := ⟨h.os, h.tape, h.output, h.size, h.block⟩
theorem At.store (h : At B w p pm g r) (j : Nat) (v : Value) (r1 : Run) (hc : ∀ nv, (runCells r pm nv).setIfInBounds j v = runCells r1 pm nv) (hl : r1.l = r.l) (hn : r1.notes = r.notes) : At B (w.setCell ⟨p, j, none⟩ v) p pm g r1 := by
 have hne := h.ne
 have hm := h.mem.far ⟨p, j, none⟩ (by show p ≠ pm; omega) (by show p ≠ g; omega) v
 obtain ⟨nv, hp, hR⟩ := h.head
 refine ⟨h.lo, ⟨nv, ?_, ?_⟩, by rw [hl]; exact hm⟩
 ·rw [← hc nv]
  exact blk_set hp j v
 ·rw [hn]
  exact Kd.R_far hR (p := ⟨p, j, none⟩) (fun k hk => hk) v
theorem At.far (h : At B w p pm g r) {a : Addr} {cs : Array Value} {t : TypeId} (ha : w.heap[a.block]? = some (.cells cs t (0, 0))) (ht : t ≠ 44) (h1 : a.block ≠ p) (h2 : a.block ≠ pm) (h3 : a.block ≠ g) (v : Value) : At B (w.setCell a v) p pm g r := by
 have hm := h.mem.far a h2 h3 v
 obtain ⟨nv, hp, hR⟩ := h.head
 refine ⟨h.lo, ⟨nv, blk_far hp (Ne.symm h1) v, ?_⟩, hm⟩
 refine Kd.R_mono (Kd.R_far (Kd.R_types hR ha (fun q hq => ?_)) (p := a) (fun k hk => hk.2) v) (fun k hk => hk.1)
 simp [Kd.pair, Kd.int, Kd.scalar, Kd.iso] at hq
 rw [hq]
 exact Ne.symm ht
def putAcc (w : World) (p : Nat) (a : Acc) : World := ((((w.setCell ⟨p, 14, none⟩ (.int .i64 a.kind)).setCell ⟨p, 15, none⟩ (.int .i64 a.cell)).setCell ⟨p, 16, none⟩ (.int .u32 a.x)).setCell ⟨p, 17, none⟩ (.int .u32 a.y)).setCell ⟨p, 18, none⟩ (.int .u32 a.old)
theorem At.putAcc (h : At B w p pm g r) (a : Acc) : At B (putAcc w p a) p pm g { r with acc := a } := by
 have h1 := h.store 14 (.int .i64 a.kind) { r with acc := ⟨a.kind, r.acc.cell, r.acc.x, r.acc.y, r.acc.old⟩ } (fun _ => rfl) rfl rfl
 have h2 := h1.store 15 (.int .i64 a.cell) { r with acc := ⟨a.kind, a.cell, r.acc.x, r.acc.y, r.acc.old⟩ } (fun _ => rfl) rfl rfl
 have h3 := h2.store 16 (.int .u32 a.x) { r with acc := ⟨a.kind, a.cell, a.x, r.acc.y, r.acc.old⟩ } (fun _ => rfl) rfl rfl
 have h4 := h3.store 17 (.int .u32 a.y) { r with acc := ⟨a.kind, a.cell, a.x, a.y, r.acc.old⟩ } (fun _ => rfl) rfl rfl
 exact h4.store 18 (.int .u32 a.old) { r with acc := a } (fun _ => rfl) rfl rfl
theorem Fr.putAcc (h : Fr B p g w w1) (a : Acc) : Fr B p g w (putAcc w1 p a) :=
 ((((h.set ⟨p, 14, none⟩ (.inl rfl) _).set ⟨p, 15, none⟩ (.inl rfl) _).set ⟨p, 16, none⟩ (.inl rfl) _).set ⟨p, 17, none⟩ (.inl rfl) _).set ⟨p, 18, none⟩ (.inl rfl) _
theorem putAcc_far (w : World) (p : Nat) (a : Acc) (k : Nat) (hk : k ≠ p) : (putAcc w p a).heap[k]? = w.heap[k]? := by
 unfold Wo.putAcc
 rw [Below.heap_setCell _ _ _ _ hk, Below.heap_setCell _ _ _ _ hk, Below.heap_setCell _ _ _ _ hk, Below.heap_setCell _ _ _ _ hk, Below.heap_setCell _ _ _ _ hk]
set_option maxHeartbeats 2000000 in
theorem do_run (h : At B w p pm g r) (k c x y : Int) (hk : 1 ≤ k ∧ k ≤ 5) : Calls Tryz.prog 149 #[.pointer (some ⟨p, 0, none⟩), .agg #[.int .i64 k, .int .i64 c, .int .u32 x, .int .u32 y, .int .u32 0]] w fun e w' => e = .returned (accV (doAcc r.l k c x y).1) ∧ At B w' p pm g (r.acs k c x y) ∧ Fr B p g w w' := by
 obtain ⟨W, hW⟩ : ∃ W, W = (w.alloc (.cells #[.int .i64 k, .int .i64 c, .int .u32 x, .int .u32 y, .int .u32 0] 38)).alloc (.cells #[.int .i64 0, .int .i64 0, .int .u32 0, .int .u32 0, .int .u32 0] 38) := ⟨_, rfl⟩
 obtain ⟨b, hb⟩ : ∃ b, b = w.heap.size := ⟨_, rfl⟩
 have hA : At B W p pm g r := by rw [hW]; exact (h.alloc _).alloc _
 have hB : Fr B p g w W := by rw [hW]; exact ((Fr.refl B p g w).alloc _).alloc _
 have hb0 : W.heap[b]? = some (.cells #[.int .i64 k, .int .i64 c, .int .u32 x, .int .u32 y, .int .u32 0] 38 (0, 0)) := by rw [hW, hb]; exact blk_alloc (heap_alloc_new _ _) _
 have hb1 : W.heap[b + 1]? = some (.cells #[.int .i64 0, .int .i64 0, .int .u32 0, .int .u32 0, .int .u32 0] 38 (0, 0)) := by
  rw [hW, hb]
  have := heap_alloc_new (w.alloc (.cells #[.int .i64 k, .int .i64 c, .int .u32 x, .int .u32 y, .int .u32 0] 38)) (.cells #[.int .i64 0, .int .i64 0, .int .u32 0, .int .u32 0, .int .u32 0] 38)
  simpa using this
 have hlo := h.lo
 have hlt := h.lt
 have hg2 : b + 1 ≠ g := by omega
 have hg3 : b ≠ g := by omega
 have hm2 : b + 1 ≠ pm := by omega
 have hp2 : b + 1 ≠ p := by omega
 have hbs : w.heap.size ≤ b := Nat.le_of_eq hb.symm
 have hd := do_walk hA.drew.mem k c x y 0 hk
 obtain ⟨a, ha⟩ : ∃ a, a = (doAcc r.l k c x y).1 := ⟨_, rfl⟩
 obtain ⟨ok, hok⟩ : ∃ ok, ok = (doAcc r.l k c x y).2.1 := ⟨_, rfl⟩
 obtain ⟨l1, hl1⟩ : ∃ l1, l1 = (doAcc r.l k c x y).2.2 := ⟨_, rfl⟩
 have hr : r.acs k c x y = { r with acc := a, l := l1 } := by unfold Run.acs; rw [← ha, ← hl1]
 rw [← ha, ← hok, ← hl1] at hd
 rw [hr, ← ha]
 clear ha hok hl1 hr
 obtain ⟨a0, a1, a2, a3, a4⟩ := a
 unfold accV at *
 have c0 := hA.drew.cell 0 (fun _ => rfl)
 have q0 := cell_of_heap (j := 0) (blk_drew hb0) rfl
 have q1 := cell_of_heap (j := 1) (blk_drew hb0) rfl
 have q2 := cell_of_heap (j := 2) (blk_drew hb0) rfl
 have q3 := cell_of_heap (j := 3) (blk_drew hb0) rfl
 have q4 := cell_of_heap (j := 4) (blk_drew hb0) rfl
 go_enter Tryz.func149, Tryz.ntmps149
 go_upto_region 1 with (fail)
 rw [← hW, ← hb]
 replace h := Lib.hid h
 replace hb := Lib.hid hb
 replace hW := Lib.hid hW
 replace hA := Lib.hid hA
 replace hB := Lib.hid hB
 replace hb0 := Lib.hid hb0
 replace hb1 := Lib.hid hb1
 replace hbs := Lib.hid hbs
 replace hd := Lib.hid hd
 clear hlo hlt hk
 go_upto_region 2 with (fail)
 refine start_ (n := 13) (S := fun w' => w'.cell? ⟨p, 0, none⟩ = some (.pointer (some ⟨pm, 0, none⟩)) ∧ w'.cell? ⟨b, 0, none⟩ = some (.int .i64 k) ∧ w'.cell? ⟨b, 1, none⟩ = some (.int .i64 c) ∧ w'.cell? ⟨b, 2, none⟩ = some (.int .u32 x) ∧ w'.cell? ⟨b, 3, none⟩ = some (.int .u32 y) ∧ w'.cell? ⟨b, 4, none⟩ = some (.int .u32 0)) (ds := [12]) #[false, false, false, false, false, false, false, false, false, false, false, false, false] (by kernel_rfl) rfl rfl ⟨c0, q0, q1, q2, q3, q4⟩ (fun hHeld => ?_)
 refine pu_ 0 8 (mk 13 1) rfl rfl ?_
 refine pu_ 1 9 (mk 13 3) rfl rfl ?_
 refine pu_ 2 10 (mk 13 7) rfl rfl ?_
 refine pu_ 3 11 (mk 13 15) rfl rfl ?_
 refine take_ (i := 4) (N := some 12) (v := ?_) (a' := ?_) (mk 13 31) rfl rfl (by kernel_rfl) (fun _ _ _ h => h) (Or.inl ⟨by rfl, ?_⟩) hHeld ?_ ?_
 rotate_left
 ·rintro w' ⟨s0, s1, s2, s3, s4, s5⟩
  go_simp
  with_reducible rfl
 rotate_left
 ·exact e4
 refine take_ (i := 5) (N := some 13) (v := ?_) (a' := ?_) (mk 13 63) rfl rfl (by kernel_rfl) (fun _ _ _ h => h) (Or.inl ⟨by rfl, ?_⟩) hHeld ?_ ?_
 rotate_left
 ·rintro w' ⟨s0, s1, s2, s3, s4, s5⟩
  go_simp
  with_reducible rfl
 rotate_left
 ·exact e4
 refine one_ (i := 6) (N := some 14) (mk 13 127) rfl rfl (by kernel_rfl) (by decide) (fun K hK => ?_)
 refine goes_ Tryz.func185 (by kernel_rfl) rfl #[.pointer (some ⟨pm, 0, none⟩), .agg #[.int .i64 k, .int .i64 c, .int .u32 x, .int .u32 y, .int .u32 0]] (by rfl) rfl rfl (by simp only [List.map_toArray, List.map_cons, List.map_nil]; rfl) ?_
 with_reducible refine (hd.out).mono ?_
 rintro e w1 ⟨rfl, hm1, hB1⟩
 refine ⟨_, rfl, ?_⟩
 have hA1 := hA.out.drew.mem_to hm1 hB1
 have hF1 := hB.out.drew.trans (Fr.of_but hB1)
 have hb2 := (hB1.block (b + 1) (blk_lt (blk_drew hb1.out)) hg2).trans (blk_drew hb1.out)
 have d14 := hA1.cell 14 (fun _ => rfl)
 have d15 := hA1.cell 15 (fun _ => rfl)
 have d16 := hA1.cell 16 (fun _ => rfl)
 have d17 := hA1.cell 17 (fun _ => rfl)
 have d18 := hA1.cell 18 (fun _ => rfl)
 have z14 := hA1.frozen 14
 have z15 := hA1.frozen 15
 have z16 := hA1.frozen 16
 have z17 := hA1.frozen 17
 have z18 := hA1.frozen 18
 replace hA1 := Lib.hid hA1
 replace hF1 := Lib.hid hF1
 have hb3 := (hB1.block b (blk_lt (blk_drew hb0.out)) hg3).trans (blk_drew hb0.out)
 replace hb2 := Lib.hid hb2
 replace hb3 := Lib.hid hb3
 clear hm1 hB1
 refine hK.out _ _ ⟨hA1.out.cell 0 (fun _ => rfl), cell_of_heap hb3.out rfl, cell_of_heap hb3.out rfl, cell_of_heap hb3.out rfl, cell_of_heap hb3.out rfl, cell_of_heap hb3.out rfl⟩ (fun hHeld => ?_)
 clear hK K
 refine nm_ ?_
 refine pu_ 7 7 (mk 13 255) rfl rfl ?_
 refine pu_ 8 15 (mk 13 511) rfl rfl ?_
 refine pu_ 9 16 (mk 13 1023) rfl rfl ?_
 refine pu_ 10 17 (mk 13 2047) rfl rfl ?_
 refine pu_ 11 18 (mk 13 4095) rfl rfl ?_
 refine last_ (i := 12) (N := none) (mk 13 8191) rfl rfl (by kernel_rfl) (by decide) (fun K hK => ?_)
 refine skip_ (w1 := ?_) (by rfl) rfl ?_ ?_
 rotate_left
 ·go_simp
  rfl
 refine hK.out _ _ ?_
 clear hK K
 refine done_ (by kernel_rfl) ?_
 have hA2 := hA1.out.putAcc ⟨a0, a1, a2, a3, a4⟩
 have hF2 := hF1.out.putAcc ⟨a0, a1, a2, a3, a4⟩
 have hb4 := (putAcc_far w1 p ⟨a0, a1, a2, a3, a4⟩ (b + 1) hp2).trans hb2.out
 obtain ⟨W3, hW3⟩ : ∃ W3, W3 = putAcc w1 p ⟨a0, a1, a2, a3, a4⟩ := ⟨_, rfl⟩
 unfold putAcc at hW3
 rw [← hW3]
 change W3 = putAcc w1 p ⟨a0, a1, a2, a3, a4⟩ at hW3
 rw [← hW3] at hA2 hF2 hb4
 clear hW3 c0 q0 q1 q2 q3 q4 d14 d15 d16 d17 d18 z14 z15 z16 z17 z18
 have d14 := hA2.cell 14 (fun _ => rfl)
 have d15 := hA2.cell 15 (fun _ => rfl)
 have d16 := hA2.cell 16 (fun _ => rfl)
 have d17 := hA2.cell 17 (fun _ => rfl)
 have d18 := hA2.cell 18 (fun _ => rfl)
 have p0 := cell_of_heap (j := 0) hb4 rfl
 have p1 := cell_of_heap (j := 1) hb4 rfl
 have p2 := cell_of_heap (j := 2) hb4 rfl
 have p3 := cell_of_heap (j := 3) hb4 rfl
 have p4 := cell_of_heap (j := 4) hb4 rfl
 have y0 := blk_frozen hb4 0
 have y1 := blk_frozen hb4 1
 have y2 := blk_frozen hb4 2
 have y3 := blk_frozen hb4 3
 have y4 := blk_frozen hb4 4
 replace hA2 := Lib.hid hA2
 replace hF2 := Lib.hid hF2
 replace hb4 := Lib.hid hb4
 go_wp2
 have e0 := hb4.out
 have ae0 := hA2.out
 have b0 := hF2.out
 have e1 := blk_set e0 0 (.int .i64 a0)
 have ae1 := ae0.far (a := ⟨b + 1, 0, none⟩) e0 (by decide) hp2 hm2 hg2 (.int .i64 a0)
 have b1 := b0.set ⟨b + 1, 0, none⟩ (by right; right; have := hbs.out; show w.heap.size ≤ b + 1; omega) (.int .i64 a0)
 have e2 := blk_set e1 1 (.int .i64 a1)
 have ae2 := ae1.far (a := ⟨b + 1, 1, none⟩) e1 (by decide) hp2 hm2 hg2 (.int .i64 a1)
 have b2 := b1.set ⟨b + 1, 1, none⟩ (by right; right; have := hbs.out; show w.heap.size ≤ b + 1; omega) (.int .i64 a1)
 have e3 := blk_set e2 2 (.int .u32 a2)
 have ae3 := ae2.far (a := ⟨b + 1, 2, none⟩) e2 (by decide) hp2 hm2 hg2 (.int .u32 a2)
 have b3 := b2.set ⟨b + 1, 2, none⟩ (by right; right; have := hbs.out; show w.heap.size ≤ b + 1; omega) (.int .u32 a2)
 have e4 := blk_set e3 3 (.int .u32 a3)
 have ae4 := ae3.far (a := ⟨b + 1, 3, none⟩) e3 (by decide) hp2 hm2 hg2 (.int .u32 a3)
 have b4 := b3.set ⟨b + 1, 3, none⟩ (by right; right; have := hbs.out; show w.heap.size ≤ b + 1; omega) (.int .u32 a3)
 have e5 := blk_set e4 4 (.int .u32 a4)
 have ae5 := ae4.far (a := ⟨b + 1, 4, none⟩) e4 (by decide) hp2 hm2 hg2 (.int .u32 a4)
 have b5 := b4.set ⟨b + 1, 4, none⟩ (by right; right; have := hbs.out; show w.heap.size ≤ b + 1; omega) (.int .u32 a4)
 (try simp only [Exit.inBlock, Exit.then])
 refine bodyPost_ret (results_single rfl (.cell (b + 1) 38 #[.int .i64 a0, .int .i64 a1, .int .u32 a2, .int .u32 a3, .int .u32 a4] (0, 0) _ rfl e5 Tryz.underlying38 rfl (by kernel_rfl) .nil)) rfl ?_
 exact ⟨rfl, ae5, b5⟩
theorem field_old (a0 a1 a2 a3 a4 : Int) (w : World) : (Instr.field 38 (.agg #[.int .i64 a0, .int .i64 a1, .int .u32 a2, .int .u32 a3, .int .u32 a4]) 4).run Tryz.prog w = .ok (.int .u32 a4) w := by kernel_rfl
theorem load_run (h : At B w p pm g r) (c : Int) : Calls Tryz.prog 112 #[.pointer (some ⟨p, 0, none⟩), .int .i64 c] w fun e w' => e = .returned (.int .u32 (r.load c).old) ∧ At B w' p pm g (r.load c) ∧ Fr B p g w w' := by
 have hd := do_run h 1 c 0 0 (by omega)
 unfold accV at hd
 have hfd := fun a0 a1 a2 a3 a4 w => field_old a0 a1 a2 a3 a4 w
 replace h := Lib.hid h
 go_enter Tryz.func112, Tryz.ntmps112
 exact e5
theorem add_run (h : At B w p pm g r) (c x : Int) : Calls Tryz.prog 104 #[.pointer (some ⟨p, 0, none⟩), .int .i64 c, .int .u32 x] w fun e w' => e = .returned (.int .u32 (r.add c x).old) ∧ At B w' p pm g (r.add c x) ∧ Fr B p g w w' := by
 have hd := do_run h 3 c x 0 (by omega)
 unfold accV at hd
 have hfd := fun a0 a1 a2 a3 a4 w => field_old a0 a1 a2 a3 a4 w
 replace h := Lib.hid h
 go_enter Tryz.func104, Tryz.ntmps104
 exact e5
theorem swp_run (h : At B w p pm g r) (c x : Int) : Calls Tryz.prog 193 #[.pointer (some ⟨p, 0, none⟩), .int .i64 c, .int .u32 x] w fun e w' => e = .returned (.int .u32 (r.swp c x).old) ∧ At B w' p pm g (r.swp c x) ∧ Fr B p g w w' := by
 have hd := do_run h 4 c x 0 (by omega)
 unfold accV at hd
 have hfd := fun a0 a1 a2 a3 a4 w => field_old a0 a1 a2 a3 a4 w
 replace h := Lib.hid h
 go_enter Tryz.func193, Tryz.ntmps193
 exact e5
theorem store_run (h : At B w p pm g r) (c x : Int) : Calls Tryz.prog 154 #[.pointer (some ⟨p, 0, none⟩), .int .i64 c, .int .u32 x] w fun e w' => e = .returned (.tuple #[]) ∧ At B w' p pm g (r.store c x) ∧ Fr B p g w w' := by
 have hd := do_run h 2 c x 0 (by omega)
 unfold accV at hd
 replace h := Lib.hid h
 go_enter Tryz.func154, Tryz.ntmps154
 go_wp2_with (go_at_call 149; refine hd.mono ?_; rintro e w1 ⟨rfl, hA1, hF1⟩; replace hA1 := Lib.hid hA1; replace hF1 := Lib.hid hF1)
 go_end0
 exact ⟨rfl, hA1.out, hF1.out⟩
theorem cas_run (h : At B w p pm g r) (c x y : Int) : Calls Tryz.prog 128 #[.pointer (some ⟨p, 0, none⟩), .int .i64 c, .int .u32 x, .int .u32 y] w fun e w' => e = .returned (.bool ((r.cas c x y).hitCas x)) ∧ At B w' p pm g (r.cas c x y) ∧ Fr B p g w w' := by
 have hd := do_run h 5 c x y (by omega)
 have hh : (r.cas c x y).hitCas x = decide ((doAcc r.l 5 c x y).1.kind = 5 ∧ (doAcc r.l 5 c x y).1.old = x) := rfl
 rw [hh]
 clear hh
 obtain ⟨a, ha⟩ : ∃ a, a = (doAcc r.l 5 c x y).1 := ⟨_, rfl⟩
 rw [← ha] at hd ⊢
 clear ha
 obtain ⟨a0, a1, a2, a3, a4⟩ := a
 unfold accV at hd
 replace h := Lib.hid h
 by_cases h5 : a0 = 5
 ·have h5b : (a0 == 5) = true := beq_iff_eq.mpr h5
  go_enter Tryz.func128, Tryz.ntmps128
  go_wp2_with (go_at_call 149; refine hd.mono ?_; rintro e w1 ⟨rfl, hA1, hF1⟩; replace hA1 := Lib.hid hA1; replace hF1 := Lib.hid hF1; replace h5 := Lib.hid h5)
  go_ret
  refine ⟨?_, hA1.out.alloc _, hF1.out.alloc _⟩
  by_cases hx : a4 = x <;> simp [h5.out, hx]
 ·have h5b : (a0 == 5) = false := beq_eq_false_iff_ne.mpr h5
  go_enter Tryz.func128, Tryz.ntmps128
  go_wp2_with (go_at_call 149; refine hd.mono ?_; rintro e w1 ⟨rfl, hA1, hF1⟩; replace hA1 := Lib.hid hA1; replace hF1 := Lib.hid hF1; replace h5 := Lib.hid h5)
  go_ret
  refine ⟨?_, hA1.out.alloc _, hF1.out.alloc _⟩
  simp [h5.out]
theorem go_run (h : At B w p pm g r) (n : Int) : Calls Tryz.prog 102 #[.pointer (some ⟨p, 0, none⟩), .int .i64 n] w fun e w' => e = .returned (.tuple #[]) ∧ At B w' p pm g (r.go n) ∧ Fr B p g w w' := by
 have c5 := h.cell 5 (fun _ => rfl)
 have z5 := h.frozen 5
 have h1 := h.store 5 (.int .i64 n) (r.go n) (fun _ => rfl) rfl rfl
 have f1 := (Fr.refl B p g w).set ⟨p, 5, none⟩ (.inl rfl) (.int .i64 n)
 replace h := Lib.hid h
 replace h1 := Lib.hid h1
 replace f1 := Lib.hid f1
 go_enter Tryz.func102, Tryz.ntmps102
 go_wp2
 go_end0
 exact ⟨rfl, h1.out, f1.out⟩
theorem end_run (h : At B w p pm g r) (ok : Bool) : Calls Tryz.prog 107 #[.pointer (some ⟨p, 0, none⟩), .bool ok] w fun e w' => e = .returned (.tuple #[]) ∧ At B w' p pm g (r.fin ok) ∧ Fr B p g w w' := by
 have c13 := h.cell 13 (fun _ => rfl)
 have z13 := h.frozen 13
 have h1 := h.store 13 (.int .i64 1) (r.fin false) (fun _ => rfl) rfl rfl
 have f1 := (Fr.refl B p g w).set ⟨p, 13, none⟩ (.inl rfl) (.int .i64 1)
 cases ok with
 | false =>
  replace h := Lib.hid h
  replace h1 := Lib.hid h1
  replace f1 := Lib.hid f1
  go_enter Tryz.func107, Tryz.ntmps107
  go_wp2
  go_end0
  exact ⟨rfl, h1.out, f1.out⟩
 | true =>
  have h2 := h1.store 13 (.int .i64 2) (r.fin true) (fun _ => rfl) rfl rfl
  have f2 := f1.set ⟨p, 13, none⟩ (.inl rfl) (.int .i64 2)
  have d13 := h1.cell 13 (fun _ => rfl)
  have y13 := h1.frozen 13
  replace h := Lib.hid h
  replace h1 := Lib.hid h1
  replace f1 := Lib.hid f1
  replace h2 := Lib.hid h2
  replace f2 := Lib.hid f2
  go_enter Tryz.func107, Tryz.ntmps107
  go_wp2
  go_end0
  exact ⟨rfl, h2.out, f2.out⟩
theorem noted_at (h : At B w p pm g r) (x : Note) {nv v1 : Value} (hp : w.heap[p]? = some (.cells (runCells r pm nv) 99 (0, 0))) (hR : nk.R 44 w B (fun k => k ≠ p) nv r.notes) (hR1 : nk.R 44 w1 B (fun k => k ≠ p) v1 (r.notes ++ [x])) (hg : w.drew.grownBy w1 nv.ownBlock) :
  At B (w1.setCell ⟨p, 19, none⟩ v1) p pm g { r with notes := r.notes ++ [x] } ∧ Fr B p g w (w1.setCell ⟨p, 19, none⟩ v1) := by
 have hlo := h.lo
 have hpn : some p ≠ nv.ownBlock := fun e => hR.1 p e.symm rfl
 have hown : ∀ k, nv.ownBlock = some k → B ≤ k ∧ ∃ cells, w.heap[k]? = some (.cells cells 44 (0, 0)) := by
  intro k hk
  refine ⟨(Kd.R_bound hR).1 k hk |>.2.1, ?_⟩
  obtain ⟨inner, ho, _⟩ := hR.2
  exact own_typed ho k hk
 have hp1 : w1.heap[p]? = some (.cells (runCells r pm nv) 99 (0, 0)) := (hg.block p (blk_lt hp) hpn).trans hp
 have hlow : ∀ k, k < B → some k ≠ nv.ownBlock := fun k hk e => by have := (hown k e.symm).1; omega
 have hm1 : Mm w1 pm g r.l := h.mem.drew.of_blocks (hg.block pm h.mem.lt.1 (hlow pm hlo.1)) (hg.block g h.mem.lt.2 (hlow g hlo.2.1))
 refine ⟨⟨h.lo, ⟨v1, ?_, ?_⟩, ?_⟩, ?_⟩
 ·exact blk_set hp1 19 v1
 ·exact Kd.R_far hR1 (p := ⟨p, 19, none⟩) (fun k hk => hk) v1
 ·exact hm1.far ⟨p, 19, none⟩ (by show p ≠ pm; omega) (by show p ≠ g; omega) v1
 ·refine ⟨hg.os, hg.tape, hg.output, ?_, ?_⟩
  ·simpa [World.setCell] using hg.size
  ·intro k o hk h1 h2 h3
   have hkn : some k ≠ nv.ownBlock := by
    rcases h3 with h3 | h3
    ·exact hlow k h3
    ·intro e
     obtain ⟨_, cells, hc⟩ := hown k e.symm
     rw [hk] at hc
     exact h3 cells _ (Option.some.inj hc)
   exact (Below.heap_setCell w1 ⟨p, 19, none⟩ v1 k h1).trans ((hg.block k (blk_lt hk) hkn).trans hk)
theorem info_note : (Tryz.prog.info? 44).map (fun i => (i.zero, i.size, i.bytes)) = some (some (.agg #[.int .i64 0, .int .i64 0, .int .i64 0, .int .i64 0]), 4, 32) := by kernel_rfl
theorem nk_M {w : World} {B : Nat} {ok : Nat → Prop} (x : Note) : nk.M w B ok x [.int .i64 x.task, .int .i64 x.what, .int .i64 x.op, .int .i64 x.arg] := ⟨_, _, rfl, rfl, ⟨_, _, rfl, rfl, ⟨_, _, rfl, rfl, rfl⟩⟩⟩
set_option maxHeartbeats 2000000 in
theorem note_run (h : At B w p pm g r) (what arg : Int) (hn : r.notes.length ≤ 1000) : Calls Tryz.prog 105 #[.pointer (some ⟨p, 0, none⟩), .int .i64 what, .int .i64 arg] w fun e w' => e = .returned (.tuple #[]) ∧ At B w' p pm g (r.note what arg) ∧ Fr B p g w w' := by
 have hd : r.note what arg = { r with notes := r.notes ++ [⟨r.task, what, 0, arg⟩] } := rfl
 rw [hd]
 clear hd
 have hlo := h.lo
 have hltp := h.lt
 have c3 := h.drew.cell 3 (fun _ => rfl)
 obtain ⟨nv, hp, hR⟩ := h.head
 have c19 := cell_of_heap (w := w.drew) (j := 19) hp rfl
 have hpn : some p ≠ nv.ownBlock := fun e => hR.1 p e.symm rfl
 replace h := Lib.hid h
 replace hR := Lib.hid hR
 replace hp := Lib.hid hp
 replace hn := Lib.hid hn
 go_enter Tryz.func105, Tryz.ntmps105
 go_upto_region 1 with (fail)
 refine start_ (n := 17) (S := fun w' => w'.cell? ⟨p, 19, none⟩ = some nv ∧ w'.cell? ⟨p, 3, none⟩ = some (.int .i64 r.task)) (ds := [16]) #[false, false, false, false, false, false, false, false, false, false, false, false, false, false, false, false, false] (by kernel_rfl) rfl rfl ⟨c19, c3⟩ (fun hHeld => ?_)
 refine pu_ 0 8 (mk 17 1) rfl rfl ?_
 refine pu_ 1 9 (mk 17 3) rfl rfl ?_
 refine pu_ 2 10 (mk 17 7) rfl rfl ?_
 refine pu_ 3 11 (mk 17 15) rfl rfl ?_
 refine pu_ 5 13 (mk 17 47) rfl rfl ?_
 refine pu_ 6 14 (mk 17 111) rfl rfl ?_
 refine pu_ 7 15 (mk 17 239) rfl rfl ?_
 refine pu_ 9 17 (mk 17 751) rfl rfl ?_
 refine pu_ 10 18 (mk 17 1775) rfl rfl ?_
 refine tk2_ 4 12 (mk 17 1791) rfl rfl hHeld ?_
 refine tk2_ 8 16 (mk 17 2047) rfl rfl hHeld ?_
 refine pu_ 11 19 (mk 17 4095) rfl rfl ?_
 refine one_ (i := 12) (N := some 20) (mk 17 8191) rfl rfl (by kernel_rfl) (by decide) (fun K hK => ?_)
 refine value_ (w1 := ?_) (v := ?_) (by rfl) rfl ?_ ?_
 rotate_left 2
 ·go_simp
  constructor
  ·rfl
  ·rfl
 have hp2 := (Below.heap_alloc w.drew (.cells #[.int .i64 r.task, .int .i64 what, .int .i64 0, .int .i64 arg] 44) p hltp).trans hp.out
 refine hK.out _ _ ⟨cell_of_heap hp2 rfl, cell_of_heap hp2 rfl⟩ (fun hHeld => ?_)
 clear hK K
 refine nm_ ?_
 refine one_ (i := 13) (N := some 21) (mk 17 16383) rfl rfl (by kernel_rfl) (by decide) (fun K hK => ?_)
 refine Kd.R_append_step nk (w0 := w.drew) (W := w.drew) B (by rfl) (.tmp 12) (.tmp 20) 39 44 (.agg #[.int .i64 0, .int .i64 0, .int .i64 0, .int .i64 0]) 32 rfl Tryz.underlying39 info_note rfl (by decide) (by decide) nv r.notes ⟨r.task, what, 0, arg⟩ [.int .i64 r.task, .int .i64 what, .int .i64 0, .int .i64 arg] (fun k => k ≠ p) (fun _ => False) rfl rfl ?aP (fun _ hk => hk.elim) ?aF ?aO ?aB ?aS ?aL ?_
 case aP => exact nk_M _
 case aF => intro k hk e; rw [e] at hk; exact absurd hltp (Nat.not_lt.mpr hk)
 case aO => exact Kd.R_drew hR.out
 case aB => exact Below.refl _ _
 case aS => show B ≤ w.heap.size; omega
 case aL => have := hn.out; omega
 intro v1 w1 hR1 hB1 hg1 hat1
 obtain ⟨A1, c1, rfl⟩ := Kd.R_slice hR1
 have hp1 := (hg1.block p hltp hpn).trans hp.out
 have d19 := cell_of_heap (j := 19) hp1 rfl
 have z19 := blk_frozen hp1 19
 replace hR1 := Lib.hid hR1
 replace hg1 := Lib.hid hg1
 replace hp1 := Lib.hid hp1
 clear hB1 hat1
 refine hK.out _ _ ⟨cell_of_heap hp1.out rfl, cell_of_heap hp1.out rfl⟩ (fun hHeld => ?_)
 clear hK K
 refine nm_ ?_
 refine pu_ 14 22 (mk 17 32767) rfl rfl ?_
 refine pu_ 15 23 (mk 17 65535) rfl rfl ?_
 refine last_ (i := 16) (N := none) (mk 17 131071) rfl rfl (by kernel_rfl) (by decide) (fun K hK => ?_)
 refine skip_ (w1 := ?_) (by rfl) rfl ?_ ?_
 rotate_left
 ·go_simp
  rfl
 refine hK.out _ _ ?_
 clear hK K
 refine done_ (by kernel_rfl) ?_
 obtain ⟨hA2, hF2⟩ := noted_at h.out ⟨r.task, what, 0, arg⟩ hp.out hR.out hR1.out hg1.out
 have hlen : (r.notes ++ [(⟨r.task, what, 0, arg⟩ : Note)]).length = r.notes.length + 1 := by simp
 rw [hlen] at hA2 hF2
 replace hA2 := Lib.hid hA2
 replace hF2 := Lib.hid hF2
 go_wp2
 go_end0
 exact ⟨rfl, hA2.out, hF2.out⟩
def wakeV (x : WakeSt) : Value := .agg #[.bool x.on, .int .i64 x.cell, .int .i64 x.i, .bool x.hit]
theorem begin_walk (mode c : Int) (w : World) : Calls Tryz.prog 150 #[.int .i64 mode, .int .i64 c] w fun e w' => e = .returned (wakeV (wakeBegin mode c)) ∧ Below w.heap.size w w' := by
 unfold wakeBegin
 by_cases hm : mode = 2
 ·rw [if_pos hm]
  have hmb : (mode != 2) = false := by simp [hm]
  replace hm := Lib.hid hm
  obtain ⟨W, hW⟩ : ∃ W, W = w.alloc (.cells #[.bool false, .int .i64 0, .int .i64 0, .bool false] 49) := ⟨_, rfl⟩
  obtain ⟨b, hb⟩ : ∃ b, b = w.heap.size := ⟨_, rfl⟩
  have hB : But w.heap.size w W := by rw [hW]; exact (But.refl _ w).alloc _
  have hb0 : W.heap[b]? = some (.cells #[.bool false, .int .i64 0, .int .i64 0, .bool false] 49 (0, 0)) := by rw [hW, hb]; exact heap_alloc_new _ _
  have p0 := cell_of_heap (j := 0) hb0 rfl
  have p1 := cell_of_heap (j := 1) hb0 rfl
  have p2 := cell_of_heap (j := 2) hb0 rfl
  have p3 := cell_of_heap (j := 3) hb0 rfl
  have y0 := blk_frozen hb0 0
  have y1 := blk_frozen hb0 1
  have y2 := blk_frozen hb0 2
  have y3 := blk_frozen hb0 3
  go_enter Tryz.func150, Tryz.ntmps150
  go_upto_region 1 with (fail)
  rw [← hW, ← hb]
  replace hb := Lib.hid hb
  replace hW := Lib.hid hW
  replace hb0 := Lib.hid hb0
  replace hB := Lib.hid hB
  go_wp2
  have e0 := hb0.out
  have b0 := hB.out
  have e1 := blk_set e0 0 (.bool true)
  have b1 := b0.set ⟨b, 0, none⟩ (.inl hb.out) (.bool true)
  have e2 := blk_set e1 1 (.int .i64 c)
  have b2 := b1.set ⟨b, 1, none⟩ (.inl hb.out) (.int .i64 c)
  have e3 := blk_set e2 2 (.int .i64 0)
  have b3 := b2.set ⟨b, 2, none⟩ (.inl hb.out) (.int .i64 0)
  have e4 := blk_set e3 3 (.bool false)
  have b4 := b3.set ⟨b, 3, none⟩ (.inl hb.out) (.bool false)
  (try simp only [Exit.inBlock, Exit.then])
  refine bodyPost_ret (results_single rfl (.cell b 49 #[.bool true, .int .i64 c, .int .i64 0, .bool false] (0, 0) _ rfl e4 Tryz.underlying49 rfl (by kernel_rfl) .nil)) rfl ?_
  exact e6
 ·rw [if_neg hm]
  have hmb : (mode != 2) = true := by simp [hm]
  replace hm := Lib.hid hm
  obtain ⟨W, hW⟩ : ∃ W, W = w.alloc (.cells #[.bool false, .int .i64 0, .int .i64 0, .bool false] 49) := ⟨_, rfl⟩
  obtain ⟨b, hb⟩ : ∃ b, b = w.heap.size := ⟨_, rfl⟩
  have hB : But w.heap.size w W := by rw [hW]; exact (But.refl _ w).alloc _
  have hb0 : W.heap[b]? = some (.cells #[.bool false, .int .i64 0, .int .i64 0, .bool false] 49 (0, 0)) := by rw [hW, hb]; exact heap_alloc_new _ _
  have p0 := cell_of_heap (j := 0) hb0 rfl
  have p1 := cell_of_heap (j := 1) hb0 rfl
  have p2 := cell_of_heap (j := 2) hb0 rfl
  have p3 := cell_of_heap (j := 3) hb0 rfl
  have y0 := blk_frozen hb0 0
  have y1 := blk_frozen hb0 1
  have y2 := blk_frozen hb0 2
  have y3 := blk_frozen hb0 3
  go_enter Tryz.func150, Tryz.ntmps150
  go_upto_region 1 with (fail)
  rw [← hW, ← hb]
  replace hb := Lib.hid hb
  replace hW := Lib.hid hW
  replace hb0 := Lib.hid hb0
  replace hB := Lib.hid hB
  go_wp2
  have e0 := hb0.out
  have b0 := hB.out
  have e1 := blk_set e0 0 (.bool false)
  have b1 := b0.set ⟨b, 0, none⟩ (.inl hb.out) (.bool false)
  have e2 := blk_set e1 1 (.int .i64 0)
  have b2 := b1.set ⟨b, 1, none⟩ (.inl hb.out) (.int .i64 0)
  have e3 := blk_set e2 2 (.int .i64 0)
  have b3 := b2.set ⟨b, 2, none⟩ (.inl hb.out) (.int .i64 0)
  have e4 := blk_set e3 3 (.bool false)
  have b4 := b3.set ⟨b, 3, none⟩ (.inl hb.out) (.bool false)
  (try simp only [Exit.inBlock, Exit.then])
  refine bodyPost_ret (results_single rfl (.cell b 49 #[.bool false, .int .i64 0, .int .i64 0, .bool false] (0, 0) _ rfl e4 Tryz.underlying49 rfl (by kernel_rfl) .nil)) rfl ?_
  exact e6
set_option maxHeartbeats 2000000 in
theorem wake_run (h : At B w p pm g r) (c : Int) : Calls Tryz.prog 106 #[.pointer (some ⟨p, 0, none⟩), .int .i64 c] w fun e w' => e = .returned (.tuple #[]) ∧ At B w' p pm g (r.wake c) ∧ Fr B p g w w' := by
 have hd : r.wake c = { r with f := { r.f with on := (wakeBegin r.mode c).on, wc := (wakeBegin r.mode c).cell, wi := (wakeBegin r.mode c).i, hit := (wakeBegin r.mode c).hit } } := rfl
 rw [hd]
 have hb := begin_walk r.mode c w
 obtain ⟨x, hx⟩ : ∃ x, x = wakeBegin r.mode c := ⟨_, rfl⟩
 rw [← hx] at hb ⊢
 clear hx hd
 obtain ⟨x0, x1, x2, x3⟩ := x
 unfold wakeV at hb
 have c2 := h.cell 2 (fun _ => rfl)
 have hlt := h.lt
 have hn := h.ne
 replace h := Lib.hid h
 go_enter Tryz.func106, Tryz.ntmps106
 go_wp2_with (go_at_call 150; refine hb.mono ?_; rintro e w1 ⟨rfl, hb1⟩; have hA1 := h.out.below hb1; have hF1 := (Fr.refl B p g w).trans (Fr.of_below hb1); clear c2; have d9 := hA1.cell 9 (fun _ => rfl); have z9 := hA1.frozen 9; have d10 := hA1.cell 10 (fun _ => rfl); have z10 := hA1.frozen 10; have d11 := hA1.cell 11 (fun _ => rfl); have z11 := hA1.frozen 11; have d12 := hA1.cell 12 (fun _ => rfl); have z12 := hA1.frozen 12; replace hA1 := Lib.hid hA1; replace hF1 := Lib.hid hF1; clear hb1; have a1 := hA1.out.store 9 (.bool x0) { r with f := { r.f with on := x0 } } (fun _ => rfl) rfl rfl; have a2 := a1.store 10 (.int .i64 x1) { r with f := { r.f with on := x0, wc := x1 } } (fun _ => rfl) rfl rfl; have a3 := a2.store 11 (.int .i64 x2) { r with f := { r.f with on := x0, wc := x1, wi := x2 } } (fun _ => rfl) rfl rfl; have a4 := a3.store 12 (.bool x3) { r with f := { r.f with on := x0, wc := x1, wi := x2, hit := x3 } } (fun _ => rfl) rfl rfl; have f4 := (((hF1.out.set ⟨p, 9, none⟩ (.inl rfl) (.bool x0)).set ⟨p, 10, none⟩ (.inl rfl) (.int .i64 x1)).set ⟨p, 11, none⟩ (.inl rfl) (.int .i64 x2)).set ⟨p, 12, none⟩ (.inl rfl) (.bool x3); replace a1 := Lib.hid a1; replace a2 := Lib.hid a2; replace a3 := Lib.hid a3; replace a4 := Lib.hid a4; replace f4 := Lib.hid f4)
 go_end0
 exact ⟨rfl, a4.out, f4.out⟩
theorem stage_walk (mode st : Int) (w : World) : Calls Tryz.prog 140 #[.int .i64 mode, .agg #[.int .i64 st]] w fun e w' => e = .returned (.int .i64 (stageOf mode st)) ∧ Below w.heap.size w w' := by
 unfold stageOf
 by_cases hm : mode = 2
 ·have hmb : (mode != 2) = false := by simp [hm]
  by_cases h0 : 0 ≤ st
  ·have h0b : decide (st < 0) = false := decide_eq_false (by omega)
   by_cases h4 : st ≤ 4
   ·have h4b : decide (st > 4) = false := decide_eq_false (by omega)
    rw [if_pos ⟨hm, h0, h4⟩]
    exact e7
   ·have h4b : decide (st > 4) = true := decide_eq_true (by omega)
    rw [if_neg (fun k => h4 k.2.2)]
    exact e7
  ·have h0b : decide (st < 0) = true := decide_eq_true (by omega)
   rw [if_neg (fun k => h0 k.2.1)]
   replace hm := Lib.hid hm
   replace h0 := Lib.hid h0
   exact e8
 ·have hmb : (mode != 2) = true := by simp [hm]
  rw [if_neg (fun k => hm k.1)]
  replace hm := Lib.hid hm
  exact e8
end Go.Proofs.YtkmlefbdhdlfmaaGreat.Wo
