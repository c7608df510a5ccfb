/- A step of a world's task: against the plain text. -/
import Derived.Test.YtkmlefbdhdlfmaaGreatWd
namespace Go.Proofs.YtkmlefbdhdlfmaaGreat.Wo
open Go.RowKit Go.Proofs.YtkmlefbdhdlfmaaGreatW.PrintWords Go.Proofs.YtkmlefbdhdlfmaaGreatW.PrintMore Go.Proofs.YtkmlefbdhdlfmaaGreatW.PrintLast
open Stile
set_option linter.unusedSimpArgs false
set_option linter.unusedVariables false
set_option maxRecDepth 100000
variable {w w1 w2 w0 V V1 : World} {a pm g t kf n b B p : Nat} {W : Stile.W} {f : Nat → Nat → Value} {l : List Int}
theorem At.start2 (h : Wd w a pm g t kf W) (hpm : pm < B) (hg : g < B) (hB : B ≤ w.heap.size) (r : Run) (hl : r.l = W.l) (hn : r.notes = []) (Z : Array Value) (vs : List Value) (hv : vs.toArray = runCells r pm (.slice none 0 0)) (hz : vs.length = Z.size) : At B ((w.alloc (.cells Z 99)).setCells w.heap.size 0 vs) w.heap.size pm g r := by
 have hlt := h.lt
 refine ⟨⟨hpm, hg, hB⟩, ⟨.slice none 0 0, ?_, by rw [hn]; exact Kd.R_nil _ _ _ _ _⟩, ?_⟩
 ·rw [← hv]
  exact blk_setAll (heap_alloc_new w _) vs hz
 ·rw [hl]
  exact (h.mem.alloc _).setCells _ _ (by omega) (by omega) vs
theorem Wd.of_blocks (h : Wd w a pm g t kf W) (e : ∀ x, x = a ∨ x = pm ∨ x = g ∨ x = t → w1.heap[x]? = w.heap[x]?) : Wd w1 a pm g t kf W := by
 obtain ⟨cap, ha⟩ := h.head
 exact ⟨⟨cap, (e a (.inl rfl)).trans ha⟩, h.mem.of_blocks (e pm (.inr (.inl rfl))) (e g (.inr (.inr (.inl rfl)))), h.tasks.of_block (e t (.inr (.inr (.inr rfl)))), h.fn⟩
theorem Wd.fr (h : Wd w a pm g t kf W) (hF : Fr B p g w w1) (hm : Mm w1 pm g l) (hpa : a ≠ p) (hpt : t ≠ p) : Wd w1 a pm g t kf { W with l := l } := by
 have hn := h.ne
 obtain ⟨cap, ha⟩ := h.head
 obtain ⟨c3, ht, hr⟩ := h.tasks.row
 exact ⟨⟨cap, hF.keep ha hpa hn.2.1 (by decide)⟩, hm, ⟨c3, hF.keep ht hpt (Ne.symm hn.2.2.2.2.1) (by decide), hr⟩, h.fn⟩
theorem R_ne {xs : List Note} {nv : Value} {ok : Nat → Prop} (hR : nk.R 44 w B ok nv xs) {x : Nat} {e : TypeId} {cells : Array Value} (hx : w.heap[x]? = some (.cells cells e (0, 0))) (he : e ≠ 44) : some x ≠ nv.ownBlock := by
 intro k
 refine ((Kd.R_types hR hx (fun q hq => ?_)).1 x k.symm).2 rfl
 simp [Kd.pair, Kd.int, Kd.scalar, Kd.iso] at hq
 rw [hq]
 exact Ne.symm he
theorem R_cellsFar {xs : List Note} {nv : Value} {ok : Nat → Prop} (hR : nk.R 44 w B ok nv xs) {x : Nat} {e : TypeId} {cells : Array Value} (hx : w.heap[x]? = some (.cells cells e (0, 0))) (he : e ≠ 44) (o : Nat) (vs : List Value) : nk.R 44 (w.setCells x o vs) B ok nv xs := by
 refine Kd.R_mono (Kd.R_step (Kd.R_types hR hx (fun q hq => ?_)) (fun k hk _ => setCells_far vs o k hk.2)) (fun k hk => hk.1)
 simp [Kd.pair, Kd.int, Kd.scalar, Kd.iso] at hq
 rw [hq]
 exact Ne.symm he
structure Lv (w0 V : World) (a pm g t kf b : Nat) (W : Stile.W) (ev : Array Value) : Prop where
 wd : Wd V a pm g t kf W
 ev : V.heap[b]? = some (.cells ev 41 (0, 0))
 bt : Bt g t w0 V
 lo : w0.heap.size ≤ b
 far : a < b ∧ pm < b ∧ g < b ∧ t < b
variable {ev : Array Value}
theorem Lv.below (h : Lv w0 V a pm g t kf b W ev) (hb : Below V.heap.size V V1) : Lv w0 V1 a pm g t kf b W ev :=
 ⟨h.wd.below hb, (hb.block b (blk_lt h.ev)).trans h.ev, h.bt.trans (Bt.of_below hb), h.lo, h.far⟩
theorem Lv.alloc (h : Lv w0 V a pm g t kf b W ev) (o : Obj) : Lv w0 (V.alloc o) a pm g t kf b W ev := h.below (below_alloc (Below.refl _ _) o)
theorem Lv.drewN (h : Lv w0 V a pm g t kf b W ev) (k : Nat) : Lv w0 (V.drewN k) a pm g t kf b W ev := h.below ⟨rfl, rfl, rfl, Nat.le_refl _, fun _ _ => rfl⟩
theorem Lv.fr (h : Lv w0 V a pm g t kf b W ev) (hF : Fr b p g V V1) (hm : Mm V1 pm g l) (hp : b < p) : Lv w0 V1 a pm g t kf b { W with l := l } ev := by
 have hf := h.far
 have hlo := h.lo
 have hlt := blk_lt h.ev
 have hb := h.bt
 refine ⟨h.wd.fr hF hm (by omega) (by omega), hF.keep h.ev (by omega) (by omega) (by decide), ⟨hF.os.trans hb.os, hF.tape.trans hb.tape, hF.output.trans hb.output, Nat.le_trans hb.size hF.size, fun k hk h1 h2 => ?_⟩, hlo, hf⟩
 have hk2 : k < V.heap.size := Nat.lt_of_lt_of_le hk hb.size
 have hk3 : V.heap[k]? = some (V.heap[k]'hk2) := Array.getElem?_eq_getElem hk2
 rw [hF.block k _ hk3 (by omega) h1 (.inl (by omega)), ← hk3]
 exact hb.block k hk h1 h2
theorem Lv.task (h : Lv w0 V a pm g t kf b W ev) (k j : Nat) (hk : k < W.t.length) (vs : List Value) (hj : j + vs.length ≤ 11) (x : Task) (hx : ∀ y, y < 11 → taskV x y = if j ≤ y ∧ y < j + vs.length then vs.getD (y - j) undef else taskV (W.t.getD k ⟨0, .zero⟩) y) : Lv w0 (V.setCells t (k * 11 + j) vs) a pm g t kf b { W with t := W.t.set k x } ev := by
 have hn := h.wd.ne
 obtain ⟨cap, ha⟩ := h.wd.head
 refine ⟨⟨⟨cap, by rw [setCells_far vs _ a hn.2.2.1, ha]; simp⟩, h.wd.mem.setCells t _ (Ne.symm hn.2.2.2.1) (Ne.symm hn.2.2.2.2.1) vs, ?_, h.wd.fn⟩, by rw [setCells_far vs _ b (by have := h.far; omega)]; exact h.ev, h.bt.setCells t _ (.inr (.inl rfl)) vs, h.lo, h.far⟩
 have := Tk.setCells k hk vs V _ j h.wd.tasks hj
 have hl : ({ W with t := W.t.set k x } : Stile.W).t.length = W.t.length := by simp
 rw [hl]
 refine this.congr fun i y hi hy => ?_
 show (if i = k ∧ j ≤ y ∧ y < j + vs.length then vs.getD (y - j) undef else taskV (W.t.getD i ⟨0, .zero⟩) y) = taskV ((W.t.set k x).getD i ⟨0, .zero⟩) y
 by_cases e : i = k
 ·subst e
  rw [show (W.t.set i x).getD i ⟨0, .zero⟩ = x from by simp [List.getD_eq_getElem?_getD, hk], hx y hy]
  simp
 ·rw [if_neg (fun q => e q.1), show (W.t.set k x).getD i ⟨0, .zero⟩ = W.t.getD i ⟨0, .zero⟩ from by simp [List.getD_eq_getElem?_getD, List.getElem?_set_ne (Ne.symm e)]]
theorem Lv.grown (h : Lv w0 V a pm g t kf b W ev) {row : Option Nat} (hg : V.grownBy V1 row) (hB : Below b V V1) (h1 : some a ≠ row) (h2 : some pm ≠ row) (h3 : some g ≠ row) (h4 : some t ≠ row) (h5 : some b ≠ row) : Lv w0 V1 a pm g t kf b W ev := by
 have hl := h.wd.lt
 have hlo := h.lo
 have hb := h.bt
 refine ⟨h.wd.of_blocks ?_, (hg.block b (blk_lt h.ev) h5).trans h.ev, ⟨hB.os.trans hb.os, hB.tape.trans hb.tape, hB.output.trans hb.output, Nat.le_trans hb.size hB.size, fun k hk q1 q2 => (hB.block k (by omega)).trans (hb.block k hk q1 q2)⟩, hlo, h.far⟩
 rintro x (rfl | rfl | rfl | rfl)
 ·exact hg.block _ hl.1 h1
 ·exact hg.block _ hl.2.1 h2
 ·exact hg.block _ hl.2.2.1 h3
 ·exact hg.block _ hl.2.2.2 h4
theorem Lv.grownR {xs : List Note} {nv : Value} {ok : Nat → Prop} (h : Lv w0 V a pm g t kf b W ev) (hR : nk.R 44 V B ok nv xs) (hg : V.grownBy V1 nv.ownBlock) (hB : Below b V V1) : Lv w0 V1 a pm g t kf b W ev := by
 obtain ⟨c1, h1⟩ := h.wd.head
 obtain ⟨c2, h2⟩ := h.wd.mem.head
 obtain ⟨c3, h3, _⟩ := h.wd.mem.row
 obtain ⟨c4, h4, _⟩ := h.wd.tasks.row
 exact h.grown hg hB (R_ne hR h1 (by decide)) (R_ne hR h2 (by decide)) (R_ne hR h3 (by decide)) (R_ne hR h4 (by decide)) (R_ne hR h.ev (by decide))
theorem Lv.far_cells (h : Lv w0 V a pm g t kf b W ev) (e o : Nat) (he : b < e) (vs : List Value) : Lv w0 (V.setCells e o vs) a pm g t kf b W ev := by
 have hf := h.far
 have hlo := h.lo
 exact ⟨h.wd.of_blocks (by rintro x (rfl | rfl | rfl | rfl) <;> exact setCells_far vs o _ (by omega)), (setCells_far vs o b (by omega)).trans h.ev, h.bt.setCells e o (.inr (.inr (by omega))) vs, hlo, hf⟩
theorem Lv.far_cell (h : Lv w0 V a pm g t kf b W ev) (e o : Nat) (he : b < e) (v : Value) : Lv w0 (V.setCell ⟨e, o, none⟩ v) a pm g t kf b W ev := h.far_cells e o he [v]
theorem Lv.put (h : Lv w0 V a pm g t kf b W ev) (vs : List Value) (hl : vs.length = ev.size) : Lv w0 (V.setCells b 0 vs) a pm g t kf b W vs.toArray := by
 have hf := h.far
 have hlo := h.lo
 exact ⟨h.wd.of_blocks (by rintro x (rfl | rfl | rfl | rfl) <;> exact setCells_far vs 0 _ (by omega)), blk_setAll h.ev vs hl, h.bt.setCells b 0 (.inr (.inr (by omega))) vs, hlo, hf⟩
abbrev frameV (f : Stile.Frame) : List Value := [(.int .i64 f.op : Value), .int .i64 f.line, .int .u32 f.a, .int .u32 f.b, .int .i64 f.stage, .bool f.on, .int .i64 f.wc, .int .i64 f.wi, .bool f.hit, .int .i64 f.ret]
theorem frame_task (x : Task) (f : Stile.Frame) (y : Nat) (hy : y < 11) : taskV ⟨x.hold, f⟩ y = if 1 ≤ y ∧ y < 1 + (frameV f).length then (frameV f).getD (y - 1) undef else taskV x y := by
 have : y = 0 ∨ y = 1 ∨ y = 2 ∨ y = 3 ∨ y = 4 ∨ y = 5 ∨ y = 6 ∨ y = 7 ∨ y = 8 ∨ y = 9 ∨ y = 10 := by omega
 rcases this with rfl | rfl | rfl | rfl | rfl | rfl | rfl | rfl | rfl | rfl | rfl <;> simp [taskV, frameV]
theorem hold_task (x : Task) (h : Int) (y : Nat) (hy : y < 11) : taskV ⟨h, x.f⟩ y = if 0 ≤ y ∧ y < 0 + [(.int .i64 h : Value)].length then [(.int .i64 h : Value)].getD (y - 0) undef else taskV x y := by
 have : y = 0 ∨ y = 1 ∨ y = 2 ∨ y = 3 ∨ y = 4 ∨ y = 5 ∨ y = 6 ∨ y = 7 ∨ y = 8 ∨ y = 9 ∨ y = 10 := by omega
 rcases this with rfl | rfl | rfl | rfl | rfl | rfl | rfl | rfl | rfl | rfl | rfl <;> simp [taskV]
set_option maxHeartbeats 4000000 in
theorem wstep_no (h : Wd w a pm g t kf W) (k : Nat) (hk : k < W.t.length) (l2 : List Int) (n2 m2 k2 gop gln ga gb gst gwc gwi gret a0 a1 a2 a3 a4 : Int) (gon ghit : Bool) (ns : List Note) (hlen : ns.length ≤ 1000)
 (hS : ∀ (W' : World) (p : Nat), At w.heap.size W' p pm g (runAt W k) → Calls Tryz.prog 88 #[.pointer (some ⟨p, 0, none⟩), .func (.func kf) #[] #[]] W' fun e w' => e = .returned (.bool false) ∧ At w.heap.size w' p pm g ⟨l2, n2, m2, k2, ⟨gop, gln, ga, gb, gst, gon, gwc, gwi, ghit, gret⟩, ⟨a0, a1, a2, a3, a4⟩, ns⟩ ∧ Fr w.heap.size p g W' w') :
 Calls Tryz.prog 48 #[.pointer (some ⟨a, 0, none⟩), .int .i64 k] w fun e w' => ∃ nv, e = .returned (.agg #[.bool true, .int .i64 a0, .int .i64 a1, .int .u32 a2, .int .u32 a3, .int .u32 a4, nv]) ∧ nk.R 44 w' w.heap.size (fun _ => True) nv ns ∧ Wd w' a pm g t kf { W with l := l2, t := W.t.set k ⟨(W.t.getD k ⟨0, .zero⟩).hold, ⟨gop, gln, ga, gb, gst, gon, gwc, gwi, ghit, gret⟩⟩ } ∧ Bt g t w w' := by
 have hr : runAt W k = ⟨W.l, W.n, W.mode, k, (W.t.getD k ⟨0, .zero⟩).f, .zero, []⟩ := by unfold runAt taskAt; simp
 have hrn := fun V (hV : Wd V a pm g t kf W) => run_walk hV k hk
 rw [hr] at hS hrn
 clear hr
 have ht := fun V (hV : Wd V a pm g t kf W) => task_walk hV (k : Int)
 rw [if_pos (by unfold there; omega), Int.toNat_natCast] at ht
 obtain ⟨x, hx⟩ : ∃ x, x = W.t.getD k ⟨0, .zero⟩ := ⟨_, rfl⟩
 rw [← hx] at hS hrn
 obtain ⟨b, hb⟩ : ∃ b, b = w.heap.size := ⟨_, rfl⟩
 rw [← hb] at hS ⊢
 have hlt := h.lt
 have L0 : Lv w (w.alloc (.cells #[.bool false, .int .i64 0, .int .i64 0, .int .u32 0, .int .u32 0, .int .u32 0, .slice none 0 0] 41)) a pm g t kf b W #[.bool false, .int .i64 0, .int .i64 0, .int .u32 0, .int .u32 0, .int .u32 0, .slice none 0 0] := ⟨h.alloc _, by rw [hb]; exact heap_alloc_new _ _, (Bt.refl g t w).alloc _, Nat.le_of_eq hb.symm, by omega, by omega, by omega, by omega⟩
 obtain ⟨xh, ⟨fop, fln, fa, fb, fst, fon, fwc, fwi, fhit, fret⟩⟩ := x
 replace hrn : ∀ V, Wd V a pm g t kf W → Calls Tryz.prog 42 #[.pointer (some ⟨a, 0, none⟩), .int .i64 k] V fun e w' => e = .returned (.agg #[.pointer (some ⟨pm, 0, none⟩), .int .i64 W.n, .int .i64 W.mode, .int .i64 k, .int .i64 fop, .int .i64 fln, .int .u32 fa, .int .u32 fb, .int .i64 fst, .bool fon, .int .i64 fwc, .int .i64 fwi, .bool fhit, .int .i64 fret, .int .i64 0, .int .i64 0, .int .u32 0, .int .u32 0, .int .u32 0, .slice none 0 0]) ∧ Below V.heap.size V w' := hrn
 replace hrn := Lib.hid hrn
 replace ht := Lib.hid ht
 replace hS := Lib.hid hS
 replace h := Lib.hid h
 replace hx := Lib.hid hx
 replace hk := Lib.hid hk
 replace hlen := Lib.hid hlen
 go_enter Tryz.func48, Tryz.ntmps48
 go_upto_region 1 with (fail)
 rw [← hb]
 replace hb := Lib.hid hb
 generalize (w.alloc (.cells #[.bool false, .int .i64 0, .int .i64 0, .int .u32 0, .int .u32 0, .int .u32 0, .slice none 0 0] 41)) = V0 at L0 ⊢
 replace L0 := Lib.hid L0
 clear hlt
 go_upto_region 3 with (first
  | (go_at_call 45; go_must (refine (ht.out _ L0.out.wd).mono ?_; rintro e w1 ⟨rfl, rfl⟩))
  | (go_at_call 42; go_must (refine (hrn.out _ L0.out.wd).mono ?_; rintro e w1 ⟨rfl, hb1⟩; replace L0 := Lib.hid (L0.out.below hb1); clear hb1))
  | ((with_reducible refine gate_store rfl ?_); refine wp_store rfl rfl rfl rfl rfl (run_store_run (cur := #[.pointer none, .int .i64 0, .int .i64 0, .int .i64 0, .int .i64 0, .int .i64 0, .int .u32 0, .int .u32 0, .int .i64 0, .bool false, .int .i64 0, .int .i64 0, .bool false, .int .i64 0, .int .i64 0, .int .i64 0, .int .u32 0, .int .u32 0, .int .u32 0, .slice none 0 0]) 99 (.agg #[.pointer (some ⟨pm, 0, none⟩), .int .i64 W.n, .int .i64 W.mode, .int .i64 k, .int .i64 fop, .int .i64 fln, .int .u32 fa, .int .u32 fb, .int .i64 fst, .bool fon, .int .i64 fwc, .int .i64 fwi, .bool fhit, .int .i64 fret, .int .i64 0, .int .i64 0, .int .u32 0, .int .u32 0, .int .u32 0, .slice none 0 0]) [.pointer (some ⟨pm, 0, none⟩), .int .i64 W.n, .int .i64 W.mode, .int .i64 k, .int .i64 fop, .int .i64 fln, .int .u32 fa, .int .u32 fb, .int .i64 fst, .bool fon, .int .i64 fwc, .int .i64 fwi, .bool fhit, .int .i64 fret, .int .i64 0, .int .i64 0, .int .u32 0, .int .u32 0, .int .u32 0, .slice none 0 0] (o := 0) (heap_alloc_new w1 _) rfl (by kernel_rfl) (Nat.le_refl _) (by simp [Value.oneCell'])) ?_))
 have hbp : b < w1.heap.size := blk_lt L0.out.ev
 have hA2 : At b ((w1.alloc (.cells #[.pointer none, .int .i64 0, .int .i64 0, .int .i64 0, .int .i64 0, .int .i64 0, .int .u32 0, .int .u32 0, .int .i64 0, .bool false, .int .i64 0, .int .i64 0, .bool false, .int .i64 0, .int .i64 0, .int .i64 0, .int .u32 0, .int .u32 0, .int .u32 0, .slice none 0 0] 99)).setCells w1.heap.size 0 [.pointer (some ⟨pm, 0, none⟩), .int .i64 W.n, .int .i64 W.mode, .int .i64 k, .int .i64 fop, .int .i64 fln, .int .u32 fa, .int .u32 fb, .int .i64 fst, .bool fon, .int .i64 fwc, .int .i64 fwi, .bool fhit, .int .i64 fret, .int .i64 0, .int .i64 0, .int .u32 0, .int .u32 0, .int .u32 0, .slice none 0 0]) w1.heap.size pm g ⟨W.l, W.n, W.mode, k, ⟨fop, fln, fa, fb, fst, fon, fwc, fwi, fhit, fret⟩, .zero, []⟩ := At.start2 L0.out.wd L0.out.far.2.1 L0.out.far.2.2.1 (Nat.le_of_lt hbp) ⟨W.l, W.n, W.mode, k, ⟨fop, fln, fa, fb, fst, fon, fwc, fwi, fhit, fret⟩, .zero, []⟩ rfl rfl _ _ rfl rfl
 obtain ⟨p, hp⟩ : ∃ p, p = w1.heap.size := ⟨_, rfl⟩
 rw [← hp] at hA2 hbp ⊢
 have L1 := (L0.out.alloc (.cells #[.pointer none, .int .i64 0, .int .i64 0, .int .i64 0, .int .i64 0, .int .i64 0, .int .u32 0, .int .u32 0, .int .i64 0, .bool false, .int .i64 0, .int .i64 0, .bool false, .int .i64 0, .int .i64 0, .int .i64 0, .int .u32 0, .int .u32 0, .int .u32 0, .slice none 0 0] 99)).far_cells p 0 hbp [.pointer (some ⟨pm, 0, none⟩), .int .i64 W.n, .int .i64 W.mode, .int .i64 k, .int .i64 fop, .int .i64 fln, .int .u32 fa, .int .u32 fb, .int .i64 fst, .bool fon, .int .i64 fwc, .int .i64 fwi, .bool fhit, .int .i64 fret, .int .i64 0, .int .i64 0, .int .u32 0, .int .u32 0, .int .u32 0, .slice none 0 0]
 generalize ((w1.alloc (.cells #[.pointer none, .int .i64 0, .int .i64 0, .int .i64 0, .int .i64 0, .int .i64 0, .int .u32 0, .int .u32 0, .int .i64 0, .bool false, .int .i64 0, .int .i64 0, .bool false, .int .i64 0, .int .i64 0, .int .i64 0, .int .u32 0, .int .u32 0, .int .u32 0, .slice none 0 0] 99)).setCells p 0 [.pointer (some ⟨pm, 0, none⟩), .int .i64 W.n, .int .i64 W.mode, .int .i64 k, .int .i64 fop, .int .i64 fln, .int .u32 fa, .int .u32 fb, .int .i64 fst, .bool fon, .int .i64 fwc, .int .i64 fwi, .bool fhit, .int .i64 fret, .int .i64 0, .int .i64 0, .int .u32 0, .int .u32 0, .int .u32 0, .slice none 0 0]) = V2 at hA2 L1 ⊢
 replace hp := Lib.hid hp
 clear L0
 obtain ⟨cap, ha⟩ := L1.wd.head
 have c4 := cell_of_heap (j := 4) ha rfl
 clear ha
 replace L1 := Lib.hid L1
 replace hA2 := Lib.hid hA2
 go_upto_region 4 with (go_at_call 88; go_must (refine (hS.out _ _ hA2.out).mono ?_; rintro e w3 ⟨rfl, hA3, hF3⟩))
 have L3 := L1.out.fr hF3 hA3.mem hbp
 clear hF3 c4 L1 hA2
 obtain ⟨nv, hp3, hR3⟩ := hA3.head
 obtain ⟨A3, c3, rfl⟩ := Kd.R_slice hR3
 replace hp3 : w3.heap[p]? = some (.cells #[.pointer (some ⟨pm, 0, none⟩), .int .i64 n2, .int .i64 m2, .int .i64 k2, .int .i64 gop, .int .i64 gln, .int .u32 ga, .int .u32 gb, .int .i64 gst, .bool gon, .int .i64 gwc, .int .i64 gwi, .bool ghit, .int .i64 gret, .int .i64 a0, .int .i64 a1, .int .u32 a2, .int .u32 a3, .int .u32 a4, .slice A3 ns.length c3] 99 (0, 0)) := hp3
 have q14 := cell_of_heap (j := 14) hp3 rfl
 have q15 := cell_of_heap (j := 15) hp3 rfl
 have q16 := cell_of_heap (j := 16) hp3 rfl
 have q17 := cell_of_heap (j := 17) hp3 rfl
 have q18 := cell_of_heap (j := 18) hp3 rfl
 have q19 := cell_of_heap (j := 19) hp3 rfl
 replace hp3 := Lib.hid hp3
 replace hR3 := Lib.hid hR3
 replace L3 := Lib.hid L3
 replace hA3 := Lib.hid hA3
 go_upto_region 5 with (fail)
 clear q14 q15 q16 q17 q18 q19
 obtain ⟨e1, he⟩ : ∃ e1, e1 = w3.heap.size := ⟨_, rfl⟩
 rw [← he]
 have hbe : b < e1 := by rw [he]; exact blk_lt L3.out.ev
 have he1 : (w3.alloc (.cells #[.bool true, .int .i64 a0, .int .i64 a1, .int .u32 a2, .int .u32 a3, .int .u32 a4, .slice A3 ns.length c3] 41)).heap[e1]? = some (.cells #[.bool true, .int .i64 a0, .int .i64 a1, .int .u32 a2, .int .u32 a3, .int .u32 a4, .slice A3 ns.length c3] 41 (0, 0)) := by rw [he]; exact heap_alloc_new _ _
 have hpe : p ≠ e1 := by have := blk_lt hp3.out; omega
 have L4 := L3.out.alloc (.cells #[.bool true, .int .i64 a0, .int .i64 a1, .int .u32 a2, .int .u32 a3, .int .u32 a4, .slice A3 ns.length c3] 41)
 have hp4 := blk_alloc hp3.out (.cells #[.bool true, .int .i64 a0, .int .i64 a1, .int .u32 a2, .int .u32 a3, .int .u32 a4, .slice A3 ns.length c3] 41)
 have hR4 := Kd.R_below hR3.out (below_alloc (Below.refl _ w3) (.cells #[.bool true, .int .i64 a0, .int .i64 a1, .int .u32 a2, .int .u32 a3, .int .u32 a4, .slice A3 ns.length c3] 41))
 generalize (w3.alloc (.cells #[.bool true, .int .i64 a0, .int .i64 a1, .int .u32 a2, .int .u32 a3, .int .u32 a4, .slice A3 ns.length c3] 41)) = V4 at he1 L4 hp4 hR4 ⊢
 clear hp3 hR3 L3 hA3
 replace he := Lib.hid he
 have q4 := cell_of_heap (j := 4) hp4 rfl
 have q5 := cell_of_heap (j := 5) hp4 rfl
 have q6 := cell_of_heap (j := 6) hp4 rfl
 have q7 := cell_of_heap (j := 7) hp4 rfl
 have q8 := cell_of_heap (j := 8) hp4 rfl
 have q9 := cell_of_heap (j := 9) hp4 rfl
 have q10 := cell_of_heap (j := 10) hp4 rfl
 have q11 := cell_of_heap (j := 11) hp4 rfl
 have q12 := cell_of_heap (j := 12) hp4 rfl
 have q13 := cell_of_heap (j := 13) hp4 rfl
 replace hp4 := Lib.hid hp4
 replace L4 := Lib.hid L4
 replace hR4 := Lib.hid hR4
 replace he1 := Lib.hid he1
 go_upto_region 6 with ((with_reducible refine gate_store rfl ?_); refine wp_store rfl rfl rfl rfl rfl (L4.out.wd.tasks.run k 1 hk.out 51 (.agg #[.int .i64 gop, .int .i64 gln, .int .u32 ga, .int .u32 gb, .int .i64 gst, .bool gon, .int .i64 gwc, .int .i64 gwi, .bool ghit, .int .i64 gret]) [.int .i64 gop, .int .i64 gln, .int .u32 ga, .int .u32 gb, .int .i64 gst, .bool gon, .int .i64 gwc, .int .i64 gwi, .bool ghit, .int .i64 gret] rfl (by kernel_rfl) (by simp) (by simp [Value.oneCell'])) ?_)
 clear q4 q5 q6 q7 q8 q9 q10 q11 q12 q13
 have L5 := L4.out.task k 1 hk.out [.int .i64 gop, .int .i64 gln, .int .u32 ga, .int .u32 gb, .int .i64 gst, .bool gon, .int .i64 gwc, .int .i64 gwi, .bool ghit, .int .i64 gret] (by simp) ⟨(W.t.getD k ⟨0, .zero⟩).hold, ⟨gop, gln, ga, gb, gst, gon, gwc, gwi, ghit, gret⟩⟩ (frame_task _ ⟨gop, gln, ga, gb, gst, gon, gwc, gwi, ghit, gret⟩)
 obtain ⟨ct, hct, _⟩ := L4.out.wd.tasks.row
 have he5 := (setCells_far (w := V4) (g := t) [.int .i64 gop, .int .i64 gln, .int .u32 ga, .int .u32 gb, .int .i64 gst, .bool gon, .int .i64 gwc, .int .i64 gwi, .bool ghit, .int .i64 gret] (k * 11 + 1) e1 (by have := L4.out.far; omega)).trans he1.out
 have hR5 := R_cellsFar hR4.out hct (by decide) (k * 11 + 1) [.int .i64 gop, .int .i64 gln, .int .u32 ga, .int .u32 gb, .int .i64 gst, .bool gon, .int .i64 gwc, .int .i64 gwi, .bool ghit, .int .i64 gret]
 have hp5 := (setCells_far (w := V4) (g := t) [.int .i64 gop, .int .i64 gln, .int .u32 ga, .int .u32 gb, .int .i64 gst, .bool gon, .int .i64 gwc, .int .i64 gwi, .bool ghit, .int .i64 gret] (k * 11 + 1) p (by have := L4.out.far; omega)).trans hp4.out
 clear hct L4 he1 hR4 hp4
 generalize (V4.setCells t (k * 11 + 1) [.int .i64 gop, .int .i64 gln, .int .u32 ga, .int .u32 gb, .int .i64 gst, .bool gon, .int .i64 gwc, .int .i64 gwi, .bool ghit, .int .i64 gret]) = V5 at L5 he5 hR5 hp5 ⊢
 have r0 := cell_of_heap (j := 0) he5 rfl
 have r1 := cell_of_heap (j := 1) he5 rfl
 have r2 := cell_of_heap (j := 2) he5 rfl
 have r3 := cell_of_heap (j := 3) he5 rfl
 have r4 := cell_of_heap (j := 4) he5 rfl
 have r5 := cell_of_heap (j := 5) he5 rfl
 have r6 := cell_of_heap (j := 6) he5 rfl
 replace he5 := Lib.hid he5
 replace L5 := Lib.hid L5
 replace hR5 := Lib.hid hR5
 replace hp5 := Lib.hid hp5
 go_wp2_with ((with_reducible refine gate_store rfl ?_); refine wp_store rfl rfl rfl rfl rfl (run_store_run 41 (.agg #[.bool true, .int .i64 a0, .int .i64 a1, .int .u32 a2, .int .u32 a3, .int .u32 a4, .slice A3 ns.length c3]) [.bool true, .int .i64 a0, .int .i64 a1, .int .u32 a2, .int .u32 a3, .int .u32 a4, .slice A3 ns.length c3] (o := 0) L5.out.ev rfl (by kernel_rfl) (Nat.le_refl _) (by simp [Value.oneCell'])) ?_)
 have L6 := L5.out.put [.bool true, .int .i64 a0, .int .i64 a1, .int .u32 a2, .int .u32 a3, .int .u32 a4, .slice A3 ns.length c3] rfl
 have hR6 := R_cellsFar hR5.out L5.out.ev (by decide) 0 [.bool true, .int .i64 a0, .int .i64 a1, .int .u32 a2, .int .u32 a3, .int .u32 a4, .slice A3 ns.length c3]
 (try simp only [Exit.inBlock, Exit.then])
 refine bodyPost_ret (results_single rfl (.cell b 41 #[.bool true, .int .i64 a0, .int .i64 a1, .int .u32 a2, .int .u32 a3, .int .u32 a4, .slice A3 ns.length c3] (0, 0) _ rfl L6.ev Tryz.underlying41 rfl (by kernel_rfl) .nil)) rfl ?_
 exact ⟨_, rfl, Kd.R_mono hR6 (fun _ _ => trivial), L6.wd, L6.bt⟩
set_option maxHeartbeats 4000000 in
theorem wstep_yes (h : Wd w a pm g t kf W) (k : Nat) (hk : k < W.t.length) (l2 : List Int) (n2 m2 k2 gop gln ga gb gst gwc gwi gret a0 a1 a2 a3 a4 : Int) (gon ghit : Bool) (ns : List Note) (hlen : ns.length ≤ 1000)
 (hS : ∀ (W' : World) (p : Nat), At w.heap.size W' p pm g (runAt W k) → Calls Tryz.prog 88 #[.pointer (some ⟨p, 0, none⟩), .func (.func kf) #[] #[]] W' fun e w' => e = .returned (.bool true) ∧ At w.heap.size w' p pm g ⟨l2, n2, m2, k2, ⟨gop, gln, ga, gb, gst, gon, gwc, gwi, ghit, gret⟩, ⟨a0, a1, a2, a3, a4⟩, ns⟩ ∧ Fr w.heap.size p g W' w') :
 Calls Tryz.prog 48 #[.pointer (some ⟨a, 0, none⟩), .int .i64 k] w fun e w' => ∃ nv, e = .returned (.agg #[.bool true, .int .i64 a0, .int .i64 a1, .int .u32 a2, .int .u32 a3, .int .u32 a4, nv]) ∧ nk.R 44 w' w.heap.size (fun _ => True) nv (ns ++ [⟨k, 11, gop, gret⟩]) ∧ Wd w' a pm g t kf { W with l := l2, t := W.t.set k ⟨behind gop gret (W.t.getD k ⟨0, .zero⟩).hold, .zero⟩ } ∧ Bt g t w w' := by
 have hr : runAt W k = ⟨W.l, W.n, W.mode, k, (W.t.getD k ⟨0, .zero⟩).f, .zero, []⟩ := by unfold runAt taskAt; simp
 have hrn := fun V (hV : Wd V a pm g t kf W) => run_walk hV k hk
 rw [hr] at hS hrn
 clear hr
 have ht := fun V (hV : Wd V a pm g t kf W) => task_walk hV (k : Int)
 rw [if_pos (by unfold there; omega), Int.toNat_natCast] at ht
 obtain ⟨x, hx⟩ : ∃ x, x = W.t.getD k ⟨0, .zero⟩ := ⟨_, rfl⟩
 rw [← hx] at hS hrn
 obtain ⟨b, hb⟩ : ∃ b, b = w.heap.size := ⟨_, rfl⟩
 rw [← hb] at hS ⊢
 have hlt := h.lt
 have L0 : Lv w (w.alloc (.cells #[.bool false, .int .i64 0, .int .i64 0, .int .u32 0, .int .u32 0, .int .u32 0, .slice none 0 0] 41)) a pm g t kf b W #[.bool false, .int .i64 0, .int .i64 0, .int .u32 0, .int .u32 0, .int .u32 0, .slice none 0 0] := ⟨h.alloc _, by rw [hb]; exact heap_alloc_new _ _, (Bt.refl g t w).alloc _, Nat.le_of_eq hb.symm, by omega, by omega, by omega, by omega⟩
 obtain ⟨xh, ⟨fop, fln, fa, fb, fst, fon, fwc, fwi, fhit, fret⟩⟩ := x
 replace hrn : ∀ V, Wd V a pm g t kf W → Calls Tryz.prog 42 #[.pointer (some ⟨a, 0, none⟩), .int .i64 k] V fun e w' => e = .returned (.agg #[.pointer (some ⟨pm, 0, none⟩), .int .i64 W.n, .int .i64 W.mode, .int .i64 k, .int .i64 fop, .int .i64 fln, .int .u32 fa, .int .u32 fb, .int .i64 fst, .bool fon, .int .i64 fwc, .int .i64 fwi, .bool fhit, .int .i64 fret, .int .i64 0, .int .i64 0, .int .u32 0, .int .u32 0, .int .u32 0, .slice none 0 0]) ∧ Below V.heap.size V w' := hrn
 replace hrn := Lib.hid hrn
 replace ht := Lib.hid ht
 replace hS := Lib.hid hS
 replace h := Lib.hid h
 replace hx := Lib.hid hx
 replace hk := Lib.hid hk
 replace hlen := Lib.hid hlen
 go_enter Tryz.func48, Tryz.ntmps48
 go_upto_region 1 with (fail)
 rw [← hb]
 replace hb := Lib.hid hb
 generalize (w.alloc (.cells #[.bool false, .int .i64 0, .int .i64 0, .int .u32 0, .int .u32 0, .int .u32 0, .slice none 0 0] 41)) = V0 at L0 ⊢
 replace L0 := Lib.hid L0
 clear hlt
 go_upto_region 3 with (first
  | (go_at_call 45; go_must (refine (ht.out _ L0.out.wd).mono ?_; rintro e w1 ⟨rfl, rfl⟩))
  | (go_at_call 42; go_must (refine (hrn.out _ L0.out.wd).mono ?_; rintro e w1 ⟨rfl, hb1⟩; replace L0 := Lib.hid (L0.out.below hb1); clear hb1))
  | ((with_reducible refine gate_store rfl ?_); refine wp_store rfl rfl rfl rfl rfl (run_store_run (cur := #[.pointer none, .int .i64 0, .int .i64 0, .int .i64 0, .int .i64 0, .int .i64 0, .int .u32 0, .int .u32 0, .int .i64 0, .bool false, .int .i64 0, .int .i64 0, .bool false, .int .i64 0, .int .i64 0, .int .i64 0, .int .u32 0, .int .u32 0, .int .u32 0, .slice none 0 0]) 99 (.agg #[.pointer (some ⟨pm, 0, none⟩), .int .i64 W.n, .int .i64 W.mode, .int .i64 k, .int .i64 fop, .int .i64 fln, .int .u32 fa, .int .u32 fb, .int .i64 fst, .bool fon, .int .i64 fwc, .int .i64 fwi, .bool fhit, .int .i64 fret, .int .i64 0, .int .i64 0, .int .u32 0, .int .u32 0, .int .u32 0, .slice none 0 0]) [.pointer (some ⟨pm, 0, none⟩), .int .i64 W.n, .int .i64 W.mode, .int .i64 k, .int .i64 fop, .int .i64 fln, .int .u32 fa, .int .u32 fb, .int .i64 fst, .bool fon, .int .i64 fwc, .int .i64 fwi, .bool fhit, .int .i64 fret, .int .i64 0, .int .i64 0, .int .u32 0, .int .u32 0, .int .u32 0, .slice none 0 0] (o := 0) (heap_alloc_new w1 _) rfl (by kernel_rfl) (Nat.le_refl _) (by simp [Value.oneCell'])) ?_))
 have hbp : b < w1.heap.size := blk_lt L0.out.ev
 have hA2 : At b ((w1.alloc (.cells #[.pointer none, .int .i64 0, .int .i64 0, .int .i64 0, .int .i64 0, .int .i64 0, .int .u32 0, .int .u32 0, .int .i64 0, .bool false, .int .i64 0, .int .i64 0, .bool false, .int .i64 0, .int .i64 0, .int .i64 0, .int .u32 0, .int .u32 0, .int .u32 0, .slice none 0 0] 99)).setCells w1.heap.size 0 [.pointer (some ⟨pm, 0, none⟩), .int .i64 W.n, .int .i64 W.mode, .int .i64 k, .int .i64 fop, .int .i64 fln, .int .u32 fa, .int .u32 fb, .int .i64 fst, .bool fon, .int .i64 fwc, .int .i64 fwi, .bool fhit, .int .i64 fret, .int .i64 0, .int .i64 0, .int .u32 0, .int .u32 0, .int .u32 0, .slice none 0 0]) w1.heap.size pm g ⟨W.l, W.n, W.mode, k, ⟨fop, fln, fa, fb, fst, fon, fwc, fwi, fhit, fret⟩, .zero, []⟩ := At.start2 L0.out.wd L0.out.far.2.1 L0.out.far.2.2.1 (Nat.le_of_lt hbp) ⟨W.l, W.n, W.mode, k, ⟨fop, fln, fa, fb, fst, fon, fwc, fwi, fhit, fret⟩, .zero, []⟩ rfl rfl _ _ rfl rfl
 obtain ⟨p, hp⟩ : ∃ p, p = w1.heap.size := ⟨_, rfl⟩
 rw [← hp] at hA2 hbp ⊢
 have L1 := (L0.out.alloc (.cells #[.pointer none, .int .i64 0, .int .i64 0, .int .i64 0, .int .i64 0, .int .i64 0, .int .u32 0, .int .u32 0, .int .i64 0, .bool false, .int .i64 0, .int .i64 0, .bool false, .int .i64 0, .int .i64 0, .int .i64 0, .int .u32 0, .int .u32 0, .int .u32 0, .slice none 0 0] 99)).far_cells p 0 hbp [.pointer (some ⟨pm, 0, none⟩), .int .i64 W.n, .int .i64 W.mode, .int .i64 k, .int .i64 fop, .int .i64 fln, .int .u32 fa, .int .u32 fb, .int .i64 fst, .bool fon, .int .i64 fwc, .int .i64 fwi, .bool fhit, .int .i64 fret, .int .i64 0, .int .i64 0, .int .u32 0, .int .u32 0, .int .u32 0, .slice none 0 0]
 generalize ((w1.alloc (.cells #[.pointer none, .int .i64 0, .int .i64 0, .int .i64 0, .int .i64 0, .int .i64 0, .int .u32 0, .int .u32 0, .int .i64 0, .bool false, .int .i64 0, .int .i64 0, .bool false, .int .i64 0, .int .i64 0, .int .i64 0, .int .u32 0, .int .u32 0, .int .u32 0, .slice none 0 0] 99)).setCells p 0 [.pointer (some ⟨pm, 0, none⟩), .int .i64 W.n, .int .i64 W.mode, .int .i64 k, .int .i64 fop, .int .i64 fln, .int .u32 fa, .int .u32 fb, .int .i64 fst, .bool fon, .int .i64 fwc, .int .i64 fwi, .bool fhit, .int .i64 fret, .int .i64 0, .int .i64 0, .int .u32 0, .int .u32 0, .int .u32 0, .slice none 0 0]) = V2 at hA2 L1 ⊢
 replace hp := Lib.hid hp
 clear L0
 obtain ⟨cap, ha⟩ := L1.wd.head
 have c4 := cell_of_heap (j := 4) ha rfl
 clear ha
 replace L1 := Lib.hid L1
 replace hA2 := Lib.hid hA2
 go_upto_region 4 with (go_at_call 88; go_must (refine (hS.out _ _ hA2.out).mono ?_; rintro e w3 ⟨rfl, hA3, hF3⟩))
 have L3 := L1.out.fr hF3 hA3.mem hbp
 clear hF3 c4 L1 hA2
 obtain ⟨nv, hp3, hR3⟩ := hA3.head
 obtain ⟨A3, c3, rfl⟩ := Kd.R_slice hR3
 replace hp3 : w3.heap[p]? = some (.cells #[.pointer (some ⟨pm, 0, none⟩), .int .i64 n2, .int .i64 m2, .int .i64 k2, .int .i64 gop, .int .i64 gln, .int .u32 ga, .int .u32 gb, .int .i64 gst, .bool gon, .int .i64 gwc, .int .i64 gwi, .bool ghit, .int .i64 gret, .int .i64 a0, .int .i64 a1, .int .u32 a2, .int .u32 a3, .int .u32 a4, .slice A3 ns.length c3] 99 (0, 0)) := hp3
 have q14 := cell_of_heap (j := 14) hp3 rfl
 have q15 := cell_of_heap (j := 15) hp3 rfl
 have q16 := cell_of_heap (j := 16) hp3 rfl
 have q17 := cell_of_heap (j := 17) hp3 rfl
 have q18 := cell_of_heap (j := 18) hp3 rfl
 have q19 := cell_of_heap (j := 19) hp3 rfl
 replace hp3 := Lib.hid hp3
 replace hR3 := Lib.hid hR3
 replace L3 := Lib.hid L3
 replace hA3 := Lib.hid hA3
 go_upto_region 5 with (fail)
 clear q14 q15 q16 q17 q18 q19
 obtain ⟨e1, he⟩ : ∃ e1, e1 = w3.heap.size := ⟨_, rfl⟩
 rw [← he]
 have hbe : b < e1 := by rw [he]; exact blk_lt L3.out.ev
 have he1 : (w3.alloc (.cells #[.bool true, .int .i64 a0, .int .i64 a1, .int .u32 a2, .int .u32 a3, .int .u32 a4, .slice A3 ns.length c3] 41)).heap[e1]? = some (.cells #[.bool true, .int .i64 a0, .int .i64 a1, .int .u32 a2, .int .u32 a3, .int .u32 a4, .slice A3 ns.length c3] 41 (0, 0)) := by rw [he]; exact heap_alloc_new _ _
 have hpe : p ≠ e1 := by have := blk_lt hp3.out; omega
 have L4 := L3.out.alloc (.cells #[.bool true, .int .i64 a0, .int .i64 a1, .int .u32 a2, .int .u32 a3, .int .u32 a4, .slice A3 ns.length c3] 41)
 have hp4 := blk_alloc hp3.out (.cells #[.bool true, .int .i64 a0, .int .i64 a1, .int .u32 a2, .int .u32 a3, .int .u32 a4, .slice A3 ns.length c3] 41)
 have hR4 := Kd.R_below hR3.out (below_alloc (Below.refl _ w3) (.cells #[.bool true, .int .i64 a0, .int .i64 a1, .int .u32 a2, .int .u32 a3, .int .u32 a4, .slice A3 ns.length c3] 41))
 generalize (w3.alloc (.cells #[.bool true, .int .i64 a0, .int .i64 a1, .int .u32 a2, .int .u32 a3, .int .u32 a4, .slice A3 ns.length c3] 41)) = V4 at he1 L4 hp4 hR4 ⊢
 clear hp3 hR3 L3 hA3
 replace he := Lib.hid he
 have q4 := cell_of_heap (j := 4) hp4 rfl
 have q5 := cell_of_heap (j := 5) hp4 rfl
 have q6 := cell_of_heap (j := 6) hp4 rfl
 have q7 := cell_of_heap (j := 7) hp4 rfl
 have q8 := cell_of_heap (j := 8) hp4 rfl
 have q9 := cell_of_heap (j := 9) hp4 rfl
 have q10 := cell_of_heap (j := 10) hp4 rfl
 have q11 := cell_of_heap (j := 11) hp4 rfl
 have q12 := cell_of_heap (j := 12) hp4 rfl
 have q13 := cell_of_heap (j := 13) hp4 rfl
 replace hp4 := Lib.hid hp4
 replace L4 := Lib.hid L4
 replace hR4 := Lib.hid hR4
 replace he1 := Lib.hid he1
 go_upto_region 6 with ((with_reducible refine gate_store rfl ?_); refine wp_store rfl rfl rfl rfl rfl (L4.out.wd.tasks.run k 1 hk.out 51 (.agg #[.int .i64 gop, .int .i64 gln, .int .u32 ga, .int .u32 gb, .int .i64 gst, .bool gon, .int .i64 gwc, .int .i64 gwi, .bool ghit, .int .i64 gret]) [.int .i64 gop, .int .i64 gln, .int .u32 ga, .int .u32 gb, .int .i64 gst, .bool gon, .int .i64 gwc, .int .i64 gwi, .bool ghit, .int .i64 gret] rfl (by kernel_rfl) (by simp) (by simp [Value.oneCell'])) ?_)
 clear q4 q5 q6 q7 q8 q9 q10 q11 q12 q13
 have L5 := L4.out.task k 1 hk.out [.int .i64 gop, .int .i64 gln, .int .u32 ga, .int .u32 gb, .int .i64 gst, .bool gon, .int .i64 gwc, .int .i64 gwi, .bool ghit, .int .i64 gret] (by simp) ⟨(W.t.getD k ⟨0, .zero⟩).hold, ⟨gop, gln, ga, gb, gst, gon, gwc, gwi, ghit, gret⟩⟩ (frame_task _ ⟨gop, gln, ga, gb, gst, gon, gwc, gwi, ghit, gret⟩)
 obtain ⟨ct, hct, _⟩ := L4.out.wd.tasks.row
 have he5 := (setCells_far (w := V4) (g := t) [.int .i64 gop, .int .i64 gln, .int .u32 ga, .int .u32 gb, .int .i64 gst, .bool gon, .int .i64 gwc, .int .i64 gwi, .bool ghit, .int .i64 gret] (k * 11 + 1) e1 (by have := L4.out.far; omega)).trans he1.out
 have hR5 := R_cellsFar hR4.out hct (by decide) (k * 11 + 1) [.int .i64 gop, .int .i64 gln, .int .u32 ga, .int .u32 gb, .int .i64 gst, .bool gon, .int .i64 gwc, .int .i64 gwi, .bool ghit, .int .i64 gret]
 have hp5 := (setCells_far (w := V4) (g := t) [.int .i64 gop, .int .i64 gln, .int .u32 ga, .int .u32 gb, .int .i64 gst, .bool gon, .int .i64 gwc, .int .i64 gwi, .bool ghit, .int .i64 gret] (k * 11 + 1) p (by have := L4.out.far; omega)).trans hp4.out
 clear hct L4 he1 hR4 hp4
 generalize (V4.setCells t (k * 11 + 1) [.int .i64 gop, .int .i64 gln, .int .u32 ga, .int .u32 gb, .int .i64 gst, .bool gon, .int .i64 gwc, .int .i64 gwi, .bool ghit, .int .i64 gret]) = V5 at L5 he5 hR5 hp5 ⊢
 have q4 := cell_of_heap (j := 4) hp5 rfl
 have q13 := cell_of_heap (j := 13) hp5 rfl
 replace he5 := Lib.hid he5
 replace L5 := Lib.hid L5
 replace hR5 := Lib.hid hR5
 replace hp5 := Lib.hid hp5
 go_upto_region 7 with (fail)
 go_quiet (fail)
 have L6 := L5.out.drewN nq
 have he6 : (V5.drewN nq).heap[e1]? = some (.cells #[.bool true, .int .i64 a0, .int .i64 a1, .int .u32 a2, .int .u32 a3, .int .u32 a4, .slice A3 ns.length c3] 41 (0, 0)) := he5.out
 have hR6 := Kd.R_below hR5.out (w1 := V5.drewN nq) ⟨rfl, rfl, rfl, Nat.le_refl _, fun _ _ => rfl⟩
 have hpl6 : p < (V5.drewN nq).heap.size := blk_lt hp5.out
 clear q4 q13 he5 L5 hR5 hp5
 generalize V5.drewN nq = V6 at L6 he6 hR6 hpl6 ⊢
 have r6 := cell_of_heap (j := 6) he6 rfl
 have hB6 := Below.refl b V6
 have hpl : p < V6.heap.size := hpl6
 have hbl : b ≤ V6.heap.size := Nat.le_of_lt (blk_lt L6.ev)
 replace he6 := Lib.hid he6
 replace L6 := Lib.hid L6
 replace hR6 := Lib.hid hR6
 replace hB6 := Lib.hid hB6
 go_upto_region 9 with ((with_reducible refine gate_builtin (b := .append) (xs := #[.tmp 40, .tmp 45]) rfl ?_); at_builtin; refine Kd.R_append nk (w0 := V6) (W := V6) b rfl (.tmp 40) (.tmp 45) 39 44 (.agg #[.int .i64 0, .int .i64 0, .int .i64 0, .int .i64 0]) 32 rfl Tryz.underlying39 info_note rfl (by decide) (by decide) (.slice A3 ns.length c3) ns ⟨k, 11, gop, gret⟩ [.int .i64 k, .int .i64 11, .int .i64 gop, .int .i64 gret] (fun k => k ≠ p) (fun _ => False) rfl rfl (nk_M _) (fun _ hk => hk.elim) (fun q hq => by omega) hR6.out hB6.out hbl (by have := hlen.out; omega) ?_; intro v7 w7 hR7 hB7 hg7 _; obtain ⟨A7, c7, rfl⟩ := Kd.R_slice hR7; have L7 := L6.out.grownR hR6.out hg7 hB7; have he7 := (hg7.block e1 (blk_lt he6.out) (R_ne hR6.out he6.out (by decide))).trans he6.out; have s6 := cell_of_heap (j := 6) he7 rfl; have y6 := blk_frozen he7 6; clear hB7 hg7 r6; replace L7 := Lib.hid L7; replace he7 := Lib.hid he7; replace hR7 := Lib.hid hR7)
 have hl7 : ((ns ++ [(⟨k, 11, gop, gret⟩ : Note)]).length : Nat) = ns.length + 1 := by simp
 clear s6 y6
 obtain ⟨v8, hv8⟩ : ∃ v8 : Value, v8 = .slice A7 (ns ++ [(⟨k, 11, gop, gret⟩ : Note)]).length c7 := ⟨_, rfl⟩
 have L8 := L7.out.far_cell e1 6 hbe v8
 have he8 := blk_set he7.out 6 v8
 have hR8 : nk.R 44 (w7.setCell ⟨e1, 6, none⟩ v8) b (fun k => k ≠ p) v8 (ns ++ [⟨k, 11, gop, gret⟩]) := by rw [hv8]; exact R_cellsFar hR7.out he7.out (by decide) 6 [_]
 rw [hv8] at he8 L8 hR8
 clear hv8 L7 he7 hR7 he6 L6 hR6 hB6
 rw [hl7] at he8 L8 hR8
 try rw [hl7]
 replace he8 : _ = some (Obj.cells #[.bool true, .int .i64 a0, .int .i64 a1, .int .u32 a2, .int .u32 a3, .int .u32 a4, .slice A7 (ns.length + 1) c7] 41 (0, 0)) := he8
 generalize (w7.setCell ⟨e1, 6, none⟩ (.slice A7 (ns.length + 1) c7)) = V8 at L8 he8 hR8 ⊢
 have hk8 : k < ({ ({ W with l := l2 } : Stile.W) with t := W.t.set k ⟨(W.t.getD k ⟨0, .zero⟩).hold, ⟨gop, gln, ga, gb, gst, gon, gwc, gwi, ghit, gret⟩⟩ } : Stile.W).t.length := by have := hk.out; simpa using this
 have hset : ((W.t.set k ⟨(W.t.getD k ⟨0, .zero⟩).hold, ⟨gop, gln, ga, gb, gst, gon, gwc, gwi, ghit, gret⟩⟩).getD k ⟨0, .zero⟩) = ⟨xh, ⟨gop, gln, ga, gb, gst, gon, gwc, gwi, ghit, gret⟩⟩ := by rw [← hx.out]; have := hk.out; simp [List.getD_eq_getElem?_getD, this]
 have ch : V8.cell? ⟨t, k * 11, none⟩ = some (.int .i64 xh) := by
  have := L8.wd.tasks.cell (i := k) (j := 0) hk8 (by decide)
  rw [show (({ ({ W with l := l2 } : Stile.W) with t := W.t.set k ⟨(W.t.getD k ⟨0, .zero⟩).hold, ⟨gop, gln, ga, gb, gst, gon, gwc, gwi, ghit, gret⟩⟩ } : Stile.W).t.getD k ⟨0, .zero⟩) = _ from hset] at this
  exact this
 have yh := L8.wd.tasks.frozen (k * 11)
 replace L8 := Lib.hid L8
 replace he8 := Lib.hid he8
 replace hR8 := Lib.hid hR8
 replace hset := Lib.hid hset
 replace hk8 := Lib.hid hk8
 clear hpl hbl
 go_upto_region 10 with (go_at_call 89; go_must (refine (behind_walk gop gret xh _).mono ?_; rintro e w9 ⟨rfl, rfl⟩))
 clear ch yh
 have L9 : Lv w (w9.setCell ⟨t, k * 11, none⟩ (.int .i64 (behind gop gret xh))) a pm g t kf b _ _ := L8.out.task k 0 hk8.out [.int .i64 (behind gop gret xh)] (by simp) ⟨behind gop gret xh, _⟩ (hold_task _ _)
 obtain ⟨ct, hct, _⟩ := L8.out.wd.tasks.row
 have he9 := (setCells_far (w := w9) (g := t) [.int .i64 (behind gop gret xh)] (k * 11) e1 (by have := L8.out.far; omega)).trans he8.out
 have hR9 := R_cellsFar hR8.out hct (by decide) (k * 11) [.int .i64 (behind gop gret xh)]
 change (w9.setCell ⟨t, k * 11, none⟩ (.int .i64 (behind gop gret xh))).heap[e1]? = _ at he9
 change nk.R _ (w9.setCell ⟨t, k * 11, none⟩ (.int .i64 (behind gop gret xh))) b _ _ _ at hR9
 clear hct L8 he8 hR8
 generalize (w9.setCell ⟨t, k * 11, none⟩ (.int .i64 (behind gop gret xh))) = V9 at L9 he9 hR9 ⊢
 obtain ⟨W9, hW9⟩ : ∃ W9, W9 = ({ ({ ({ W with l := l2 } : Stile.W) with t := W.t.set k ⟨(W.t.getD k ⟨0, .zero⟩).hold, ⟨gop, gln, ga, gb, gst, gon, gwc, gwi, ghit, gret⟩⟩ } : Stile.W) with t := (W.t.set k ⟨(W.t.getD k ⟨0, .zero⟩).hold, ⟨gop, gln, ga, gb, gst, gon, gwc, gwi, ghit, gret⟩⟩).set k ⟨behind gop gret xh, ((W.t.set k ⟨(W.t.getD k ⟨0, .zero⟩).hold, ⟨gop, gln, ga, gb, gst, gon, gwc, gwi, ghit, gret⟩⟩).getD k ⟨0, .zero⟩).f⟩ } : Stile.W) := ⟨_, rfl⟩
 replace L9 : Lv w V9 a pm g t kf b W9 #[.bool false, .int .i64 0, .int .i64 0, .int .u32 0, .int .u32 0, .int .u32 0, .slice none 0 0] := by rw [hW9]; exact L9
 have hk9 : k < W9.t.length := by rw [hW9]; have := hk.out; simpa using this
 replace hW9 := Lib.hid hW9
 replace L9 := Lib.hid L9
 replace he9 := Lib.hid he9
 replace hR9 := Lib.hid hR9
 replace hk9 := Lib.hid hk9
 go_upto_region 11 with ((with_reducible refine gate_store rfl ?_); refine wp_store rfl rfl rfl rfl rfl (L9.out.wd.tasks.run k 1 hk9.out 51 (.agg #[.int .i64 0, .int .i64 0, .int .u32 0, .int .u32 0, .int .i64 0, .bool false, .int .i64 0, .int .i64 0, .bool false, .int .i64 0]) [.int .i64 0, .int .i64 0, .int .u32 0, .int .u32 0, .int .i64 0, .bool false, .int .i64 0, .int .i64 0, .bool false, .int .i64 0] rfl (by kernel_rfl) (by simp) (by simp [Value.oneCell'])) ?_)
 have L10 := L9.out.task k 1 hk9.out [.int .i64 0, .int .i64 0, .int .u32 0, .int .u32 0, .int .i64 0, .bool false, .int .i64 0, .int .i64 0, .bool false, .int .i64 0] (by simp) ⟨(W9.t.getD k ⟨0, .zero⟩).hold, .zero⟩ (frame_task _ .zero)
 obtain ⟨ct, hct, _⟩ := L9.out.wd.tasks.row
 have he10 := (setCells_far (w := V9) (g := t) [.int .i64 0, .int .i64 0, .int .u32 0, .int .u32 0, .int .i64 0, .bool false, .int .i64 0, .int .i64 0, .bool false, .int .i64 0] (k * 11 + 1) e1 (by have := L9.out.far; omega)).trans he9.out
 have hR10 := R_cellsFar hR9.out hct (by decide) (k * 11 + 1) [.int .i64 0, .int .i64 0, .int .u32 0, .int .u32 0, .int .i64 0, .bool false, .int .i64 0, .int .i64 0, .bool false, .int .i64 0]
 clear hct L9 he9 hR9
 generalize (V9.setCells t (k * 11 + 1) [.int .i64 0, .int .i64 0, .int .u32 0, .int .u32 0, .int .i64 0, .bool false, .int .i64 0, .int .i64 0, .bool false, .int .i64 0]) = V10 at L10 he10 hR10 ⊢
 have r0 := cell_of_heap (j := 0) he10 rfl
 have r1 := cell_of_heap (j := 1) he10 rfl
 have r2 := cell_of_heap (j := 2) he10 rfl
 have r3 := cell_of_heap (j := 3) he10 rfl
 have r4 := cell_of_heap (j := 4) he10 rfl
 have r5 := cell_of_heap (j := 5) he10 rfl
 have r6 := cell_of_heap (j := 6) he10 rfl
 replace he10 := Lib.hid he10
 replace L10 := Lib.hid L10
 replace hR10 := Lib.hid hR10
 go_wp2_with ((with_reducible refine gate_store rfl ?_); refine wp_store rfl rfl rfl rfl rfl (run_store_run 41 (.agg #[.bool true, .int .i64 a0, .int .i64 a1, .int .u32 a2, .int .u32 a3, .int .u32 a4, .slice A7 (ns.length + 1) c7]) [.bool true, .int .i64 a0, .int .i64 a1, .int .u32 a2, .int .u32 a3, .int .u32 a4, .slice A7 (ns.length + 1) c7] (o := 0) L10.out.ev rfl (by kernel_rfl) (Nat.le_refl _) (by simp [Value.oneCell'])) ?_)
 have L11 := L10.out.put [.bool true, .int .i64 a0, .int .i64 a1, .int .u32 a2, .int .u32 a3, .int .u32 a4, .slice A7 (ns.length + 1) c7] rfl
 have hR11 := R_cellsFar hR10.out L10.out.ev (by decide) 0 [.bool true, .int .i64 a0, .int .i64 a1, .int .u32 a2, .int .u32 a3, .int .u32 a4, .slice A7 (ns.length + 1) c7]
 have hfin : ({ W9 with t := W9.t.set k ⟨(W9.t.getD k ⟨0, .zero⟩).hold, .zero⟩ } : Stile.W) = { W with l := l2, t := W.t.set k ⟨behind gop gret (W.t.getD k ⟨0, .zero⟩).hold, .zero⟩ } := by
  have hk1 := hk.out
  have hx1 : (W.t.getD k ⟨0, .zero⟩).hold = xh := by rw [← hx.out]
  rw [hW9.out, hx1]
  simp [List.getD_eq_getElem?_getD, hk1]
 rw [hfin] at L11
 (try simp only [Exit.inBlock, Exit.then])
 refine bodyPost_ret (results_single rfl (.cell b 41 #[.bool true, .int .i64 a0, .int .i64 a1, .int .u32 a2, .int .u32 a3, .int .u32 a4, .slice A7 (ns.length + 1) c7] (0, 0) _ rfl L11.ev Tryz.underlying41 rfl (by kernel_rfl) .nil)) rfl ?_
 exact ⟨_, rfl, Kd.R_mono hR11 (fun _ _ => trivial), L11.wd, L11.bt⟩
end Go.Proofs.YtkmlefbdhdlfmaaGreat.Wo
