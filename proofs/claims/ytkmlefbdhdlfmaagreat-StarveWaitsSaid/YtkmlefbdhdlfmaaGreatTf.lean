/- The lines of the task-fair lock: function by function, against the plain texts. -/
import Derived.Test.YtkmlefbdhdlfmaaGreatLn
import Derived.Test.YtkmlefbdhdlfmaaGreatValid
namespace Go.Proofs.YtkmlefbdhdlfmaaGreat.Wo
open Go.RowKit Go.Proofs.YtkmlefbdhdlfmaaGreatW.PrintWords Go.Proofs.YtkmlefbdhdlfmaaGreatW.PrintMore Go.Proofs.YtkmlefbdhdlfmaaGreatW.PrintLast
open Stile
set_option linter.unusedSimpArgs false
set_option linter.unusedVariables false
set_option maxRecDepth 100000
variable {w w1 w2 w0 : World} {B p pm g m : Nat} {r r1 : Run} {Q : Ending → World → Prop}
theorem e17 {P : Prop} (h : P := by
 obtain ⟨b, hbb⟩ : ∃ b, b = w.heap.size := ⟨_, rfl⟩
 obtain ⟨W, hW⟩ : ∃ W, W = w.alloc (.cells #[.int .u32 r.f.a] 22) := ⟨_, rfl⟩
 obtain ⟨hc, c4, c5, c6, c7, hb, nbp, nbg, v6, v7⟩ := startbox h hO hn hop hln hW hbb
 have cb := cell_of_heap (j := 0) hb.out rfl
 replace h := Lib.hid h
 replace hO := Lib.hid hO
 replace hn := Lib.hid hn
 replace hop := Lib.hid hop
 replace hln := Lib.hid hln
 go_enter Tryz.func71, Tryz.ntmps71
 go_upto_region 2 with (fail)
 rw [← hW, ← hbb]
 clear v6 v7
 replace hW := Lib.hid hW
 replace hbb := Lib.hid hbb
 go_upto_region 3 with (fail)
 go_quiet (fail)
 replace hc := Lib.hid (hc.out.drewN nq)
 go_wp2_with (first
  | (go_at_call 100; (try clear c6); (try clear c7); (try clear cb); go_must (refine tfticket_step hc (by decide) _ ?_; intro w1 f1 hc; replace hb := Lib.hid (f1.keep hb.out nbp nbg (by decide)); have cb := cell_of_heap (j := 0) hb.out rfl; clear f1)))
 exact e20) : P := h
theorem e18 {P : Prop} (h : P := by
 obtain ⟨b, hbb⟩ : ∃ b, b = w.heap.size := ⟨_, rfl⟩
 obtain ⟨W, hW⟩ : ∃ W, W = w.alloc (.cells #[.int .u32 r.f.a] 22) := ⟨_, rfl⟩
 obtain ⟨hc, c4, c5, c6, c7, hb, nbp, nbg, v6, v7⟩ := startbox h hO hn hop hln hW hbb
 have cb := cell_of_heap (j := 0) hb.out rfl
 replace h := Lib.hid h
 replace hO := Lib.hid hO
 replace hn := Lib.hid hn
 replace hop := Lib.hid hop
 replace hln := Lib.hid hln
 go_enter Tryz.func71, Tryz.ntmps71
 go_upto_region 2 with (fail)
 rw [← hW, ← hbb]
 clear v6 v7
 replace hW := Lib.hid hW
 replace hbb := Lib.hid hbb
 go_upto_region 3 with (fail)
 go_quiet (fail)
 replace hc := Lib.hid (hc.out.drewN nq)
 go_wp2_with (first
  | (go_at_call 103; (try clear c6); (try clear c7); (try clear cb); go_must (refine tfenter_step hc (by decide) _ ?_; intro w1 f1 hc; replace hb := Lib.hid (f1.keep hb.out nbp nbg (by decide)); have cb := cell_of_heap (j := 0) hb.out rfl; clear f1)))
 exact e20) : P := h
theorem e19 {P : Prop} (h : P := by
 obtain ⟨b, hbb⟩ : ∃ b, b = w.heap.size := ⟨_, rfl⟩
 obtain ⟨W, hW⟩ : ∃ W, W = w.alloc (.cells #[.int .u32 r.f.a] 22) := ⟨_, rfl⟩
 obtain ⟨hc, c4, c5, c6, c7, hb, nbp, nbg, v6, v7⟩ := startbox h hO hn hop hln hW hbb
 have cb := cell_of_heap (j := 0) hb.out rfl
 replace h := Lib.hid h
 replace hO := Lib.hid hO
 replace hn := Lib.hid hn
 replace hop := Lib.hid hop
 replace hln := Lib.hid hln
 go_enter Tryz.func71, Tryz.ntmps71
 go_upto_region 2 with (fail)
 rw [← hW, ← hbb]
 clear v6 v7
 replace hW := Lib.hid hW
 replace hbb := Lib.hid hbb
 go_upto_region 3 with (fail)
 go_quiet (fail)
 replace hc := Lib.hid (hc.out.drewN nq)
 go_wp2_with (first
  | (go_at_call 104; (try clear c6); (try clear c7); (try clear cb); go_must (refine add_step hc _ _ (by first | decide | exact w32_u32 _ | exact w32_pres _) ?_; intro w1 f1 hc c6 c7; replace hb := Lib.hid (f1.keep hb.out nbp nbg (by decide)); have cb := cell_of_heap (j := 0) hb.out rfl; clear f1))
  | (go_at_call 105; (try clear c6); (try clear c7); (try clear cb); go_must (refine note_step hc _ _ (by decide) ?_; intro w1 f1 hc c6 c7; replace hb := Lib.hid (f1.keep hb.out nbp nbg (by decide)); have cb := cell_of_heap (j := 0) hb.out rfl; clear f1))
  | (go_at_call 106; (try clear c6); (try clear c7); (try clear cb); go_must (refine wake_step hc _ ?_; intro w1 f1 hc c6 c7; replace hb := Lib.hid (f1.keep hb.out nbp nbg (by decide)); have cb := cell_of_heap (j := 0) hb.out rfl; clear f1))
  | (go_at_call 107; (try clear c6); (try clear c7); (try clear cb); go_must (refine end_step hc _ ?_; intro w1 f1 hc c6 c7; replace hb := Lib.hid (f1.keep hb.out nbp nbg (by decide)); have cb := cell_of_heap (j := 0) hb.out rfl; clear f1)))
 exact e20) : P := h
theorem e20 {P : Prop} (h : P := by
 first | go_end0 | ((try simp only [Exit.inBlock, Exit.then]); refine bodyPost_ret (results_none rfl _ _ _) rfl ?_)
 refine ⟨rfl, ?_, hc.out.fr⟩
 unfold Tf.lines
 exact e45) : P := h
theorem e21 {P : Prop} (h : P := by
 obtain ⟨b, hbb⟩ : ∃ b, b = w.heap.size := ⟨_, rfl⟩
 obtain ⟨W, hW⟩ : ∃ W, W = w.alloc (.cells #[.int .u32 r.f.a] 22) := ⟨_, rfl⟩
 obtain ⟨hc, c4, c5, c6, c7, hb, nbp, nbg, v6, v7⟩ := startbox h hO hn hop hln hW hbb
 have cb := cell_of_heap (j := 0) hb.out rfl
 replace h := Lib.hid h
 replace hO := Lib.hid hO
 replace hn := Lib.hid hn
 replace hop := Lib.hid hop
 replace hln := Lib.hid hln
 replace hs := Lib.hid hs
 replace hd := Lib.hid hd
 go_enter Tryz.func71, Tryz.ntmps71
 go_upto_region 2 with (fail)
 rw [← hW, ← hbb]
 clear v6 v7
 replace hW := Lib.hid hW
 replace hbb := Lib.hid hbb
 go_upto_region 3 with (fail)
 go_quiet (fail)
 replace hc := Lib.hid (hc.out.drewN nq)
 go_wp2_with (first
  | (go_at_call 102; (try clear c6); (try clear c7); (try clear cb); go_must (refine go_step hc _ ?_; intro w1 f1 hc c6 c7; replace hb := Lib.hid (f1.keep hb.out nbp nbg (by decide)); have cb := cell_of_heap (j := 0) hb.out rfl; clear f1))
  | (go_at_call 101; (try clear c6); (try clear c7); (try clear cb); go_must (refine wait_step hc _ (fun v => v == r.f.a) (tftells hb.out nbp nbg) _ _ hs.out hd.out ?_; intro w1 f1 hc c6 c7; replace hb := Lib.hid (f1.keep hb.out nbp nbg (by decide)); have cb := cell_of_heap (j := 0) hb.out rfl; clear f1)))
 first | go_end0 | ((try simp only [Exit.inBlock, Exit.then]); refine bodyPost_ret (results_none rfl _ _ _) rfl ?_)
 refine ⟨rfl, ?_, hc.out.fr⟩
 unfold Tf.lines
 exact e165) : P := h
theorem e22 {P : Prop} (h : P := by
 obtain ⟨b, hbb⟩ : ∃ b, b = w.heap.size := ⟨_, rfl⟩
 obtain ⟨W, hW⟩ : ∃ W, W = w.alloc (.cells #[.int .u32 r.f.a] 22) := ⟨_, rfl⟩
 obtain ⟨hc, c4, c5, c6, c7, hb, nbp, nbg, v6, v7⟩ := startbox h hO hn hop hln hW hbb
 have cb := cell_of_heap (j := 0) hb.out rfl
 replace h := Lib.hid h
 replace hO := Lib.hid hO
 replace hn := Lib.hid hn
 replace hop := Lib.hid hop
 replace hln := Lib.hid hln
 replace hs := Lib.hid hs
 replace hd := Lib.hid hd
 go_enter Tryz.func71, Tryz.ntmps71
 go_upto_region 2 with (fail)
 rw [← hW, ← hbb]
 clear v6 v7
 replace hW := Lib.hid hW
 replace hbb := Lib.hid hbb
 go_upto_region 3 with (fail)
 go_quiet (fail)
 replace hc := Lib.hid (hc.out.drewN nq)
 go_wp2_with (first
  | (go_at_call 105; (try clear c6); (try clear c7); (try clear cb); go_must (refine note_step hc _ _ (by decide) ?_; intro w1 f1 hc c6 c7; replace hb := Lib.hid (f1.keep hb.out nbp nbg (by decide)); have cb := cell_of_heap (j := 0) hb.out rfl; clear f1))
  | (go_at_call 107; (try clear c6); (try clear c7); (try clear cb); go_must (refine end_step hc _ ?_; intro w1 f1 hc c6 c7; replace hb := Lib.hid (f1.keep hb.out nbp nbg (by decide)); have cb := cell_of_heap (j := 0) hb.out rfl; clear f1))
  | (go_at_call 101; (try clear c6); (try clear c7); (try clear cb); go_must (refine wait_step hc _ (fun v => v == r.f.a) (tftells hb.out nbp nbg) _ _ hs.out hd.out ?_; intro w1 f1 hc c6 c7; replace hb := Lib.hid (f1.keep hb.out nbp nbg (by decide)); have cb := cell_of_heap (j := 0) hb.out rfl; clear f1)))
 first | go_end0 | ((try simp only [Exit.inBlock, Exit.then]); refine bodyPost_ret (results_none rfl _ _ _) rfl ?_)
 refine ⟨rfl, ?_, hc.out.fr⟩
 unfold Tf.lines
 simp only [hop.out, hln.out]
 simp only [Int.reduceEq, and_true, true_and, and_self, and_false, false_and, if_true, if_false, or_false, false_or, or_true, true_or]
 rw [show (r.waited 2 fun v => v == r.f.a).seen = _ from hs.out, show (r.waited 2 fun v => v == r.f.a).done = _ from hd.out]
 exact hc.out.at_) : P := h
theorem e23 {P : Prop} (h : P := by
 obtain ⟨hc, c4, c5, c6, c7⟩ := start h hO hn hop hln
 replace h := Lib.hid h
 replace hO := Lib.hid hO
 replace hn := Lib.hid hn
 replace hop := Lib.hid hop
 replace hln := Lib.hid hln
 go_enter Tryz.func108, Tryz.ntmps108
 go_upto_region 0 with (fail)
 go_quiet (fail)
 replace hc := Lib.hid (hc.out.drewN nq)
 go_wp2_with (first
  | (go_at_call 112; (try clear c6); (try clear c7); go_must (refine load_step hc _ ?_; intro w1 f1 hc c6 c7; clear f1))
  | ((with_reducible refine gate_store rfl ?_); refine stA_step hc rfl rfl rfl rfl rfl rfl ?_; clear c6 c7; intro w1 f1 hc c6 c7; clear f1)
  | (go_at_call 102; (try clear c6); (try clear c7); go_must (refine go_step hc _ ?_; intro w1 f1 hc c6 c7; clear f1)))
 exact e29) : P := h
theorem e24 {P : Prop} (h : P := by
 obtain ⟨hc, c4, c5, c6, c7⟩ := start h hO hn hop hln
 replace h := Lib.hid h
 replace hO := Lib.hid hO
 replace hn := Lib.hid hn
 replace hop := Lib.hid hop
 replace hln := Lib.hid hln
 go_enter Tryz.func108, Tryz.ntmps108
 go_upto_region 0 with (fail)
 go_quiet (fail)
 replace hc := Lib.hid (hc.out.drewN nq)
 go_wp2_with (first
  | (go_at_call 151; (try clear c6); (try clear c7); go_must (refine tflook_step hc (by decide) _ _ ?_; intro w1 f1 hc; clear f1)))
 exact e29) : P := h
theorem e25 {P : Prop} (h : P := by
 obtain ⟨hc, c4, c5, c6, c7⟩ := start h hO hn hop hln
 replace h := Lib.hid h
 replace hO := Lib.hid hO
 replace hn := Lib.hid hn
 replace hop := Lib.hid hop
 replace hln := Lib.hid hln
 replace ht := Lib.hid ht
 go_enter Tryz.func108, Tryz.ntmps108
 go_upto_region 0 with (fail)
 go_quiet (fail)
 replace hc := Lib.hid (hc.out.drewN nq)
 go_wp2_with (first
  | (go_at_call 105; (try clear c6); (try clear c7); go_must (refine note_step hc _ _ (by decide) ?_; intro w1 f1 hc c6 c7; clear f1))
  | (go_at_call 102; (try clear c6); (try clear c7); go_must (refine go_step hc _ ?_; intro w1 f1 hc c6 c7; clear f1))
  | (go_at_call 152; (try clear c6); (try clear c7); go_must (refine tftake_step hc true ht.out ?_; intro w1 f1 hc; clear f1)))
 exact e27) : P := h
theorem e26 {P : Prop} (h : P := by
 obtain ⟨hc, c4, c5, c6, c7⟩ := start h hO hn hop hln
 replace h := Lib.hid h
 replace hO := Lib.hid hO
 replace hn := Lib.hid hn
 replace hop := Lib.hid hop
 replace hln := Lib.hid hln
 replace ht := Lib.hid ht
 go_enter Tryz.func108, Tryz.ntmps108
 go_upto_region 0 with (fail)
 go_quiet (fail)
 replace hc := Lib.hid (hc.out.drewN nq)
 go_wp2_with (first
  | (go_at_call 105; (try clear c6); (try clear c7); go_must (refine note_step hc _ _ (by decide) ?_; intro w1 f1 hc c6 c7; clear f1))
  | (go_at_call 102; (try clear c6); (try clear c7); go_must (refine go_step hc _ ?_; intro w1 f1 hc c6 c7; clear f1))
  | (go_at_call 152; (try clear c6); (try clear c7); go_must (refine tftake_step hc false ht.out ?_; intro w1 f1 hc; clear f1)))
 exact e28) : P := h
theorem e27 {P : Prop} (h : P := by
 first | go_end0 | ((try simp only [Exit.inBlock, Exit.then]); refine bodyPost_ret (results_none rfl _ _ _) rfl ?_)
 refine ⟨rfl, ?_, hc.out.fr⟩
 unfold Tf.tries
 simp only [hop.out, hln.out]
 simp only [Int.reduceEq, and_true, true_and, and_self, and_false, false_and, if_true, if_false, or_false, false_or, or_true, true_or]
 rw [if_pos (by exact ht.out)]
 exact hc.out.at_) : P := h
theorem e28 {P : Prop} (h : P := by
 first | go_end0 | ((try simp only [Exit.inBlock, Exit.then]); refine bodyPost_ret (results_none rfl _ _ _) rfl ?_)
 refine ⟨rfl, ?_, hc.out.fr⟩
 unfold Tf.tries
 simp only [hop.out, hln.out]
 simp only [Int.reduceEq, and_true, true_and, and_self, and_false, false_and, if_true, if_false, or_false, false_or, or_true, true_or]
 rw [if_neg (by intro k; exact absurd (ht.out.symm.trans k) (by decide))]
 exact hc.out.at_) : P := h
theorem e29 {P : Prop} (h : P := by
 first | go_end0 | ((try simp only [Exit.inBlock, Exit.then]); refine bodyPost_ret (results_none rfl _ _ _) rfl ?_)
 refine ⟨rfl, ?_, hc.out.fr⟩
 unfold Tf.tries
 exact e45) : P := h
theorem e30 {P : Prop} (h : P := by
 first | go_end0 | ((try simp only [Exit.inBlock, Exit.then]); refine bodyPost_ret (results_none rfl _ _ _) rfl ?_)
 refine ⟨rfl, ?_, hc.out.fr.trans hF1⟩
 unfold Tf.lines
 exact e166) : P := h
theorem tfmine_walk (x v : Int) {k : Nat} (hk : w.heap[k]? = some (.cells #[.int .u32 x] 22 (0, 0))) : Calls Tryz.prog 99 #[.int .u32 v, .pointer (some ⟨k, 0, none⟩)] w fun e w' => e = .returned (.bool (v == x)) ∧ w' = w := by
 have c := cell_of_heap (j := 0) hk rfl
 replace hk := Lib.hid hk
 go_enter Tryz.func99, Tryz.ntmps99
 go_wp2
 go_ret
 exact ⟨rfl, rfl⟩
theorem tftells {x : Int} {k : Nat} (hk : w.heap[k]? = some (.cells #[.int .u32 x] 22 (0, 0))) (h1 : k ≠ p) (h2 : k ≠ g) : Tells B p pm g r false (fun v => v == x) 99 #[.pointer (some ⟨k, 0, none⟩)] w :=
 ⟨⟨_, Tryz.func99, rfl, rfl⟩, fun w1 v hv hf ha => (tfmine_walk x v (hf.keep hk h1 h2 (by decide))).mono (by rintro e w2 ⟨rfl, rfl⟩; exact ⟨rfl, ha, Fr.refl _ _ _ _⟩)⟩
set_option maxHeartbeats 2000000 in
theorem tfticket_step (h : Hid (Car B w0 w p pm g r m)) (hm : m ≤ 900) (cls : Int) (k : ∀ w1, Fr B p g w w1 → Hid (Car B w0 w1 p pm g (Tf.ticket r cls) (m + 1)) → Q (.returned (.tuple #[])) w1) : Calls Tryz.prog 100 #[.pointer (some ⟨p, 0, none⟩), .int .i64 cls] w Q := by
 have hm' : m ≤ 1000 := by omega
 suffices H : Calls Tryz.prog 100 #[.pointer (some ⟨p, 0, none⟩), .int .i64 cls] w fun e w' => e = .returned (.tuple #[]) ∧ Car B w w' p pm g (Tf.ticket r cls) (m + 1) by
  refine H.mono ?_
  rintro e w1 ⟨rfl, hc⟩
  exact k w1 hc.fr ⟨hc.at_, h.out.fr.trans hc.fr, hc.ok, hc.few⟩
 have hc : Hid (Car B w w p pm g r m) := ⟨h.out.at_, Fr.refl _ _ _ _, h.out.ok, h.out.few⟩
 have c6 := hc.out.c6
 have c7 := hc.out.c7
 replace hm' := Lib.hid hm'
 replace k := Lib.hid k
 replace h := Lib.hid h
 clear hm
 go_enter Tryz.func100, Tryz.ntmps100
 go_wp2_with (first
  | (go_at_call 104; (try clear c6); (try clear c7); go_must (refine add_step hc _ _ (by first | decide | exact w32_u32 _ | exact w32_pres _) ?_; intro w1 f1 hc c6 c7; clear f1))
  | ((with_reducible refine gate_store rfl ?_); refine stA_step hc rfl rfl rfl rfl rfl rfl ?_; clear c6 c7; intro w1 f1 hc c6 c7; clear f1)
  | (go_at_call 105; (try clear c6); (try clear c7); go_must (refine note_step hc _ _ hm'.out ?_; intro w1 f1 hc c6 c7; clear f1))
  | (go_at_call 102; (try clear c6); (try clear c7); go_must (refine go_step hc _ ?_; intro w1 f1 hc c6 c7; clear f1)))
 exact e13
set_option maxHeartbeats 2000000 in
theorem tfenter_step (h : Hid (Car B w0 w p pm g r m)) (hm : m ≤ 900) (what : Int) (k : ∀ w1, Fr B p g w w1 → Hid (Car B w0 w1 p pm g (Tf.enter r what) (m + 1)) → Q (.returned (.tuple #[])) w1) : Calls Tryz.prog 103 #[.pointer (some ⟨p, 0, none⟩), .int .i64 what] w Q := by
 have hm' : m ≤ 1000 := by omega
 suffices H : Calls Tryz.prog 103 #[.pointer (some ⟨p, 0, none⟩), .int .i64 what] w fun e w' => e = .returned (.tuple #[]) ∧ Car B w w' p pm g (Tf.enter r what) (m + 1) by
  refine H.mono ?_
  rintro e w1 ⟨rfl, hc⟩
  exact k w1 hc.fr ⟨hc.at_, h.out.fr.trans hc.fr, hc.ok, hc.few⟩
 have hc : Hid (Car B w w p pm g r m) := ⟨h.out.at_, Fr.refl _ _ _ _, h.out.ok, h.out.few⟩
 have c6 := hc.out.c6
 have c7 := hc.out.c7
 replace hm' := Lib.hid hm'
 replace k := Lib.hid k
 replace h := Lib.hid h
 clear hm
 go_enter Tryz.func103, Tryz.ntmps103
 exact e14
set_option maxHeartbeats 2000000 in
theorem tflook_step (h : Hid (Car B w0 w p pm g r m)) (hm : m ≤ 900) (c may : Int) (k : ∀ w1, Fr B p g w w1 → Hid (Car B w0 w1 p pm g (Tf.look r c may) (m + 1)) → Q (.returned (.tuple #[])) w1) : Calls Tryz.prog 151 #[.pointer (some ⟨p, 0, none⟩), .int .i64 c, .int .i64 may] w Q := by
 have hm' : m ≤ 1000 := by omega
 suffices H : Calls Tryz.prog 151 #[.pointer (some ⟨p, 0, none⟩), .int .i64 c, .int .i64 may] w fun e w' => e = .returned (.tuple #[]) ∧ Car B w w' p pm g (Tf.look r c may) (m + 1) by
  refine H.mono ?_
  rintro e w1 ⟨rfl, hc⟩
  exact k w1 hc.fr ⟨hc.at_, h.out.fr.trans hc.fr, hc.ok, hc.few⟩
 have hc : Hid (Car B w w p pm g r m) := ⟨h.out.at_, Fr.refl _ _ _ _, h.out.ok, h.out.few⟩
 have c6 := hc.out.c6
 have c7 := hc.out.c7
 replace hm' := Lib.hid hm'
 replace k := Lib.hid k
 replace h := Lib.hid h
 clear hm
 have hr : Tf.look r c may = if Stile.ahead r.f.a (r.load c).old > may then (((r.load c).setB (r.load c).old).note 5 0).fin false else if Stile.ahead r.f.a (r.load c).old < may then ((r.load c).setB (r.load c).old).go 0 else ((r.load c).setB (r.load c).old).go 2 := rfl
 rw [hr]
 clear hr
 obtain ⟨n, hnn⟩ : ∃ n, n = Stile.ahead r.f.a (r.load c).old := ⟨_, rfl⟩
 rw [← hnn]
 replace hnn := Lib.hid hnn
 generalize hrr : (if n > may then (((r.load c).setB (r.load c).old).note 5 0).fin false else if n < may then ((r.load c).setB (r.load c).old).go 0 else ((r.load c).setB (r.load c).old).go 2) = rr
 replace hrr := Lib.hid hrr
 go_enter Tryz.func151, Tryz.ntmps151
 go_upto_region 1 with (first
  | (go_at_call 112; (try clear c6); (try clear c7); go_must (refine load_step hc _ ?_; intro w1 f1 hc c6 c7; clear f1))
  | ((with_reducible refine gate_store rfl ?_); refine stB_step hc rfl rfl rfl rfl rfl rfl ?_; clear c6 c7; intro w1 f1 hc c6 c7; clear f1))
 replace hc := Lib.hid hc.out.drew
 have d6 := hc.out.c6
 have d7 : w1.drew.cell? ⟨p, 7, none⟩ = some (.int .u32 (r.load c).old) := hc.out.c7
 clear c6 c7
 refine start_ (n := 12) (S := fun w' => w'.cell? ⟨p, 6, none⟩ = some (.int .u32 r.f.a) ∧ w'.cell? ⟨p, 7, none⟩ = some (.int .u32 (r.load c).old)) (ds := []) #[false, false, false, false, false, false, false, false, false, false, false, false] (by kernel_rfl) rfl rfl ⟨d6, d7⟩ (fun hHeld => ?_)
 refine pu_ 0 14 (mk 12 1) rfl rfl ?_
 refine pu_ 1 15 (mk 12 3) rfl rfl ?_
 refine pu_ 2 16 (mk 12 7) rfl rfl ?_
 refine pu_ 3 17 (mk 12 15) rfl rfl ?_
 refine pu_ 5 19 (mk 12 47) rfl rfl ?_
 refine pu_ 6 20 (mk 12 111) rfl rfl ?_
 refine pu_ 7 21 (mk 12 239) rfl rfl ?_
 refine pu_ 8 22 (mk 12 495) rfl rfl ?_
 refine tk2_ 4 18 (mk 12 511) rfl rfl hHeld ?_
 refine tk2_ 9 23 (mk 12 1023) rfl rfl hHeld ?_
 refine one_ (i := 10) (N := some 24) (mk 12 2047) rfl rfl (by kernel_rfl) (by decide) (fun K hK => ?_)
 refine goes_ Tryz.func188 (by kernel_rfl) rfl #[.int .u32 r.f.a, .int .u32 (r.load c).old] (by rfl) rfl rfl (by simp only [List.map_toArray, List.map_cons, List.map_nil]; rfl) ?_
 with_reducible refine (ahead_walk _ _ _).mono ?_
 rintro e w2 ⟨rfl, rfl⟩
 refine ⟨_, rfl, ?_⟩
 rw [← hnn.out]
 refine hK.out _ _ ⟨d6, d7⟩ (fun hHeld => ?_)
 clear hK K
 refine nm_ ?_
 refine pu_ 11 6 (mk 12 4095) rfl rfl ?_
 refine done_ (by kernel_rfl) ?_
 by_cases hgt : n > may
 ·have hb : decide (n > may) = true := decide_eq_true hgt
  replace hgt := Lib.hid hgt
  go_wp2_with (first
    | (go_at_call 105; (try clear c6); (try clear c7); go_must (refine note_step hc _ _ hm'.out ?_; intro w1 f1 hc c6 c7; clear f1))
    | (go_at_call 107; (try clear c6); (try clear c7); go_must (refine end_step hc _ ?_; intro w1 f1 hc c6 c7; clear f1))
    | (go_at_call 102; (try clear c6); (try clear c7); go_must (refine go_step hc _ ?_; intro w1 f1 hc c6 c7; clear f1)))
  exact e15
 ·have hb : decide (n > may) = false := decide_eq_false hgt
  replace hgt := Lib.hid hgt
  by_cases hlt : n < may
  ·have hb2 : decide (n < may) = true := decide_eq_true hlt
   replace hlt := Lib.hid hlt
   go_wp2_with (first
     | (go_at_call 105; (try clear c6); (try clear c7); go_must (refine note_step hc _ _ hm'.out ?_; intro w1 f1 hc c6 c7; clear f1))
     | (go_at_call 107; (try clear c6); (try clear c7); go_must (refine end_step hc _ ?_; intro w1 f1 hc c6 c7; clear f1))
     | (go_at_call 102; (try clear c6); (try clear c7); go_must (refine go_step hc _ ?_; intro w1 f1 hc c6 c7; clear f1)))
   first | go_end0 | ((try simp only [Exit.inBlock, Exit.then]); refine bodyPost_ret (results_none rfl _ _ _) rfl ?_)
   refine ⟨rfl, ?_⟩
   rw [← hrr.out, if_neg (by have := hgt.out; omega), if_pos hlt.out]
   exact e16
  ·have hb2 : decide (n < may) = false := decide_eq_false hlt
   replace hlt := Lib.hid hlt
   go_wp2_with (first
     | (go_at_call 105; (try clear c6); (try clear c7); go_must (refine note_step hc _ _ hm'.out ?_; intro w1 f1 hc c6 c7; clear f1))
     | (go_at_call 107; (try clear c6); (try clear c7); go_must (refine end_step hc _ ?_; intro w1 f1 hc c6 c7; clear f1))
     | (go_at_call 102; (try clear c6); (try clear c7); go_must (refine go_step hc _ ?_; intro w1 f1 hc c6 c7; clear f1)))
   first | go_end0 | ((try simp only [Exit.inBlock, Exit.then]); refine bodyPost_ret (results_none rfl _ _ _) rfl ?_)
   refine ⟨rfl, ?_⟩
   rw [← hrr.out, if_neg (by have := hgt.out; omega), if_neg (by have := hlt.out; omega)]
   exact e16
set_option maxHeartbeats 2000000 in
theorem tftake_step (h : Hid (Car B w0 w p pm g r m)) (v : Bool) (hv : (Tf.take r).2 = v) (k : ∀ w1, Fr B p g w w1 → Hid (Car B w0 w1 p pm g (Tf.take r).1 m) → Q (.returned (.bool v)) w1) : Calls Tryz.prog 152 #[.pointer (some ⟨p, 0, none⟩)] w Q := by
 have hr : Tf.take r = if (r.cas 0 r.f.a (u32 (r.f.a + 1))).hitCas r.f.a = true then (r.cas 0 r.f.a (u32 (r.f.a + 1)), true) else ((r.cas 0 r.f.a (u32 (r.f.a + 1))).go 0, false) := rfl
 suffices H : Calls Tryz.prog 152 #[.pointer (some ⟨p, 0, none⟩)] w fun e w' => e = .returned (.bool v) ∧ Car B w w' p pm g (Tf.take r).1 m by
  refine H.mono ?_
  rintro e w1 ⟨rfl, hc⟩
  exact k w1 hc.fr ⟨hc.at_, h.out.fr.trans hc.fr, hc.ok, hc.few⟩
 have hc : Hid (Car B w w p pm g r m) := ⟨h.out.at_, Fr.refl _ _ _ _, h.out.ok, h.out.few⟩
 have hcs : (r.cas 0 r.f.a (u32 (r.f.a + 1))).hitCas r.f.a = v := by
  rw [hr] at hv
  rw [← hv]
  split
  ·assumption
  ·rename_i hne
   simpa using hne
 rw [hr, hcs]
 clear hr hv
 have c6 := hc.out.drew.c6
 replace k := Lib.hid k
 replace h := Lib.hid h
 replace hcs := Lib.hid hcs
 go_enter Tryz.func152, Tryz.ntmps152
 go_upto_region 1 with (fail)
 refine start_ (n := 13) (S := fun w' => w'.cell? ⟨p, 6, none⟩ = some (.int .u32 r.f.a)) (ds := [12]) #[false, false, false, false, false, false, false, false, false, false, false, false, false] (by kernel_rfl) rfl rfl (c6) (fun hHeld => ?_)
 refine pu_ 0 3 (mk 13 1) rfl rfl ?_
 refine pu_ 1 4 (mk 13 3) rfl rfl ?_
 refine pu_ 2 5 (mk 13 7) rfl rfl ?_
 refine pu_ 3 6 (mk 13 15) rfl rfl ?_
 refine pu_ 4 7 (mk 13 31) rfl rfl ?_
 refine pu_ 6 9 (mk 13 95) rfl rfl ?_
 refine pu_ 7 10 (mk 13 223) rfl rfl ?_
 refine pu_ 8 11 (mk 13 479) rfl rfl ?_
 refine pu_ 9 12 (mk 13 991) rfl rfl ?_
 refine take_ (i := 5) (N := some 8) (v := ?_) (a' := ?_) (mk 13 1023) rfl rfl (by kernel_rfl) (fun _ _ _ h => h) (Or.inl ⟨by rfl, ?_⟩) hHeld ?_ ?_
 rotate_left
 ·intro w' s0
  go_simp
  with_reducible rfl
 rotate_left
 ·exact e4
 refine take_ (i := 10) (N := some 13) (v := ?_) (a' := ?_) (mk 13 2047) rfl rfl (by kernel_rfl) (fun _ _ _ h => h) (Or.inl ⟨by rfl, ?_⟩) hHeld ?_ ?_
 rotate_left
 ·intro w' s0
  go_simp
  with_reducible rfl
 rotate_left
 ·exact e4
 refine pu_ 11 14 (mk 13 4095) rfl rfl ?_
 refine last_ (i := 12) (N := some 15) (mk 13 8191) rfl rfl (by kernel_rfl) (by decide) (fun K hK => ?_)
 refine goes_ Tryz.func128 (by kernel_rfl) rfl #[.pointer (some ⟨p, 0, none⟩), .int .i64 0, .int .u32 r.f.a, .int .u32 (u32 (r.f.a + 1))] (by rfl) rfl rfl (by simp only [List.map_toArray, List.map_cons, List.map_nil]; rfl) ?_
 refine cas_step (Lib.hid hc.out.drew) _ _ _ v hcs.out hc.out.ok.a (w32_u32 _) ?_
 intro w1 f1 hc d6 d7
 refine ⟨_, rfl, ?_⟩
 refine hK.out _ _ ?_
 clear hK K
 refine nm_ ?_
 refine done_ (by kernel_rfl) ?_
 clear c6
 cases v with
 | true =>
  go_wp2
  go_ret
  exact ⟨rfl, hc.out⟩
 | false =>
  go_wp2_with (first
    | (go_at_call 102; (try clear c6); (try clear c7); go_must (refine go_step hc _ ?_; intro w1 f1 hc c6 c7; clear f1)))
  go_ret
  exact ⟨rfl, hc.out⟩
set_option maxHeartbeats 4000000 in
theorem tf_1_0 (h : At B w p pm g r) (hO : Ok r) (hn : r.notes = []) (hop : r.f.op = 1) (hln : r.f.line = 0) : Calls Tryz.prog 71 #[.pointer (some ⟨p, 0, none⟩)] w fun e w' => e = .returned (.tuple #[]) ∧ At B w' p pm g (Tf.lines r) ∧ Fr B p g w w' := e17
set_option maxHeartbeats 4000000 in
theorem tf_3_0 (h : At B w p pm g r) (hO : Ok r) (hn : r.notes = []) (hop : r.f.op = 3) (hln : r.f.line = 0) : Calls Tryz.prog 71 #[.pointer (some ⟨p, 0, none⟩)] w fun e w' => e = .returned (.tuple #[]) ∧ At B w' p pm g (Tf.lines r) ∧ Fr B p g w w' := e17
set_option maxHeartbeats 4000000 in
theorem tf_1_2 (h : At B w p pm g r) (hO : Ok r) (hn : r.notes = []) (hop : r.f.op = 1) (hln : r.f.line = 2) : Calls Tryz.prog 71 #[.pointer (some ⟨p, 0, none⟩)] w fun e w' => e = .returned (.tuple #[]) ∧ At B w' p pm g (Tf.lines r) ∧ Fr B p g w w' := e18
set_option maxHeartbeats 4000000 in
theorem tf_5_3 (h : At B w p pm g r) (hO : Ok r) (hn : r.notes = []) (hop : r.f.op = 5) (hln : r.f.line = 3) : Calls Tryz.prog 71 #[.pointer (some ⟨p, 0, none⟩)] w fun e w' => e = .returned (.tuple #[]) ∧ At B w' p pm g (Tf.lines r) ∧ Fr B p g w w' := e18
set_option maxHeartbeats 4000000 in
theorem tf_8_0 (h : At B w p pm g r) (hO : Ok r) (hn : r.notes = []) (hop : r.f.op = 8) (hln : r.f.line = 0) : Calls Tryz.prog 71 #[.pointer (some ⟨p, 0, none⟩)] w fun e w' => e = .returned (.tuple #[]) ∧ At B w' p pm g (Tf.lines r) ∧ Fr B p g w w' := e18
set_option maxHeartbeats 4000000 in
theorem tf_2_0 (h : At B w p pm g r) (hO : Ok r) (hn : r.notes = []) (hop : r.f.op = 2) (hln : r.f.line = 0) : Calls Tryz.prog 71 #[.pointer (some ⟨p, 0, none⟩)] w fun e w' => e = .returned (.tuple #[]) ∧ At B w' p pm g (Tf.lines r) ∧ Fr B p g w w' := e19
set_option maxHeartbeats 4000000 in
theorem tf_4_0 (h : At B w p pm g r) (hO : Ok r) (hn : r.notes = []) (hop : r.f.op = 4) (hln : r.f.line = 0) : Calls Tryz.prog 71 #[.pointer (some ⟨p, 0, none⟩)] w fun e w' => e = .returned (.tuple #[]) ∧ At B w' p pm g (Tf.lines r) ∧ Fr B p g w w' := by
 obtain ⟨b, hbb⟩ : ∃ b, b = w.heap.size := ⟨_, rfl⟩
 obtain ⟨W, hW⟩ : ∃ W, W = w.alloc (.cells #[.int .u32 r.f.a] 22) := ⟨_, rfl⟩
 obtain ⟨hc, c4, c5, c6, c7, hb, nbp, nbg, v6, v7⟩ := startbox h hO hn hop hln hW hbb
 have cb := cell_of_heap (j := 0) hb.out rfl
 replace h := Lib.hid h
 replace hO := Lib.hid hO
 replace hn := Lib.hid hn
 replace hop := Lib.hid hop
 replace hln := Lib.hid hln
 go_enter Tryz.func71, Tryz.ntmps71
 go_upto_region 2 with (fail)
 rw [← hW, ← hbb]
 clear v6 v7
 replace hW := Lib.hid hW
 replace hbb := Lib.hid hbb
 go_upto_region 3 with (fail)
 go_quiet (fail)
 replace hc := Lib.hid (hc.out.drewN nq)
 go_wp2_with (first
  | (go_at_call 104; (try clear c6); (try clear c7); (try clear cb); go_must (refine add_step hc _ _ (by first | decide | exact w32_u32 _ | exact w32_pres _) ?_; intro w1 f1 hc c6 c7; replace hb := Lib.hid (f1.keep hb.out nbp nbg (by decide)); have cb := cell_of_heap (j := 0) hb.out rfl; clear f1))
  | (go_at_call 105; (try clear c6); (try clear c7); (try clear cb); go_must (refine note_step hc _ _ (by decide) ?_; intro w1 f1 hc c6 c7; replace hb := Lib.hid (f1.keep hb.out nbp nbg (by decide)); have cb := cell_of_heap (j := 0) hb.out rfl; clear f1))
  | (go_at_call 106; (try clear c6); (try clear c7); (try clear cb); go_must (refine wake_step hc _ ?_; intro w1 f1 hc c6 c7; replace hb := Lib.hid (f1.keep hb.out nbp nbg (by decide)); have cb := cell_of_heap (j := 0) hb.out rfl; clear f1))
  | (go_at_call 102; (try clear c6); (try clear c7); (try clear cb); go_must (refine go_step hc _ ?_; intro w1 f1 hc c6 c7; replace hb := Lib.hid (f1.keep hb.out nbp nbg (by decide)); have cb := cell_of_heap (j := 0) hb.out rfl; clear f1)))
 exact e20
set_option maxHeartbeats 4000000 in
theorem tf_4_1 (h : At B w p pm g r) (hO : Ok r) (hn : r.notes = []) (hop : r.f.op = 4) (hln : r.f.line = 1) : Calls Tryz.prog 71 #[.pointer (some ⟨p, 0, none⟩)] w fun e w' => e = .returned (.tuple #[]) ∧ At B w' p pm g (Tf.lines r) ∧ Fr B p g w w' := e19
set_option maxHeartbeats 4000000 in
theorem tf_1_1_t_t (h : At B w p pm g r) (hO : Ok r) (hn : r.notes = []) (hop : r.f.op = 1) (hln : r.f.line = 1) (hs : (r.waited 1 (fun v => v == r.f.a)).seen = true) (hd : (r.waited 1 (fun v => v == r.f.a)).done = true) : Calls Tryz.prog 71 #[.pointer (some ⟨p, 0, none⟩)] w fun e w' => e = .returned (.tuple #[]) ∧ At B w' p pm g (Tf.lines r) ∧ Fr B p g w w' := e21
set_option maxHeartbeats 4000000 in
theorem tf_3_1_t_t (h : At B w p pm g r) (hO : Ok r) (hn : r.notes = []) (hop : r.f.op = 3) (hln : r.f.line = 1) (hs : (r.waited 2 (fun v => v == r.f.a)).seen = true) (hd : (r.waited 2 (fun v => v == r.f.a)).done = true) : Calls Tryz.prog 71 #[.pointer (some ⟨p, 0, none⟩)] w fun e w' => e = .returned (.tuple #[]) ∧ At B w' p pm g (Tf.lines r) ∧ Fr B p g w w' := e22
set_option maxHeartbeats 4000000 in
theorem tf_1_1_t_f (h : At B w p pm g r) (hO : Ok r) (hn : r.notes = []) (hop : r.f.op = 1) (hln : r.f.line = 1) (hs : (r.waited 1 (fun v => v == r.f.a)).seen = true) (hd : (r.waited 1 (fun v => v == r.f.a)).done = false) : Calls Tryz.prog 71 #[.pointer (some ⟨p, 0, none⟩)] w fun e w' => e = .returned (.tuple #[]) ∧ At B w' p pm g (Tf.lines r) ∧ Fr B p g w w' := e21
set_option maxHeartbeats 4000000 in
theorem tf_3_1_t_f (h : At B w p pm g r) (hO : Ok r) (hn : r.notes = []) (hop : r.f.op = 3) (hln : r.f.line = 1) (hs : (r.waited 2 (fun v => v == r.f.a)).seen = true) (hd : (r.waited 2 (fun v => v == r.f.a)).done = false) : Calls Tryz.prog 71 #[.pointer (some ⟨p, 0, none⟩)] w fun e w' => e = .returned (.tuple #[]) ∧ At B w' p pm g (Tf.lines r) ∧ Fr B p g w w' := e22
set_option maxHeartbeats 4000000 in
theorem tf_1_1_f_t (h : At B w p pm g r) (hO : Ok r) (hn : r.notes = []) (hop : r.f.op = 1) (hln : r.f.line = 1) (hs : (r.waited 1 (fun v => v == r.f.a)).seen = false) (hd : (r.waited 1 (fun v => v == r.f.a)).done = true) : Calls Tryz.prog 71 #[.pointer (some ⟨p, 0, none⟩)] w fun e w' => e = .returned (.tuple #[]) ∧ At B w' p pm g (Tf.lines r) ∧ Fr B p g w w' := e21
set_option maxHeartbeats 4000000 in
theorem tf_3_1_f_t (h : At B w p pm g r) (hO : Ok r) (hn : r.notes = []) (hop : r.f.op = 3) (hln : r.f.line = 1) (hs : (r.waited 2 (fun v => v == r.f.a)).seen = false) (hd : (r.waited 2 (fun v => v == r.f.a)).done = true) : Calls Tryz.prog 71 #[.pointer (some ⟨p, 0, none⟩)] w fun e w' => e = .returned (.tuple #[]) ∧ At B w' p pm g (Tf.lines r) ∧ Fr B p g w w' := e22
set_option maxHeartbeats 4000000 in
theorem tf_1_1_f_f (h : At B w p pm g r) (hO : Ok r) (hn : r.notes = []) (hop : r.f.op = 1) (hln : r.f.line = 1) (hs : (r.waited 1 (fun v => v == r.f.a)).seen = false) (hd : (r.waited 1 (fun v => v == r.f.a)).done = false) : Calls Tryz.prog 71 #[.pointer (some ⟨p, 0, none⟩)] w fun e w' => e = .returned (.tuple #[]) ∧ At B w' p pm g (Tf.lines r) ∧ Fr B p g w w' := e21
set_option maxHeartbeats 4000000 in
theorem tf_3_1_f_f (h : At B w p pm g r) (hO : Ok r) (hn : r.notes = []) (hop : r.f.op = 3) (hln : r.f.line = 1) (hs : (r.waited 2 (fun v => v == r.f.a)).seen = false) (hd : (r.waited 2 (fun v => v == r.f.a)).done = false) : Calls Tryz.prog 71 #[.pointer (some ⟨p, 0, none⟩)] w fun e w' => e = .returned (.tuple #[]) ∧ At B w' p pm g (Tf.lines r) ∧ Fr B p g w w' := e22
set_option maxHeartbeats 4000000 in
theorem tft_5_0 (h : At B w p pm g r) (hO : Ok r) (hn : r.notes = []) (hop : r.f.op = 5) (hln : r.f.line = 0) : Calls Tryz.prog 108 #[.pointer (some ⟨p, 0, none⟩)] w fun e w' => e = .returned (.tuple #[]) ∧ At B w' p pm g (Tf.tries r) ∧ Fr B p g w w' := e23
set_option maxHeartbeats 4000000 in
theorem tft_5_1 (h : At B w p pm g r) (hO : Ok r) (hn : r.notes = []) (hop : r.f.op = 5) (hln : r.f.line = 1) : Calls Tryz.prog 108 #[.pointer (some ⟨p, 0, none⟩)] w fun e w' => e = .returned (.tuple #[]) ∧ At B w' p pm g (Tf.tries r) ∧ Fr B p g w w' := e24
set_option maxHeartbeats 4000000 in
theorem tft_5_2_t (h : At B w p pm g r) (hO : Ok r) (hn : r.notes = []) (hop : r.f.op = 5) (hln : r.f.line = 2) (ht : (Tf.take r).2 = true) : Calls Tryz.prog 108 #[.pointer (some ⟨p, 0, none⟩)] w fun e w' => e = .returned (.tuple #[]) ∧ At B w' p pm g (Tf.tries r) ∧ Fr B p g w w' := e25
set_option maxHeartbeats 4000000 in
theorem tft_5_2_f (h : At B w p pm g r) (hO : Ok r) (hn : r.notes = []) (hop : r.f.op = 5) (hln : r.f.line = 2) (ht : (Tf.take r).2 = false) : Calls Tryz.prog 108 #[.pointer (some ⟨p, 0, none⟩)] w fun e w' => e = .returned (.tuple #[]) ∧ At B w' p pm g (Tf.tries r) ∧ Fr B p g w w' := e26
set_option maxHeartbeats 4000000 in
theorem tft_6_0 (h : At B w p pm g r) (hO : Ok r) (hn : r.notes = []) (hop : r.f.op = 6) (hln : r.f.line = 0) : Calls Tryz.prog 108 #[.pointer (some ⟨p, 0, none⟩)] w fun e w' => e = .returned (.tuple #[]) ∧ At B w' p pm g (Tf.tries r) ∧ Fr B p g w w' := e23
set_option maxHeartbeats 4000000 in
theorem tft_6_1 (h : At B w p pm g r) (hO : Ok r) (hn : r.notes = []) (hop : r.f.op = 6) (hln : r.f.line = 1) : Calls Tryz.prog 108 #[.pointer (some ⟨p, 0, none⟩)] w fun e w' => e = .returned (.tuple #[]) ∧ At B w' p pm g (Tf.tries r) ∧ Fr B p g w w' := e24
set_option maxHeartbeats 4000000 in
theorem tft_6_2_t (h : At B w p pm g r) (hO : Ok r) (hn : r.notes = []) (hop : r.f.op = 6) (hln : r.f.line = 2) (ht : (Tf.take r).2 = true) : Calls Tryz.prog 108 #[.pointer (some ⟨p, 0, none⟩)] w fun e w' => e = .returned (.tuple #[]) ∧ At B w' p pm g (Tf.tries r) ∧ Fr B p g w w' := by
 obtain ⟨hc, c4, c5, c6, c7⟩ := start h hO hn hop hln
 replace h := Lib.hid h
 replace hO := Lib.hid hO
 replace hn := Lib.hid hn
 replace hop := Lib.hid hop
 replace hln := Lib.hid hln
 replace ht := Lib.hid ht
 go_enter Tryz.func108, Tryz.ntmps108
 go_upto_region 0 with (fail)
 go_quiet (fail)
 replace hc := Lib.hid (hc.out.drewN nq)
 go_wp2_with (first
  | (go_at_call 105; (try clear c6); (try clear c7); go_must (refine note_step hc _ _ (by decide) ?_; intro w1 f1 hc c6 c7; clear f1))
  | (go_at_call 107; (try clear c6); (try clear c7); go_must (refine end_step hc _ ?_; intro w1 f1 hc c6 c7; clear f1))
  | (go_at_call 152; (try clear c6); (try clear c7); go_must (refine tftake_step hc true ht.out ?_; intro w1 f1 hc; clear f1)))
 exact e27
set_option maxHeartbeats 4000000 in
theorem tft_6_2_f (h : At B w p pm g r) (hO : Ok r) (hn : r.notes = []) (hop : r.f.op = 6) (hln : r.f.line = 2) (ht : (Tf.take r).2 = false) : Calls Tryz.prog 108 #[.pointer (some ⟨p, 0, none⟩)] w fun e w' => e = .returned (.tuple #[]) ∧ At B w' p pm g (Tf.tries r) ∧ Fr B p g w w' := by
 obtain ⟨hc, c4, c5, c6, c7⟩ := start h hO hn hop hln
 replace h := Lib.hid h
 replace hO := Lib.hid hO
 replace hn := Lib.hid hn
 replace hop := Lib.hid hop
 replace hln := Lib.hid hln
 replace ht := Lib.hid ht
 go_enter Tryz.func108, Tryz.ntmps108
 go_upto_region 0 with (fail)
 go_quiet (fail)
 replace hc := Lib.hid (hc.out.drewN nq)
 go_wp2_with (first
  | (go_at_call 105; (try clear c6); (try clear c7); go_must (refine note_step hc _ _ (by decide) ?_; intro w1 f1 hc c6 c7; clear f1))
  | (go_at_call 107; (try clear c6); (try clear c7); go_must (refine end_step hc _ ?_; intro w1 f1 hc c6 c7; clear f1))
  | (go_at_call 152; (try clear c6); (try clear c7); go_must (refine tftake_step hc false ht.out ?_; intro w1 f1 hc; clear f1)))
 exact e28
set_option maxHeartbeats 4000000 in
theorem tft_7_0 (h : At B w p pm g r) (hO : Ok r) (hn : r.notes = []) (hop : r.f.op = 7) (hln : r.f.line = 0) : Calls Tryz.prog 108 #[.pointer (some ⟨p, 0, none⟩)] w fun e w' => e = .returned (.tuple #[]) ∧ At B w' p pm g (Tf.tries r) ∧ Fr B p g w w' := e23
set_option maxHeartbeats 4000000 in
theorem tft_7_1 (h : At B w p pm g r) (hO : Ok r) (hn : r.notes = []) (hop : r.f.op = 7) (hln : r.f.line = 1) : Calls Tryz.prog 108 #[.pointer (some ⟨p, 0, none⟩)] w fun e w' => e = .returned (.tuple #[]) ∧ At B w' p pm g (Tf.tries r) ∧ Fr B p g w w' := e24
set_option maxHeartbeats 4000000 in
theorem tft_7_2_t (h : At B w p pm g r) (hO : Ok r) (hn : r.notes = []) (hop : r.f.op = 7) (hln : r.f.line = 2) (ht : (Tf.take r).2 = true) : Calls Tryz.prog 108 #[.pointer (some ⟨p, 0, none⟩)] w fun e w' => e = .returned (.tuple #[]) ∧ At B w' p pm g (Tf.tries r) ∧ Fr B p g w w' := e25
set_option maxHeartbeats 4000000 in
theorem tft_7_2_f (h : At B w p pm g r) (hO : Ok r) (hn : r.notes = []) (hop : r.f.op = 7) (hln : r.f.line = 2) (ht : (Tf.take r).2 = false) : Calls Tryz.prog 108 #[.pointer (some ⟨p, 0, none⟩)] w fun e w' => e = .returned (.tuple #[]) ∧ At B w' p pm g (Tf.tries r) ∧ Fr B p g w w' := e26
set_option maxHeartbeats 4000000 in
theorem tft_7_3 (h : At B w p pm g r) (hO : Ok r) (hn : r.notes = []) (hop : r.f.op = 7) (hln : r.f.line = 3) : Calls Tryz.prog 108 #[.pointer (some ⟨p, 0, none⟩)] w fun e w' => e = .returned (.tuple #[]) ∧ At B w' p pm g (Tf.tries r) ∧ Fr B p g w w' := by
 obtain ⟨hc, c4, c5, c6, c7⟩ := start h hO hn hop hln
 replace h := Lib.hid h
 replace hO := Lib.hid hO
 replace hn := Lib.hid hn
 replace hop := Lib.hid hop
 replace hln := Lib.hid hln
 go_enter Tryz.func108, Tryz.ntmps108
 go_upto_region 0 with (fail)
 go_quiet (fail)
 replace hc := Lib.hid (hc.out.drewN nq)
 go_wp2_with (first
  | (go_at_call 104; (try clear c6); (try clear c7); go_must (refine add_step hc _ _ (by first | decide | exact w32_u32 _ | exact w32_pres _) ?_; intro w1 f1 hc c6 c7; clear f1))
  | (go_at_call 107; (try clear c6); (try clear c7); go_must (refine end_step hc _ ?_; intro w1 f1 hc c6 c7; clear f1)))
 exact e29
set_option maxHeartbeats 4000000 in
theorem tf_5_0 (h : At B w p pm g r) (hO : Ok r) (hn : r.notes = []) (hop : r.f.op = 5) (hln : r.f.line = 0) : Calls Tryz.prog 71 #[.pointer (some ⟨p, 0, none⟩)] w fun e w' => e = .returned (.tuple #[]) ∧ At B w' p pm g (Tf.lines r) ∧ Fr B p g w w' := by
 obtain ⟨b, hbb⟩ : ∃ b, b = w.heap.size := ⟨_, rfl⟩
 obtain ⟨W, hW⟩ : ∃ W, W = w.alloc (.cells #[.int .u32 r.f.a] 22) := ⟨_, rfl⟩
 obtain ⟨hc, c4, c5, c6, c7, hb, nbp, nbg, v6, v7⟩ := startbox h hO hn hop hln hW hbb
 have cb := cell_of_heap (j := 0) hb.out rfl
 replace h := Lib.hid h
 replace hO := Lib.hid hO
 replace hn := Lib.hid hn
 replace hop := Lib.hid hop
 replace hln := Lib.hid hln
 go_enter Tryz.func71, Tryz.ntmps71
 go_upto_region 2 with (fail)
 rw [← hW, ← hbb]
 clear v6 v7
 replace hW := Lib.hid hW
 replace hbb := Lib.hid hbb
 go_upto_region 3 with (fail)
 go_quiet (fail)
 replace hc := Lib.hid (hc.out.drewN nq)
 go_wp2_with (first
  | (go_at_call 108; go_must (refine (tft_5_0 (hc.out.at_) hc.out.ok (List.length_eq_zero_iff.1 (Nat.le_zero.1 hc.out.few)) hop.out hln.out).mono ?_; rintro e w1 ⟨rfl, hA1, hF1⟩)))
 exact e30
set_option maxHeartbeats 4000000 in
theorem tf_5_1 (h : At B w p pm g r) (hO : Ok r) (hn : r.notes = []) (hop : r.f.op = 5) (hln : r.f.line = 1) : Calls Tryz.prog 71 #[.pointer (some ⟨p, 0, none⟩)] w fun e w' => e = .returned (.tuple #[]) ∧ At B w' p pm g (Tf.lines r) ∧ Fr B p g w w' := by
 obtain ⟨b, hbb⟩ : ∃ b, b = w.heap.size := ⟨_, rfl⟩
 obtain ⟨W, hW⟩ : ∃ W, W = w.alloc (.cells #[.int .u32 r.f.a] 22) := ⟨_, rfl⟩
 obtain ⟨hc, c4, c5, c6, c7, hb, nbp, nbg, v6, v7⟩ := startbox h hO hn hop hln hW hbb
 have cb := cell_of_heap (j := 0) hb.out rfl
 replace h := Lib.hid h
 replace hO := Lib.hid hO
 replace hn := Lib.hid hn
 replace hop := Lib.hid hop
 replace hln := Lib.hid hln
 go_enter Tryz.func71, Tryz.ntmps71
 go_upto_region 2 with (fail)
 rw [← hW, ← hbb]
 clear v6 v7
 replace hW := Lib.hid hW
 replace hbb := Lib.hid hbb
 go_upto_region 3 with (fail)
 go_quiet (fail)
 replace hc := Lib.hid (hc.out.drewN nq)
 go_wp2_with (first
  | (go_at_call 108; go_must (refine (tft_5_1 (hc.out.at_) hc.out.ok (List.length_eq_zero_iff.1 (Nat.le_zero.1 hc.out.few)) hop.out hln.out).mono ?_; rintro e w1 ⟨rfl, hA1, hF1⟩)))
 exact e30
set_option maxHeartbeats 4000000 in
theorem tf_5_2_t (h : At B w p pm g r) (hO : Ok r) (hn : r.notes = []) (hop : r.f.op = 5) (hln : r.f.line = 2) (ht : (Tf.take r).2 = true) : Calls Tryz.prog 71 #[.pointer (some ⟨p, 0, none⟩)] w fun e w' => e = .returned (.tuple #[]) ∧ At B w' p pm g (Tf.lines r) ∧ Fr B p g w w' := by
 obtain ⟨b, hbb⟩ : ∃ b, b = w.heap.size := ⟨_, rfl⟩
 obtain ⟨W, hW⟩ : ∃ W, W = w.alloc (.cells #[.int .u32 r.f.a] 22) := ⟨_, rfl⟩
 obtain ⟨hc, c4, c5, c6, c7, hb, nbp, nbg, v6, v7⟩ := startbox h hO hn hop hln hW hbb
 have cb := cell_of_heap (j := 0) hb.out rfl
 replace h := Lib.hid h
 replace hO := Lib.hid hO
 replace hn := Lib.hid hn
 replace hop := Lib.hid hop
 replace hln := Lib.hid hln
 replace ht := Lib.hid ht
 go_enter Tryz.func71, Tryz.ntmps71
 go_upto_region 2 with (fail)
 rw [← hW, ← hbb]
 clear v6 v7
 replace hW := Lib.hid hW
 replace hbb := Lib.hid hbb
 go_upto_region 3 with (fail)
 go_quiet (fail)
 replace hc := Lib.hid (hc.out.drewN nq)
 go_wp2_with (first
  | (go_at_call 108; go_must (refine (tft_5_2_t (hc.out.at_) hc.out.ok (List.length_eq_zero_iff.1 (Nat.le_zero.1 hc.out.few)) hop.out hln.out ht.out).mono ?_; rintro e w1 ⟨rfl, hA1, hF1⟩)))
 exact e30
set_option maxHeartbeats 4000000 in
theorem tf_5_2_f (h : At B w p pm g r) (hO : Ok r) (hn : r.notes = []) (hop : r.f.op = 5) (hln : r.f.line = 2) (ht : (Tf.take r).2 = false) : Calls Tryz.prog 71 #[.pointer (some ⟨p, 0, none⟩)] w fun e w' => e = .returned (.tuple #[]) ∧ At B w' p pm g (Tf.lines r) ∧ Fr B p g w w' := by
 obtain ⟨b, hbb⟩ : ∃ b, b = w.heap.size := ⟨_, rfl⟩
 obtain ⟨W, hW⟩ : ∃ W, W = w.alloc (.cells #[.int .u32 r.f.a] 22) := ⟨_, rfl⟩
 obtain ⟨hc, c4, c5, c6, c7, hb, nbp, nbg, v6, v7⟩ := startbox h hO hn hop hln hW hbb
 have cb := cell_of_heap (j := 0) hb.out rfl
 replace h := Lib.hid h
 replace hO := Lib.hid hO
 replace hn := Lib.hid hn
 replace hop := Lib.hid hop
 replace hln := Lib.hid hln
 replace ht := Lib.hid ht
 go_enter Tryz.func71, Tryz.ntmps71
 go_upto_region 2 with (fail)
 rw [← hW, ← hbb]
 clear v6 v7
 replace hW := Lib.hid hW
 replace hbb := Lib.hid hbb
 go_upto_region 3 with (fail)
 go_quiet (fail)
 replace hc := Lib.hid (hc.out.drewN nq)
 go_wp2_with (first
  | (go_at_call 108; go_must (refine (tft_5_2_f (hc.out.at_) hc.out.ok (List.length_eq_zero_iff.1 (Nat.le_zero.1 hc.out.few)) hop.out hln.out ht.out).mono ?_; rintro e w1 ⟨rfl, hA1, hF1⟩)))
 exact e30
set_option maxHeartbeats 4000000 in
theorem tf_6_0 (h : At B w p pm g r) (hO : Ok r) (hn : r.notes = []) (hop : r.f.op = 6) (hln : r.f.line = 0) : Calls Tryz.prog 71 #[.pointer (some ⟨p, 0, none⟩)] w fun e w' => e = .returned (.tuple #[]) ∧ At B w' p pm g (Tf.lines r) ∧ Fr B p g w w' := by
 obtain ⟨b, hbb⟩ : ∃ b, b = w.heap.size := ⟨_, rfl⟩
 obtain ⟨W, hW⟩ : ∃ W, W = w.alloc (.cells #[.int .u32 r.f.a] 22) := ⟨_, rfl⟩
 obtain ⟨hc, c4, c5, c6, c7, hb, nbp, nbg, v6, v7⟩ := startbox h hO hn hop hln hW hbb
 have cb := cell_of_heap (j := 0) hb.out rfl
 replace h := Lib.hid h
 replace hO := Lib.hid hO
 replace hn := Lib.hid hn
 replace hop := Lib.hid hop
 replace hln := Lib.hid hln
 go_enter Tryz.func71, Tryz.ntmps71
 go_upto_region 2 with (fail)
 rw [← hW, ← hbb]
 clear v6 v7
 replace hW := Lib.hid hW
 replace hbb := Lib.hid hbb
 go_upto_region 3 with (fail)
 go_quiet (fail)
 replace hc := Lib.hid (hc.out.drewN nq)
 go_wp2_with (first
  | (go_at_call 108; go_must (refine (tft_6_0 (hc.out.at_) hc.out.ok (List.length_eq_zero_iff.1 (Nat.le_zero.1 hc.out.few)) hop.out hln.out).mono ?_; rintro e w1 ⟨rfl, hA1, hF1⟩)))
 exact e30
set_option maxHeartbeats 4000000 in
theorem tf_6_1 (h : At B w p pm g r) (hO : Ok r) (hn : r.notes = []) (hop : r.f.op = 6) (hln : r.f.line = 1) : Calls Tryz.prog 71 #[.pointer (some ⟨p, 0, none⟩)] w fun e w' => e = .returned (.tuple #[]) ∧ At B w' p pm g (Tf.lines r) ∧ Fr B p g w w' := by
 obtain ⟨b, hbb⟩ : ∃ b, b = w.heap.size := ⟨_, rfl⟩
 obtain ⟨W, hW⟩ : ∃ W, W = w.alloc (.cells #[.int .u32 r.f.a] 22) := ⟨_, rfl⟩
 obtain ⟨hc, c4, c5, c6, c7, hb, nbp, nbg, v6, v7⟩ := startbox h hO hn hop hln hW hbb
 have cb := cell_of_heap (j := 0) hb.out rfl
 replace h := Lib.hid h
 replace hO := Lib.hid hO
 replace hn := Lib.hid hn
 replace hop := Lib.hid hop
 replace hln := Lib.hid hln
 go_enter Tryz.func71, Tryz.ntmps71
 go_upto_region 2 with (fail)
 rw [← hW, ← hbb]
 clear v6 v7
 replace hW := Lib.hid hW
 replace hbb := Lib.hid hbb
 go_upto_region 3 with (fail)
 go_quiet (fail)
 replace hc := Lib.hid (hc.out.drewN nq)
 go_wp2_with (first
  | (go_at_call 108; go_must (refine (tft_6_1 (hc.out.at_) hc.out.ok (List.length_eq_zero_iff.1 (Nat.le_zero.1 hc.out.few)) hop.out hln.out).mono ?_; rintro e w1 ⟨rfl, hA1, hF1⟩)))
 exact e30
set_option maxHeartbeats 4000000 in
theorem tf_6_2_t (h : At B w p pm g r) (hO : Ok r) (hn : r.notes = []) (hop : r.f.op = 6) (hln : r.f.line = 2) (ht : (Tf.take r).2 = true) : Calls Tryz.prog 71 #[.pointer (some ⟨p, 0, none⟩)] w fun e w' => e = .returned (.tuple #[]) ∧ At B w' p pm g (Tf.lines r) ∧ Fr B p g w w' := by
 obtain ⟨b, hbb⟩ : ∃ b, b = w.heap.size := ⟨_, rfl⟩
 obtain ⟨W, hW⟩ : ∃ W, W = w.alloc (.cells #[.int .u32 r.f.a] 22) := ⟨_, rfl⟩
 obtain ⟨hc, c4, c5, c6, c7, hb, nbp, nbg, v6, v7⟩ := startbox h hO hn hop hln hW hbb
 have cb := cell_of_heap (j := 0) hb.out rfl
 replace h := Lib.hid h
 replace hO := Lib.hid hO
 replace hn := Lib.hid hn
 replace hop := Lib.hid hop
 replace hln := Lib.hid hln
 replace ht := Lib.hid ht
 go_enter Tryz.func71, Tryz.ntmps71
 go_upto_region 2 with (fail)
 rw [← hW, ← hbb]
 clear v6 v7
 replace hW := Lib.hid hW
 replace hbb := Lib.hid hbb
 go_upto_region 3 with (fail)
 go_quiet (fail)
 replace hc := Lib.hid (hc.out.drewN nq)
 go_wp2_with (first
  | (go_at_call 108; go_must (refine (tft_6_2_t (hc.out.at_) hc.out.ok (List.length_eq_zero_iff.1 (Nat.le_zero.1 hc.out.few)) hop.out hln.out ht.out).mono ?_; rintro e w1 ⟨rfl, hA1, hF1⟩)))
 exact e30
set_option maxHeartbeats 4000000 in
theorem tf_6_2_f (h : At B w p pm g r) (hO : Ok r) (hn : r.notes = []) (hop : r.f.op = 6) (hln : r.f.line = 2) (ht : (Tf.take r).2 = false) : Calls Tryz.prog 71 #[.pointer (some ⟨p, 0, none⟩)] w fun e w' => e = .returned (.tuple #[]) ∧ At B w' p pm g (Tf.lines r) ∧ Fr B p g w w' := by
 obtain ⟨b, hbb⟩ : ∃ b, b = w.heap.size := ⟨_, rfl⟩
 obtain ⟨W, hW⟩ : ∃ W, W = w.alloc (.cells #[.int .u32 r.f.a] 22) := ⟨_, rfl⟩
 obtain ⟨hc, c4, c5, c6, c7, hb, nbp, nbg, v6, v7⟩ := startbox h hO hn hop hln hW hbb
 have cb := cell_of_heap (j := 0) hb.out rfl
 replace h := Lib.hid h
 replace hO := Lib.hid hO
 replace hn := Lib.hid hn
 replace hop := Lib.hid hop
 replace hln := Lib.hid hln
 replace ht := Lib.hid ht
 go_enter Tryz.func71, Tryz.ntmps71
 go_upto_region 2 with (fail)
 rw [← hW, ← hbb]
 clear v6 v7
 replace hW := Lib.hid hW
 replace hbb := Lib.hid hbb
 go_upto_region 3 with (fail)
 go_quiet (fail)
 replace hc := Lib.hid (hc.out.drewN nq)
 go_wp2_with (first
  | (go_at_call 108; go_must (refine (tft_6_2_f (hc.out.at_) hc.out.ok (List.length_eq_zero_iff.1 (Nat.le_zero.1 hc.out.few)) hop.out hln.out ht.out).mono ?_; rintro e w1 ⟨rfl, hA1, hF1⟩)))
 exact e30
set_option maxHeartbeats 4000000 in
theorem tf_7_0 (h : At B w p pm g r) (hO : Ok r) (hn : r.notes = []) (hop : r.f.op = 7) (hln : r.f.line = 0) : Calls Tryz.prog 71 #[.pointer (some ⟨p, 0, none⟩)] w fun e w' => e = .returned (.tuple #[]) ∧ At B w' p pm g (Tf.lines r) ∧ Fr B p g w w' := by
 obtain ⟨b, hbb⟩ : ∃ b, b = w.heap.size := ⟨_, rfl⟩
 obtain ⟨W, hW⟩ : ∃ W, W = w.alloc (.cells #[.int .u32 r.f.a] 22) := ⟨_, rfl⟩
 obtain ⟨hc, c4, c5, c6, c7, hb, nbp, nbg, v6, v7⟩ := startbox h hO hn hop hln hW hbb
 have cb := cell_of_heap (j := 0) hb.out rfl
 replace h := Lib.hid h
 replace hO := Lib.hid hO
 replace hn := Lib.hid hn
 replace hop := Lib.hid hop
 replace hln := Lib.hid hln
 go_enter Tryz.func71, Tryz.ntmps71
 go_upto_region 2 with (fail)
 rw [← hW, ← hbb]
 clear v6 v7
 replace hW := Lib.hid hW
 replace hbb := Lib.hid hbb
 go_upto_region 3 with (fail)
 go_quiet (fail)
 replace hc := Lib.hid (hc.out.drewN nq)
 go_wp2_with (first
  | (go_at_call 108; go_must (refine (tft_7_0 (hc.out.at_) hc.out.ok (List.length_eq_zero_iff.1 (Nat.le_zero.1 hc.out.few)) hop.out hln.out).mono ?_; rintro e w1 ⟨rfl, hA1, hF1⟩)))
 exact e30
set_option maxHeartbeats 4000000 in
theorem tf_7_1 (h : At B w p pm g r) (hO : Ok r) (hn : r.notes = []) (hop : r.f.op = 7) (hln : r.f.line = 1) : Calls Tryz.prog 71 #[.pointer (some ⟨p, 0, none⟩)] w fun e w' => e = .returned (.tuple #[]) ∧ At B w' p pm g (Tf.lines r) ∧ Fr B p g w w' := by
 obtain ⟨b, hbb⟩ : ∃ b, b = w.heap.size := ⟨_, rfl⟩
 obtain ⟨W, hW⟩ : ∃ W, W = w.alloc (.cells #[.int .u32 r.f.a] 22) := ⟨_, rfl⟩
 obtain ⟨hc, c4, c5, c6, c7, hb, nbp, nbg, v6, v7⟩ := startbox h hO hn hop hln hW hbb
 have cb := cell_of_heap (j := 0) hb.out rfl
 replace h := Lib.hid h
 replace hO := Lib.hid hO
 replace hn := Lib.hid hn
 replace hop := Lib.hid hop
 replace hln := Lib.hid hln
 go_enter Tryz.func71, Tryz.ntmps71
 go_upto_region 2 with (fail)
 rw [← hW, ← hbb]
 clear v6 v7
 replace hW := Lib.hid hW
 replace hbb := Lib.hid hbb
 go_upto_region 3 with (fail)
 go_quiet (fail)
 replace hc := Lib.hid (hc.out.drewN nq)
 go_wp2_with (first
  | (go_at_call 108; go_must (refine (tft_7_1 (hc.out.at_) hc.out.ok (List.length_eq_zero_iff.1 (Nat.le_zero.1 hc.out.few)) hop.out hln.out).mono ?_; rintro e w1 ⟨rfl, hA1, hF1⟩)))
 exact e30
set_option maxHeartbeats 4000000 in
theorem tf_7_2_t (h : At B w p pm g r) (hO : Ok r) (hn : r.notes = []) (hop : r.f.op = 7) (hln : r.f.line = 2) (ht : (Tf.take r).2 = true) : Calls Tryz.prog 71 #[.pointer (some ⟨p, 0, none⟩)] w fun e w' => e = .returned (.tuple #[]) ∧ At B w' p pm g (Tf.lines r) ∧ Fr B p g w w' := by
 obtain ⟨b, hbb⟩ : ∃ b, b = w.heap.size := ⟨_, rfl⟩
 obtain ⟨W, hW⟩ : ∃ W, W = w.alloc (.cells #[.int .u32 r.f.a] 22) := ⟨_, rfl⟩
 obtain ⟨hc, c4, c5, c6, c7, hb, nbp, nbg, v6, v7⟩ := startbox h hO hn hop hln hW hbb
 have cb := cell_of_heap (j := 0) hb.out rfl
 replace h := Lib.hid h
 replace hO := Lib.hid hO
 replace hn := Lib.hid hn
 replace hop := Lib.hid hop
 replace hln := Lib.hid hln
 replace ht := Lib.hid ht
 go_enter Tryz.func71, Tryz.ntmps71
 go_upto_region 2 with (fail)
 rw [← hW, ← hbb]
 clear v6 v7
 replace hW := Lib.hid hW
 replace hbb := Lib.hid hbb
 go_upto_region 3 with (fail)
 go_quiet (fail)
 replace hc := Lib.hid (hc.out.drewN nq)
 go_wp2_with (first
  | (go_at_call 108; go_must (refine (tft_7_2_t (hc.out.at_) hc.out.ok (List.length_eq_zero_iff.1 (Nat.le_zero.1 hc.out.few)) hop.out hln.out ht.out).mono ?_; rintro e w1 ⟨rfl, hA1, hF1⟩)))
 exact e30
set_option maxHeartbeats 4000000 in
theorem tf_7_2_f (h : At B w p pm g r) (hO : Ok r) (hn : r.notes = []) (hop : r.f.op = 7) (hln : r.f.line = 2) (ht : (Tf.take r).2 = false) : Calls Tryz.prog 71 #[.pointer (some ⟨p, 0, none⟩)] w fun e w' => e = .returned (.tuple #[]) ∧ At B w' p pm g (Tf.lines r) ∧ Fr B p g w w' := by
 obtain ⟨b, hbb⟩ : ∃ b, b = w.heap.size := ⟨_, rfl⟩
 obtain ⟨W, hW⟩ : ∃ W, W = w.alloc (.cells #[.int .u32 r.f.a] 22) := ⟨_, rfl⟩
 obtain ⟨hc, c4, c5, c6, c7, hb, nbp, nbg, v6, v7⟩ := startbox h hO hn hop hln hW hbb
 have cb := cell_of_heap (j := 0) hb.out rfl
 replace h := Lib.hid h
 replace hO := Lib.hid hO
 replace hn := Lib.hid hn
 replace hop := Lib.hid hop
 replace hln := Lib.hid hln
 replace ht := Lib.hid ht
 go_enter Tryz.func71, Tryz.ntmps71
 go_upto_region 2 with (fail)
 rw [← hW, ← hbb]
 clear v6 v7
 replace hW := Lib.hid hW
 replace hbb := Lib.hid hbb
 go_upto_region 3 with (fail)
 go_quiet (fail)
 replace hc := Lib.hid (hc.out.drewN nq)
 go_wp2_with (first
  | (go_at_call 108; go_must (refine (tft_7_2_f (hc.out.at_) hc.out.ok (List.length_eq_zero_iff.1 (Nat.le_zero.1 hc.out.few)) hop.out hln.out ht.out).mono ?_; rintro e w1 ⟨rfl, hA1, hF1⟩)))
 exact e30
set_option maxHeartbeats 4000000 in
theorem tf_7_3 (h : At B w p pm g r) (hO : Ok r) (hn : r.notes = []) (hop : r.f.op = 7) (hln : r.f.line = 3) : Calls Tryz.prog 71 #[.pointer (some ⟨p, 0, none⟩)] w fun e w' => e = .returned (.tuple #[]) ∧ At B w' p pm g (Tf.lines r) ∧ Fr B p g w w' := by
 obtain ⟨b, hbb⟩ : ∃ b, b = w.heap.size := ⟨_, rfl⟩
 obtain ⟨W, hW⟩ : ∃ W, W = w.alloc (.cells #[.int .u32 r.f.a] 22) := ⟨_, rfl⟩
 obtain ⟨hc, c4, c5, c6, c7, hb, nbp, nbg, v6, v7⟩ := startbox h hO hn hop hln hW hbb
 have cb := cell_of_heap (j := 0) hb.out rfl
 replace h := Lib.hid h
 replace hO := Lib.hid hO
 replace hn := Lib.hid hn
 replace hop := Lib.hid hop
 replace hln := Lib.hid hln
 go_enter Tryz.func71, Tryz.ntmps71
 go_upto_region 2 with (fail)
 rw [← hW, ← hbb]
 clear v6 v7
 replace hW := Lib.hid hW
 replace hbb := Lib.hid hbb
 go_upto_region 3 with (fail)
 go_quiet (fail)
 replace hc := Lib.hid (hc.out.drewN nq)
 go_wp2_with (first
  | (go_at_call 108; go_must (refine (tft_7_3 (hc.out.at_) hc.out.ok (List.length_eq_zero_iff.1 (Nat.le_zero.1 hc.out.few)) hop.out hln.out).mono ?_; rintro e w1 ⟨rfl, hA1, hF1⟩)))
 exact e30
theorem tf_lines (h : At B w p pm g r) (hO : Ok r) (hn : r.notes = []) (hv : Tf.Valid r.f.op r.f.line) : Calls Tryz.prog 71 #[.pointer (some ⟨p, 0, none⟩)] w fun e w' => e = .returned (.tuple #[]) ∧ At B w' p pm g (Tf.lines r) ∧ Fr B p g w w' := by
 rcases hv with ⟨hop, hln⟩ | ⟨hop, hln⟩ | ⟨hop, hln⟩ | ⟨hop, hln⟩ | ⟨hop, hln⟩ | ⟨hop, hln⟩ | ⟨hop, hln⟩ | ⟨hop, hln⟩ | ⟨hop, hln⟩ | ⟨hop, hln⟩ | ⟨hop, hln⟩ | ⟨hop, hln⟩ | ⟨hop, hln⟩ | ⟨hop, hln⟩ | ⟨hop, hln⟩ | ⟨hop, hln⟩ | ⟨hop, hln⟩ | ⟨hop, hln⟩ | ⟨hop, hln⟩ | ⟨hop, hln⟩
 ·exact tf_1_0 h hO hn hop hln
 ·cases hs : (r.waited 1 (fun v => v == r.f.a)).seen <;> cases hd : (r.waited 1 (fun v => v == r.f.a)).done
  ·exact tf_1_1_f_f h hO hn hop hln hs hd
  ·exact tf_1_1_f_t h hO hn hop hln hs hd
  ·exact tf_1_1_t_f h hO hn hop hln hs hd
  ·exact tf_1_1_t_t h hO hn hop hln hs hd
 ·exact tf_1_2 h hO hn hop hln
 ·exact tf_2_0 h hO hn hop hln
 ·exact tf_3_0 h hO hn hop hln
 ·cases hs : (r.waited 2 (fun v => v == r.f.a)).seen <;> cases hd : (r.waited 2 (fun v => v == r.f.a)).done
  ·exact tf_3_1_f_f h hO hn hop hln hs hd
  ·exact tf_3_1_f_t h hO hn hop hln hs hd
  ·exact tf_3_1_t_f h hO hn hop hln hs hd
  ·exact tf_3_1_t_t h hO hn hop hln hs hd
 ·exact tf_4_0 h hO hn hop hln
 ·exact tf_4_1 h hO hn hop hln
 ·exact tf_5_3 h hO hn hop hln
 ·exact tf_8_0 h hO hn hop hln
 ·exact tf_5_0 h hO hn hop hln
 ·exact tf_5_1 h hO hn hop hln
 ·cases ht : (Tf.take r).2 with
  | true => exact tf_5_2_t h hO hn hop hln ht
  | false => exact tf_5_2_f h hO hn hop hln ht
 ·exact tf_6_0 h hO hn hop hln
 ·exact tf_6_1 h hO hn hop hln
 ·cases ht : (Tf.take r).2 with
  | true => exact tf_6_2_t h hO hn hop hln ht
  | false => exact tf_6_2_f h hO hn hop hln ht
 ·exact tf_7_0 h hO hn hop hln
 ·exact tf_7_1 h hO hn hop hln
 ·cases ht : (Tf.take r).2 with
  | true => exact tf_7_2_t h hO hn hop hln ht
  | false => exact tf_7_2_f h hO hn hop hln ht
 ·exact tf_7_3 h hO hn hop hln
end Go.Proofs.YtkmlefbdhdlfmaaGreat.Wo
