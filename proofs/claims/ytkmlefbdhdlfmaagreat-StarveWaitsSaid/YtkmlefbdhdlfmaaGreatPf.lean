/- The lines of the phase-fair lock, against the plain texts. -/
import Derived.Test.YtkmlefbdhdlfmaaGreatPfr
namespace Go.Proofs.YtkmlefbdhdlfmaaGreat.Wo
open Go.RowKit Go.Proofs.YtkmlefbdhdlfmaaGreatW.PrintWords Go.Proofs.YtkmlefbdhdlfmaaGreatW.PrintMore Go.Proofs.YtkmlefbdhdlfmaaGreatW.PrintLast
open Stile
set_option linter.unusedSimpArgs false
set_option linter.unusedVariables false
set_option maxRecDepth 100000
variable {w w1 w2 w0 : World} {B p pm g m : Nat} {r r1 : Run} {Q : Ending → World → Prop}
theorem e46 {P : Prop} (h : P := by
 replace h7 := Lib.hid h7
 go_enter Tryz.func207, Tryz.ntmps207
 go_wp2
 go_ret
 exact ⟨rfl, rfl⟩) : P := h
theorem e49 {P : Prop} (h : P := by
 intro hCont
 refine two_ (i := 5) (j := 7) (Ni := some 15) (Nj := some 3) (mk 10 63) (mk 10 159) rfl rfl rfl rfl (by kernel_rfl) (by decide) (by decide) (fun K hK => ?_) (fun K hK => ?_)
 ·exact e169
 ·exact e170) : P := h
theorem e51 {P : Prop} (h : P := by
 clear c6
 have c6 := hc.out.c6
 rw [wrap_u32]
 generalize (w.alloc (.cells #[.int .u32 (u32 (r.f.a - q))] 22)).drew = W1 at hb hc c4 c6 ⊢
 cases s <;> cases d
 all_goals
  go_wp2_with (first
   | (go_at_call 105; (try clear c6); (try clear c7); go_must (refine note_step hc _ _ hm'.out ?_; intro w1 f1 hc c6 c7; clear f1))
   | (go_at_call 102; (try clear c6); (try clear c7); go_must (refine go_step hc _ ?_; intro w1 f1 hc c6 c7; clear f1))
   | (go_at_call 107; (try clear c6); (try clear c7); go_must (refine end_step hc _ ?_; intro w1 f1 hc c6 c7; clear f1))
   | (go_at_call 101; (try clear c6); (try clear c7); go_must (refine wait_step hc _ (fun v => v == u32 (r.f.a - q)) (pflast_tells hb.out nbp nbg) _ _ hs.out hd.out ?_; intro w1 f1 hc c6 c7; clear f1)))
  first | go_end0 | ((try simp only [Exit.inBlock, Exit.then]); refine bodyPost_ret (results_none rfl _ _ _) rfl ?_)
  exact ⟨rfl, hc.out.at_, hc.out.fr, hc.out.ok, by first | exact hc.out.few | exact Nat.le_succ_of_le hc.out.few⟩) : P := h
theorem e52 {P : Prop} (h : P := by
 obtain ⟨hc, c4, c5, c6, c7⟩ := start h hO hn hop hln
 replace h := Lib.hid h
 replace hO := Lib.hid hO
 replace hn := Lib.hid hn
 replace hop := Lib.hid hop
 replace hln := Lib.hid hln
 go_enter Tryz.func156, Tryz.ntmps156
 go_wp2_with (first
  | (go_at_call 112; (try clear c6); (try clear c7); go_must (refine load_step hc _ ?_; intro w1 f1 hc c6 c7; clear f1))
  | ((with_reducible refine gate_store rfl ?_); refine stA_step hc rfl rfl rfl rfl rfl rfl ?_; clear c6 c7; intro w1 f1 hc c6 c7; clear f1)
  | (go_at_call 102; (try clear c6); (try clear c7); go_must (refine go_step hc _ ?_; intro w1 f1 hc c6 c7; clear f1)))
 exact e57) : P := h
theorem e53 {P : Prop} (h : P := by
 obtain ⟨hc, c4, c5, c6, c7⟩ := start h hO hn hop hln
 replace h := Lib.hid h
 replace hO := Lib.hid hO
 replace hn := Lib.hid hn
 replace hop := Lib.hid hop
 replace hln := Lib.hid hln
 go_enter Tryz.func156, Tryz.ntmps156
 go_wp2_with (first
  | (go_at_call 112; (try clear c6); (try clear c7); go_must (refine load_step hc _ ?_; intro w1 f1 hc c6 c7; clear f1))
  | ((with_reducible refine gate_store rfl ?_); refine stB_step hc rfl rfl rfl rfl rfl rfl ?_; clear c6 c7; intro w1 f1 hc c6 c7; clear f1)
  | (go_at_call 102; (try clear c6); (try clear c7); go_must (refine go_step hc _ ?_; intro w1 f1 hc c6 c7; clear f1)))
 exact e57) : P := h
theorem e54 {P : Prop} (h : P := by
 obtain ⟨hc, c4, c5, c6, c7⟩ := start h hO hn hop hln
 replace h := Lib.hid h
 replace hO := Lib.hid hO
 replace hn := Lib.hid hn
 replace hop := Lib.hid hop
 replace hln := Lib.hid hln
 go_enter Tryz.func156, Tryz.ntmps156
 go_wp2_with (first
  | (go_at_call 189; (try clear c6); (try clear c7); go_must (refine pfinside_step hc (by decide) ?_; intro w1 f1 hc; clear f1)))
 exact e57) : P := h
theorem e55 {P : Prop} (h : P := by
 obtain ⟨hc, c4, c5, c6, c7⟩ := start h hO hn hop hln
 replace h := Lib.hid h
 replace hO := Lib.hid hO
 replace hn := Lib.hid hn
 replace hop := Lib.hid hop
 replace hln := Lib.hid hln
 go_enter Tryz.func156, Tryz.ntmps156
 go_wp2_with (first
  | (go_at_call 104; (try clear c6); (try clear c7); go_must (refine add_step hc _ _ (by first | decide | exact w32_u32 _ | exact w32_pres _) ?_; intro w1 f1 hc c6 c7; clear f1))
  | ((with_reducible refine gate_store rfl ?_); refine stA_step hc rfl rfl rfl rfl rfl rfl ?_; clear c6 c7; intro w1 f1 hc c6 c7; clear f1)
  | (go_at_call 105; (try clear c6); (try clear c7); go_must (refine note_step hc _ _ (by decide) ?_; intro w1 f1 hc c6 c7; clear f1))
  | (go_at_call 102; (try clear c6); (try clear c7); go_must (refine go_step hc _ ?_; intro w1 f1 hc c6 c7; clear f1))
  | (go_at_call 110; go_must (refine (pfpres_walk r.f.b hc.out.ok.b _).mono ?_; rintro e w1 ⟨rfl, rfl⟩)))
 exact e57) : P := h
theorem e56 {P : Prop} (h : P := by
 obtain ⟨hc, c4, c5, c6, c7⟩ := start h hO hn hop hln
 replace h := Lib.hid h
 replace hO := Lib.hid hO
 replace hn := Lib.hid hn
 replace hop := Lib.hid hop
 replace hln := Lib.hid hln
 go_enter Tryz.func156, Tryz.ntmps156
 go_wp2_with (first
  | (go_at_call 155; (try clear c6); (try clear c7); go_must (refine pfpass_step hc (by decide) false ?_; intro w1 f1 hc; clear f1)))
 exact e57) : P := h
theorem e57 {P : Prop} (h : P := by
 first | go_end0 | ((try simp only [Exit.inBlock, Exit.then]); refine bodyPost_ret (results_none rfl _ _ _) rfl ?_)
 refine ⟨rfl, ?_, hc.out.fr⟩
 unfold Pf.tries
 exact e45) : P := h
theorem e58 {P : Prop} (h : P := by
 obtain ⟨hc, c4, c5, c6, c7⟩ := start h hO hn hop hln
 have b1 : decide (n > 0) = true := decide_eq_true hx
 replace h := Lib.hid h
 replace hO := Lib.hid hO
 replace hn := Lib.hid hn
 replace hop := Lib.hid hop
 replace hln := Lib.hid hln
 replace hn2 := Lib.hid hn2
 replace hx := Lib.hid hx
 go_enter Tryz.func156, Tryz.ntmps156
 go_upto_region 7 with (first
  | (go_at_call 112; (try clear c6); (try clear c7); go_must (refine load_step hc _ ?_; intro w1 f1 hc c6 c7; clear f1))
  | ((with_reducible refine gate_store rfl ?_); refine stB_step hc rfl rfl rfl rfl rfl rfl ?_; clear c6 c7; intro w1 f1 hc c6 c7; clear f1))
 replace c6 : w1.cell? ⟨p, 6, none⟩ = some (.int .u32 r.f.a) := c6
 go_quiet (first | (go_at_call 188; refine Calls.quiet_of_same (ahead_eq hn2.out _)))
 replace hc := Lib.hid (hc.out.drewN nq)
 go_wp2_with (first
  | (go_at_call 105; (try clear c6); (try clear c7); go_must (refine note_step hc _ _ (by decide) ?_; intro w1 f1 hc c6 c7; clear f1))
  | (go_at_call 107; (try clear c6); (try clear c7); go_must (refine end_step hc _ ?_; intro w1 f1 hc c6 c7; clear f1))
  | (go_at_call 102; (try clear c6); (try clear c7); go_must (refine go_step hc _ ?_; intro w1 f1 hc c6 c7; clear f1)))
 first | go_end0 | ((try simp only [Exit.inBlock, Exit.then]); refine bodyPost_ret (results_none rfl _ _ _) rfl ?_)
 refine ⟨rfl, ?_, hc.out.fr⟩
 unfold Pf.tries
 simp only [hop.out, hln.out]
 simp only [Int.reduceEq, and_true, true_and, and_self, and_false, false_and, if_true, if_false, or_false, false_or, or_true, true_or]
 have hn3 : Stile.ahead (((r.load 3).setB (r.load 3).old).f.a) (((r.load 3).setB (r.load 3).old).f.b) = n := hn2.out
 rw [hn3]
 rw [if_pos hx.out]
 exact hc.out.at_) : P := h
theorem e59 {P : Prop} (h : P := by
 obtain ⟨hc, c4, c5, c6, c7⟩ := start h hO hn hop hln
 have b1 : decide (n > 0) = false := decide_eq_false hx
 have b2 : decide (n < 0) = true := decide_eq_true hy
 replace h := Lib.hid h
 replace hO := Lib.hid hO
 replace hn := Lib.hid hn
 replace hop := Lib.hid hop
 replace hln := Lib.hid hln
 replace hn2 := Lib.hid hn2
 replace hx := Lib.hid hx
 replace hy := Lib.hid hy
 go_enter Tryz.func156, Tryz.ntmps156
 go_upto_region 7 with (first
  | (go_at_call 112; (try clear c6); (try clear c7); go_must (refine load_step hc _ ?_; intro w1 f1 hc c6 c7; clear f1))
  | ((with_reducible refine gate_store rfl ?_); refine stB_step hc rfl rfl rfl rfl rfl rfl ?_; clear c6 c7; intro w1 f1 hc c6 c7; clear f1))
 replace c6 : w1.cell? ⟨p, 6, none⟩ = some (.int .u32 r.f.a) := c6
 go_quiet (first | (go_at_call 188; refine Calls.quiet_of_same (ahead_eq hn2.out _)))
 replace hc := Lib.hid (hc.out.drewN nq)
 go_wp2_with (first
  | (go_at_call 105; (try clear c6); (try clear c7); go_must (refine note_step hc _ _ (by decide) ?_; intro w1 f1 hc c6 c7; clear f1))
  | (go_at_call 107; (try clear c6); (try clear c7); go_must (refine end_step hc _ ?_; intro w1 f1 hc c6 c7; clear f1))
  | (go_at_call 102; (try clear c6); (try clear c7); go_must (refine go_step hc _ ?_; intro w1 f1 hc c6 c7; clear f1)))
 first | go_end0 | ((try simp only [Exit.inBlock, Exit.then]); refine bodyPost_ret (results_none rfl _ _ _) rfl ?_)
 refine ⟨rfl, ?_, hc.out.fr⟩
 unfold Pf.tries
 simp only [hop.out, hln.out]
 simp only [Int.reduceEq, and_true, true_and, and_self, and_false, false_and, if_true, if_false, or_false, false_or, or_true, true_or]
 have hn3 : Stile.ahead (((r.load 3).setB (r.load 3).old).f.a) (((r.load 3).setB (r.load 3).old).f.b) = n := hn2.out
 rw [hn3]
 rw [if_neg (by have := hx.out; omega), if_pos hy.out]
 exact hc.out.at_) : P := h
theorem e60 {P : Prop} (h : P := by
 obtain ⟨hc, c4, c5, c6, c7⟩ := start h hO hn hop hln
 have b1 : decide (n > 0) = false := decide_eq_false hx
 have b2 : decide (n < 0) = false := decide_eq_false hy
 replace h := Lib.hid h
 replace hO := Lib.hid hO
 replace hn := Lib.hid hn
 replace hop := Lib.hid hop
 replace hln := Lib.hid hln
 replace hn2 := Lib.hid hn2
 replace hx := Lib.hid hx
 replace hy := Lib.hid hy
 go_enter Tryz.func156, Tryz.ntmps156
 go_upto_region 7 with (first
  | (go_at_call 112; (try clear c6); (try clear c7); go_must (refine load_step hc _ ?_; intro w1 f1 hc c6 c7; clear f1))
  | ((with_reducible refine gate_store rfl ?_); refine stB_step hc rfl rfl rfl rfl rfl rfl ?_; clear c6 c7; intro w1 f1 hc c6 c7; clear f1))
 replace c6 : w1.cell? ⟨p, 6, none⟩ = some (.int .u32 r.f.a) := c6
 go_quiet (first | (go_at_call 188; refine Calls.quiet_of_same (ahead_eq hn2.out _)))
 replace hc := Lib.hid (hc.out.drewN nq)
 go_wp2_with (first
  | (go_at_call 105; (try clear c6); (try clear c7); go_must (refine note_step hc _ _ (by decide) ?_; intro w1 f1 hc c6 c7; clear f1))
  | (go_at_call 107; (try clear c6); (try clear c7); go_must (refine end_step hc _ ?_; intro w1 f1 hc c6 c7; clear f1))
  | (go_at_call 102; (try clear c6); (try clear c7); go_must (refine go_step hc _ ?_; intro w1 f1 hc c6 c7; clear f1)))
 first | go_end0 | ((try simp only [Exit.inBlock, Exit.then]); refine bodyPost_ret (results_none rfl _ _ _) rfl ?_)
 refine ⟨rfl, ?_, hc.out.fr⟩
 unfold Pf.tries
 simp only [hop.out, hln.out]
 simp only [Int.reduceEq, and_true, true_and, and_self, and_false, false_and, if_true, if_false, or_false, false_or, or_true, true_or]
 have hn3 : Stile.ahead (((r.load 3).setB (r.load 3).old).f.a) (((r.load 3).setB (r.load 3).old).f.b) = n := hn2.out
 rw [hn3]
 rw [if_neg (by have := hx.out; omega), if_neg (by have := hy.out; omega)]
 exact hc.out.at_) : P := h
theorem e61 {P : Prop} (h : P := by
 obtain ⟨hc, c4, c5, c6, c7⟩ := start h hO hn hop hln
 replace h := Lib.hid h
 replace hO := Lib.hid hO
 replace hn := Lib.hid hn
 replace hop := Lib.hid hop
 replace hln := Lib.hid hln
 replace hcs := Lib.hid hcs
 go_enter Tryz.func156, Tryz.ntmps156
 go_upto_region 15 with (fail)
 go_still_tail 10, (by kernel_rfl)
 change wpList _ _ _ _ _ w.drew
 have hcq := hc.out.drew
 clear c6 c7 hc
 generalize w.drew = W8 at hcq ⊢
 have hc := Lib.hid hcq
 clear hcq
 have c6 := hc.out.c6
 have c7 := hc.out.c7
 go_wp2_with (first
  | (go_at_call 128; (try clear c6); (try clear c7); go_must (refine cas_step hc _ _ _ true hcs.out (by first | decide | exact w32_u32 _ | exact hc.out.ok.a) (by first | decide | exact w32_u32 _ | exact hc.out.ok.a) ?_; intro w1 f1 hc c6 c7; clear f1))
  | (go_at_call 105; (try clear c6); (try clear c7); go_must (refine note_step hc _ _ (by decide) ?_; intro w1 f1 hc c6 c7; clear f1))
  | (go_at_call 102; (try clear c6); (try clear c7); go_must (refine go_step hc _ ?_; intro w1 f1 hc c6 c7; clear f1)))
 first | go_end0 | ((try simp only [Exit.inBlock, Exit.then]); refine bodyPost_ret (results_none rfl _ _ _) rfl ?_)
 refine ⟨rfl, ?_, hc.out.fr⟩
 unfold Pf.tries
 exact e37) : P := h
theorem e62 {P : Prop} (h : P := by
 obtain ⟨hc, c4, c5, c6, c7⟩ := start h hO hn hop hln
 replace h := Lib.hid h
 replace hO := Lib.hid hO
 replace hn := Lib.hid hn
 replace hop := Lib.hid hop
 replace hln := Lib.hid hln
 replace hcs := Lib.hid hcs
 go_enter Tryz.func156, Tryz.ntmps156
 go_upto_region 15 with (fail)
 go_still_tail 10, (by kernel_rfl)
 change wpList _ _ _ _ _ w.drew
 have hcq := hc.out.drew
 clear c6 c7 hc
 generalize w.drew = W8 at hcq ⊢
 have hc := Lib.hid hcq
 clear hcq
 have c6 := hc.out.c6
 have c7 := hc.out.c7
 go_wp2_with (first
  | (go_at_call 128; (try clear c6); (try clear c7); go_must (refine cas_step hc _ _ _ false hcs.out (by first | decide | exact w32_u32 _ | exact hc.out.ok.a) (by first | decide | exact w32_u32 _ | exact hc.out.ok.a) ?_; intro w1 f1 hc c6 c7; clear f1))
  | (go_at_call 105; (try clear c6); (try clear c7); go_must (refine note_step hc _ _ (by decide) ?_; intro w1 f1 hc c6 c7; clear f1))
  | (go_at_call 102; (try clear c6); (try clear c7); go_must (refine go_step hc _ ?_; intro w1 f1 hc c6 c7; clear f1)))
 first | go_end0 | ((try simp only [Exit.inBlock, Exit.then]); refine bodyPost_ret (results_none rfl _ _ _) rfl ?_)
 refine ⟨rfl, ?_, hc.out.fr⟩
 unfold Pf.tries
 exact e38) : P := h
theorem e63 {P : Prop} (h : P := by
 obtain ⟨hc, c4, c5, c6, c7⟩ := start h hO hn hop hln
 replace h := Lib.hid h
 replace hO := Lib.hid hO
 replace hn := Lib.hid hn
 replace hop := Lib.hid hop
 replace hln := Lib.hid hln
 go_enter Tryz.func113, Tryz.ntmps113
 go_upto_region 2 with (go_at_call 110; go_must (refine (pfpres_walk r.f.b hc.out.ok.b _).mono ?_; rintro e w1 ⟨rfl, rfl⟩))
 go_quiet (fail)
 replace hc := Lib.hid (hc.out.drewN nq)
 go_wp2_with (first
  | (go_at_call 112; (try clear c6); (try clear c7); go_must (refine load_step hc _ ?_; intro w1 f1 hc c6 c7; clear f1))
  | ((with_reducible refine gate_store rfl ?_); refine stB_step hc rfl rfl rfl rfl rfl rfl ?_; clear c6 c7; intro w1 f1 hc c6 c7; clear f1)
  | (go_at_call 102; (try clear c6); (try clear c7); go_must (refine go_step hc _ ?_; intro w1 f1 hc c6 c7; clear f1)))
 exact e171) : P := h
theorem e64 {P : Prop} (h : P := by
 obtain ⟨hc, c4, c5, c6, c7⟩ := start h hO hn hop hln
 replace h := Lib.hid h
 replace hO := Lib.hid hO
 replace hn := Lib.hid hn
 replace hop := Lib.hid hop
 replace hln := Lib.hid hln
 go_enter Tryz.func113, Tryz.ntmps113
 go_upto_region 2 with (go_at_call 110; go_must (refine (pfpres_walk r.f.b hc.out.ok.b _).mono ?_; rintro e w1 ⟨rfl, rfl⟩))
 go_quiet (fail)
 replace hc := Lib.hid (hc.out.drewN nq)
 go_wp2_with (first
  | (go_at_call 104; (try clear c6); (try clear c7); go_must (refine add_step hc _ _ (by first | decide | exact w32_u32 _ | exact w32_pres _) ?_; intro w1 f1 hc c6 c7; clear f1))
  | (go_at_call 105; (try clear c6); (try clear c7); go_must (refine note_step hc _ _ (by decide) ?_; intro w1 f1 hc c6 c7; clear f1))
  | (go_at_call 106; (try clear c6); (try clear c7); go_must (refine wake_step hc _ ?_; intro w1 f1 hc c6 c7; clear f1))
  | (go_at_call 102; (try clear c6); (try clear c7); go_must (refine go_step hc _ ?_; intro w1 f1 hc c6 c7; clear f1)))
 exact e171) : P := h
theorem e65 {P : Prop} (h : P := by
 obtain ⟨hc, c4, c5, c6, c7⟩ := start h hO hn hop hln
 replace h := Lib.hid h
 replace hO := Lib.hid hO
 replace hn := Lib.hid hn
 replace hop := Lib.hid hop
 replace hln := Lib.hid hln
 go_enter Tryz.func113, Tryz.ntmps113
 go_upto_region 2 with (go_at_call 110; go_must (refine (pfpres_walk r.f.b hc.out.ok.b _).mono ?_; rintro e w1 ⟨rfl, rfl⟩))
 go_quiet (fail)
 replace hc := Lib.hid (hc.out.drewN nq)
 go_wp2_with (first
  | (go_at_call 154; (try clear c6); (try clear c7); go_must (refine store_step hc _ _ (by first | decide | exact w32_u32 _ | exact w32_pres _) ?_; intro w1 f1 hc c6 c7; clear f1))
  | (go_at_call 102; (try clear c6); (try clear c7); go_must (refine go_step hc _ ?_; intro w1 f1 hc c6 c7; clear f1)))
 exact e171) : P := h
theorem e66 {P : Prop} (h : P := by
 obtain ⟨hc, c4, c5, c6, c7⟩ := start h hO hn hop hln
 replace h := Lib.hid h
 replace hO := Lib.hid hO
 replace hn := Lib.hid hn
 replace hop := Lib.hid hop
 replace hln := Lib.hid hln
 go_enter Tryz.func113, Tryz.ntmps113
 go_upto_region 2 with (go_at_call 110; go_must (refine (pfpres_walk r.f.b hc.out.ok.b _).mono ?_; rintro e w1 ⟨rfl, rfl⟩))
 go_quiet (fail)
 replace hc := Lib.hid (hc.out.drewN nq)
 go_wp2_with (first
  | (go_at_call 155; (try clear c6); (try clear c7); go_must (refine pfpass_step hc (by decide) true ?_; intro w1 f1 hc; clear f1)))
 exact e171) : P := h
theorem e68 {P : Prop} (h : P := by
 intro hCont
 refine two_ (i := 8) (j := 9) (Ni := some 27) (Nj := some 3) (mk 12 511) (mk 12 767) rfl rfl rfl rfl (by kernel_rfl) (by decide) (by decide) (fun K hK => ?_) (fun K hK => ?_)
 ·exact e172
 ·exact e173) : P := h
theorem e69 {P : Prop} (h : P := by
 have c6 := hc.out.c6
 have c7 := hc.out.c7
 generalize (w1.alloc (.cells #[.int .u32 r.f.a] 22)).drew = W1 at hb hc c4 c5 c6 c7 ⊢
 go_upto_region 4 with (fail)
 go_quiet (fail)
 replace hc := Lib.hid (hc.out.drewN nq)
 go_wp2_with (first
  | (go_at_call 104; (try clear c6); (try clear c7); go_must (refine add_step hc _ _ (by first | decide | exact w32_u32 _ | exact w32_pres _) ?_; intro w1 f1 hc c6 c7; clear f1))
  | ((with_reducible refine gate_store rfl ?_); refine stA_step hc rfl rfl rfl rfl rfl rfl ?_; clear c6 c7; intro w1 f1 hc c6 c7; clear f1)
  | (go_at_call 105; (try clear c6); (try clear c7); go_must (refine note_step hc _ _ (by decide) ?_; intro w1 f1 hc c6 c7; clear f1))
  | (go_at_call 102; (try clear c6); (try clear c7); go_must (refine go_step hc _ ?_; intro w1 f1 hc c6 c7; clear f1)))
 exact e70) : P := h
theorem e70 {P : Prop} (h : P := by
 first | go_end0 | ((try simp only [Exit.inBlock, Exit.then]); refine bodyPost_ret (results_none rfl _ _ _) rfl ?_)
 refine ⟨rfl, ?_, hc.out.fr⟩
 unfold Pf.lines
 rw [hrd.out]
 simp only [Bool.false_eq_true, if_false, hop.out, hln.out]
 exact e87) : P := h
theorem e71 {P : Prop} (h : P := by
 have hrd := pfr_plain_none (r := r) (by rw [hop]; decide) (by rw [hop]; decide) (by rw [hop]; decide)
 obtain ⟨hc, c4, c5, c6, c7⟩ := start h hO hn hop hln
 have hR := pfr_none h hO hn (by rw [hop]; decide) (by rw [hop]; decide) (by rw [hop]; decide)
 have hop4 := hop
 have hln5 := hln
 replace h := Lib.hid h
 replace hO := Lib.hid hO
 replace hn := Lib.hid hn
 replace hop := Lib.hid hop
 replace hln := Lib.hid hln
 replace hR := Lib.hid hR
 replace hop4 := Lib.hid hop4
 replace hln5 := Lib.hid hln5
 replace hrd := Lib.hid hrd
 replace hs := Lib.hid hs
 replace hd := Lib.hid hd
 go_enter Tryz.func72, Tryz.ntmps72
 go_upto_region 2 with (go_at_call 109; go_must (clear c4 c5 c6 c7; refine hR.out.mono ?_; rintro e w1 ⟨rfl, hA1, hF1⟩; replace hc : Hid (Car B w w1 p pm g r 0) := ⟨hA1, hF1, hc.out.ok, hc.out.few⟩; clear hA1 hF1; have c6 := hc.out.c6; have c7 := hc.out.c7))
 refine start_ (n := 12) (S := fun w' => w'.cell? ⟨p, 6, none⟩ = some (.int .u32 r.f.a) ∧ w'.cell? ⟨p, 7, none⟩ = some (.int .u32 r.f.b)) (ds := [10]) #[false, false, false, false, false, false, false, false, false, false, false, false] (by kernel_rfl) rfl rfl ⟨hc.out.drew.c6, hc.out.drew.c7⟩ (fun hHeld => ?_)
 refine pu_ 0 19 (mk 12 1) rfl rfl ?_
 refine pu_ 1 20 (mk 12 3) rfl rfl ?_
 refine pu_ 2 21 (mk 12 7) rfl rfl ?_
 refine pu_ 4 23 (mk 12 23) rfl rfl ?_
 refine pu_ 5 24 (mk 12 55) rfl rfl ?_
 refine pu_ 6 25 (mk 12 119) rfl rfl ?_
 refine tk2_ 3 22 (mk 12 127) rfl rfl hHeld ?_
 refine tk2_ 7 26 (mk 12 255) rfl rfl hHeld ?_
 refine join_ (σ := Unit) 2 (mk 12 1023) (fun (_ : Unit) => [(27, Value.int .u32 (Pf.presence r.f.b)), (3, Value.pointer (some ⟨w1.heap.size, 0, none⟩))]) (fun (_ : Unit) w' => w' = (w1.alloc (.cells #[.int .u32 0] 22)).drew) ?_ ?_
 rotate_left
 ·exact e68
 rintro ⟨⟩ w' rfl
 have hHeld : (w1.alloc (.cells #[.int .u32 0] 22)).drew.cell? ⟨p, 6, none⟩ = some (.int .u32 r.f.a) ∧ (w1.alloc (.cells #[.int .u32 0] 22)).drew.cell? ⟨p, 7, none⟩ = some (.int .u32 r.f.b) := ⟨(hc.out.alloc (.cells #[.int .u32 0] 22)).drew.c6, (hc.out.alloc (.cells #[.int .u32 0] 22)).drew.c7⟩
 refine norm_ (a' := ?_) ?_ ?_
 rotate_left
 ·exact e50
 refine last_ (i := 10) (N := none) (mk 12 2047) rfl rfl (by kernel_rfl) (by decide) (fun K hK => ?_)
 refine skip_ (w1 := ?_) (by rfl) rfl ?_ ?_
 rotate_left
 ·go_simp
  rfl
 refine hK.out _ _ ?_
 clear hK K
 refine pu_ 11 4 (mk 12 4095) rfl rfl ?_
 refine done_ (by kernel_rfl) ?_
 clear c6 c7
 have nbp : w1.heap.size ≠ p := by have := hc.out.at_.lt; omega
 have nbg : w1.heap.size ≠ g := by have := hc.out.at_.mem.lt.2; omega
 have hb := Lib.hid (blk_drew (heap_alloc_new w1 (.cells #[.int .u32 r.f.a] 22)))
 replace hc := Lib.hid (hc.out.alloc (.cells #[.int .u32 r.f.a] 22)).drew
 have c4 : ((w1.alloc (.cells #[.int .u32 r.f.a] 22)).drew).cell? ⟨p, 4, none⟩ = some (.int .i64 3) := hc.out.at_.cell 4 (fun _ => by first | rfl | (rw [← hop4.out]; rfl))
 have c5 : ((w1.alloc (.cells #[.int .u32 r.f.a] 22)).drew).cell? ⟨p, 5, none⟩ = some (.int .i64 1) := hc.out.at_.cell 5 (fun _ => by first | rfl | (rw [← hln5.out]; rfl))
 have c6 := hc.out.c6
 have c7 := hc.out.c7
 generalize (w1.alloc (.cells #[.int .u32 r.f.a] 22)).drew = W1 at hb hc c4 c5 c6 c7 ⊢
 go_upto_region 4 with (fail)
 go_quiet (fail)
 replace hc := Lib.hid (hc.out.drewN nq)
 go_wp2_with (first
  | (go_at_call 102; (try clear c6); (try clear c7); go_must (refine go_step hc _ ?_; intro w1 f1 hc c6 c7; clear f1))
  | (go_at_call 101; (try clear c6); (try clear c7); go_must (refine wait_step hc _ (fun v => v == r.f.a) (pfmine_tells hb.out nbp nbg) _ _ hs.out hd.out ?_; intro w1 f1 hc c6 c7; clear f1)))
 first | go_end0 | ((try simp only [Exit.inBlock, Exit.then]); refine bodyPost_ret (results_none rfl _ _ _) rfl ?_)
 refine ⟨rfl, ?_, hc.out.fr⟩
 unfold Pf.lines
 rw [hrd.out]
 simp only [Bool.false_eq_true, if_false, hop.out, hln.out]
 exact e174) : P := h
theorem e72 {P : Prop} (h : P := by
 have hrd := pfr_plain_none (r := r) (by rw [hop]; decide) (by rw [hop]; decide) (by rw [hop]; decide)
 obtain ⟨hc, c4, c5, c6, c7⟩ := start h hO hn hop hln
 have hR := pfr_none h hO hn (by rw [hop]; decide) (by rw [hop]; decide) (by rw [hop]; decide)
 have hop4 := hop
 have hln5 := hln
 replace h := Lib.hid h
 replace hO := Lib.hid hO
 replace hn := Lib.hid hn
 replace hop := Lib.hid hop
 replace hln := Lib.hid hln
 replace hR := Lib.hid hR
 replace hop4 := Lib.hid hop4
 replace hln5 := Lib.hid hln5
 replace hrd := Lib.hid hrd
 replace hs := Lib.hid hs
 replace hd := Lib.hid hd
 go_enter Tryz.func72, Tryz.ntmps72
 go_upto_region 2 with (go_at_call 109; go_must (clear c4 c5 c6 c7; refine hR.out.mono ?_; rintro e w1 ⟨rfl, hA1, hF1⟩; replace hc : Hid (Car B w w1 p pm g r 0) := ⟨hA1, hF1, hc.out.ok, hc.out.few⟩; clear hA1 hF1; have c6 := hc.out.c6; have c7 := hc.out.c7))
 refine start_ (n := 12) (S := fun w' => w'.cell? ⟨p, 6, none⟩ = some (.int .u32 r.f.a) ∧ w'.cell? ⟨p, 7, none⟩ = some (.int .u32 r.f.b)) (ds := [10]) #[false, false, false, false, false, false, false, false, false, false, false, false] (by kernel_rfl) rfl rfl ⟨hc.out.drew.c6, hc.out.drew.c7⟩ (fun hHeld => ?_)
 refine pu_ 0 19 (mk 12 1) rfl rfl ?_
 refine pu_ 1 20 (mk 12 3) rfl rfl ?_
 refine pu_ 2 21 (mk 12 7) rfl rfl ?_
 refine pu_ 4 23 (mk 12 23) rfl rfl ?_
 refine pu_ 5 24 (mk 12 55) rfl rfl ?_
 refine pu_ 6 25 (mk 12 119) rfl rfl ?_
 refine tk2_ 3 22 (mk 12 127) rfl rfl hHeld ?_
 refine tk2_ 7 26 (mk 12 255) rfl rfl hHeld ?_
 refine join_ (σ := Unit) 2 (mk 12 1023) (fun (_ : Unit) => [(27, Value.int .u32 (Pf.presence r.f.b)), (3, Value.pointer (some ⟨w1.heap.size, 0, none⟩))]) (fun (_ : Unit) w' => w' = (w1.alloc (.cells #[.int .u32 0] 22)).drew) ?_ ?_
 rotate_left
 ·exact e68
 rintro ⟨⟩ w' rfl
 have hHeld : (w1.alloc (.cells #[.int .u32 0] 22)).drew.cell? ⟨p, 6, none⟩ = some (.int .u32 r.f.a) ∧ (w1.alloc (.cells #[.int .u32 0] 22)).drew.cell? ⟨p, 7, none⟩ = some (.int .u32 r.f.b) := ⟨(hc.out.alloc (.cells #[.int .u32 0] 22)).drew.c6, (hc.out.alloc (.cells #[.int .u32 0] 22)).drew.c7⟩
 refine norm_ (a' := ?_) ?_ ?_
 rotate_left
 ·exact e50
 refine last_ (i := 10) (N := none) (mk 12 2047) rfl rfl (by kernel_rfl) (by decide) (fun K hK => ?_)
 refine skip_ (w1 := ?_) (by rfl) rfl ?_ ?_
 rotate_left
 ·go_simp
  rfl
 refine hK.out _ _ ?_
 clear hK K
 refine pu_ 11 4 (mk 12 4095) rfl rfl ?_
 refine done_ (by kernel_rfl) ?_
 clear c6 c7
 have nbp : w1.heap.size ≠ p := by have := hc.out.at_.lt; omega
 have nbg : w1.heap.size ≠ g := by have := hc.out.at_.mem.lt.2; omega
 have hb := Lib.hid (blk_drew (heap_alloc_new w1 (.cells #[.int .u32 r.f.a] 22)))
 replace hc := Lib.hid (hc.out.alloc (.cells #[.int .u32 r.f.a] 22)).drew
 have c4 : ((w1.alloc (.cells #[.int .u32 r.f.a] 22)).drew).cell? ⟨p, 4, none⟩ = some (.int .i64 3) := hc.out.at_.cell 4 (fun _ => by first | rfl | (rw [← hop4.out]; rfl))
 have c5 : ((w1.alloc (.cells #[.int .u32 r.f.a] 22)).drew).cell? ⟨p, 5, none⟩ = some (.int .i64 4) := hc.out.at_.cell 5 (fun _ => by first | rfl | (rw [← hln5.out]; rfl))
 have c6 := hc.out.c6
 have c7 := hc.out.c7
 generalize (w1.alloc (.cells #[.int .u32 r.f.a] 22)).drew = W1 at hb hc c4 c5 c6 c7 ⊢
 go_upto_region 4 with (fail)
 go_quiet (fail)
 replace hc := Lib.hid (hc.out.drewN nq)
 go_wp2_with (first
  | (go_at_call 105; (try clear c6); (try clear c7); go_must (refine note_step hc _ _ (by decide) ?_; intro w1 f1 hc c6 c7; clear f1))
  | (go_at_call 107; (try clear c6); (try clear c7); go_must (refine end_step hc _ ?_; intro w1 f1 hc c6 c7; clear f1))
  | (go_at_call 101; (try clear c6); (try clear c7); go_must (refine wait_step hc _ (fun v => v == r.f.a) (pfmine_tells hb.out nbp nbg) _ _ hs.out hd.out ?_; intro w1 f1 hc c6 c7; clear f1)))
 first | go_end0 | ((try simp only [Exit.inBlock, Exit.then]); refine bodyPost_ret (results_none rfl _ _ _) rfl ?_)
 refine ⟨rfl, ?_, hc.out.fr⟩
 unfold Pf.lines
 rw [hrd.out]
 simp only [Bool.false_eq_true, if_false, hop.out, hln.out]
 simp only [Int.reduceEq, and_true, true_and, and_self, and_false, false_and, if_true, if_false, or_false, false_or, or_true, true_or]
 rw [show (r.waited 1 fun v => v == r.f.a).seen = _ from hs.out, show (r.waited 1 fun v => v == r.f.a).done = _ from hd.out]
 exact hc.out.at_) : P := h
theorem e74 {P : Prop} (h : P := by
 have hl : Pf.leaves r = Pf.tries r := by
  unfold Pf.leaves
  simp only [hop]
  simp only [Int.reduceEq, and_true, true_and, and_self, and_false, false_and, if_true, if_false, or_false, false_or, or_true, true_or]
 rw [hl]
 obtain ⟨hc, c4, c5, c6, c7⟩ := start h hO hn hop rfl
 replace h := Lib.hid h
 replace hO := Lib.hid hO
 replace hn := Lib.hid hn
 replace hop := Lib.hid hop
 replace hL := Lib.hid hL
 replace hl := Lib.hid hl
 go_enter Tryz.func113, Tryz.ntmps113
 go_upto_region 2 with (go_at_call 110; go_must (refine (pfpres_walk r.f.b hc.out.ok.b _).mono ?_; rintro e w1 ⟨rfl, rfl⟩))
 go_quiet (fail)
 replace hc := Lib.hid (hc.out.drewN nq)
 go_wp2_with (go_at_call 156; go_must (refine (hL.out _ hc.out.at_).mono ?_; rintro e w2 ⟨rfl, hA1, hF1⟩; replace hA1 := Lib.hid hA1; replace hF1 := Lib.hid (hc.out.fr.trans hF1)))
 exact e73) : P := h
theorem e169 {P : Prop} (h : P := by
 skip
 refine goes_ Tryz.func207 (by kernel_rfl) rfl #[.pointer (some ⟨p, 0, none⟩)] (by rfl) rfl rfl (by simp only [List.map_toArray, List.map_cons, List.map_nil]; rfl) ?_
 with_reducible refine (pfown_eq hc.out.drew.at_ hq.out).mono ?_
 exact e181) : P := h
theorem e170 {P : Prop} (h : P := by
 skip
 refine value_ (w1 := ?_) (v := ?_) (by rfl) rfl ?_ ?_
 rotate_left 2
 ·go_simp
  constructor
  ·rfl
  ·rfl
 refine hK.out _ _ ((hc.out.alloc (.cells #[.int .u32 0] 22)).drew.c6) (fun hHeld => ?_)
 clear hK K
 refine nm_ ?_
 refine one_ (i := 5) (N := some 15) (mk 10 191) rfl rfl (by kernel_rfl) (by decide) (fun K hK => ?_)
 refine goes_ Tryz.func207 (by kernel_rfl) rfl #[.pointer (some ⟨p, 0, none⟩)] (by rfl) rfl rfl (by simp only [List.map_toArray, List.map_cons, List.map_nil]; rfl) ?_
 with_reducible refine (pfown_eq (hc.out.alloc (.cells #[.int .u32 0] 22)).drew.at_ hq.out).mono ?_
 exact e182) : P := h
theorem e171 {P : Prop} (h : P := by
 first | go_end0 | ((try simp only [Exit.inBlock, Exit.then]); refine bodyPost_ret (results_none rfl _ _ _) rfl ?_)
 refine ⟨rfl, ?_, hc.out.fr⟩
 unfold Pf.leaves
 exact e45) : P := h
theorem e172 {P : Prop} (h : P := by
 skip
 refine goes_ Tryz.func110 (by kernel_rfl) rfl #[.int .u32 r.f.b] (by rfl) rfl rfl (by simp only [List.map_toArray, List.map_cons, List.map_nil]; rfl) ?_
 with_reducible refine (pfpres_walk r.f.b hc.out.ok.b _).mono ?_
 rintro e w2 ⟨rfl, rfl⟩
 refine ⟨_, rfl, ?_⟩
 refine hK.out _ _ ⟨hc.out.drew.c6, hc.out.drew.c7⟩ (fun hHeld => ?_)
 clear hK K
 refine nm_ ?_
 refine one_ (i := 9) (N := some 3) (mk 12 1023) rfl rfl (by kernel_rfl) (by decide) (fun K hK => ?_)
 refine value_ (w1 := ?_) (v := ?_) (by rfl) rfl ?_ ?_
 rotate_left 2
 ·go_simp
  constructor
  ·rfl
  ·rfl
 exact e183) : P := h
theorem e173 {P : Prop} (h : P := by
 skip
 refine value_ (w1 := ?_) (v := ?_) (by rfl) rfl ?_ ?_
 rotate_left 2
 ·go_simp
  constructor
  ·rfl
  ·rfl
 refine hK.out _ _ ⟨(hc.out.alloc (.cells #[.int .u32 0] 22)).drew.c6, (hc.out.alloc (.cells #[.int .u32 0] 22)).drew.c7⟩ (fun hHeld => ?_)
 clear hK K
 refine nm_ ?_
 refine one_ (i := 8) (N := some 27) (mk 12 1023) rfl rfl (by kernel_rfl) (by decide) (fun K hK => ?_)
 refine goes_ Tryz.func110 (by kernel_rfl) rfl #[.int .u32 r.f.b] (by rfl) rfl rfl (by simp only [List.map_toArray, List.map_cons, List.map_nil]; rfl) ?_
 with_reducible refine (pfpres_walk r.f.b hc.out.ok.b _).mono ?_
 rintro e w2 ⟨rfl, rfl⟩
 refine ⟨_, rfl, ?_⟩
 exact e183) : P := h
theorem e183 {P : Prop} (h : P := by
 refine hK.out _ _ ⟨(hc.out.alloc (.cells #[.int .u32 0] 22)).drew.c6, (hc.out.alloc (.cells #[.int .u32 0] 22)).drew.c7⟩ (fun hHeld => ?_)
 exact e184) : P := h
theorem pfmine_walk (x v : Int) {k : Nat} (hk : w.heap[k]? = some (.cells #[.int .u32 x] 22 (0, 0))) : Calls Tryz.prog 111 #[.int .u32 v, .pointer (some ⟨k, 0, none⟩)] w fun e w' => e = .returned (.bool (v == x)) ∧ w' = w := by
 have c := cell_of_heap (j := 0) hk rfl
 replace hk := Lib.hid hk
 go_enter Tryz.func111, Tryz.ntmps111
 go_wp2
 go_ret
 exact ⟨rfl, rfl⟩
theorem pfmine_tells {x : Int} {k : Nat} (hk : w.heap[k]? = some (.cells #[.int .u32 x] 22 (0, 0))) (h1 : k ≠ p) (h2 : k ≠ g) : Tells B p pm g r false (fun v => v == x) 111 #[.pointer (some ⟨k, 0, none⟩)] w :=
 ⟨⟨_, Tryz.func111, rfl, rfl⟩, fun w1 v hv hf ha => (pfmine_walk x v (hf.keep hk h1 h2 (by decide))).mono (by rintro e w2 ⟨rfl, rfl⟩; exact ⟨rfl, ha, Fr.refl _ _ _ _⟩)⟩
theorem pflast_walk (x v : Int) {k : Nat} (hk : w.heap[k]? = some (.cells #[.int .u32 x] 22 (0, 0))) : Calls Tryz.prog 208 #[.int .u32 v, .pointer (some ⟨k, 0, none⟩)] w fun e w' => e = .returned (.bool (v == x)) ∧ w' = w := by
 have c := cell_of_heap (j := 0) hk rfl
 replace hk := Lib.hid hk
 go_enter Tryz.func208, Tryz.ntmps208
 go_wp2
 go_ret
 exact ⟨rfl, rfl⟩
theorem pflast_tells {x : Int} {k : Nat} (hk : w.heap[k]? = some (.cells #[.int .u32 x] 22 (0, 0))) (h1 : k ≠ p) (h2 : k ≠ g) : Tells B p pm g r false (fun v => v == x) 208 #[.pointer (some ⟨k, 0, none⟩)] w :=
 ⟨⟨_, Tryz.func208, rfl, rfl⟩, fun w1 v hv hf ha => (pflast_walk x v (hf.keep hk h1 h2 (by decide))).mono (by rintro e w2 ⟨rfl, rfl⟩; exact ⟨rfl, ha, Fr.refl _ _ _ _⟩)⟩
theorem wrap_u32 (x : Int) : IntKind.u32.wrap x = u32 x := by unfold u32; simp [IntKind.wrap, IntKind.signed, IntKind.bits]
theorem pf_pres (b : Int) (h : W32 b) : bits .or .u32 2 (bits .and .u32 b 1) = Pf.presence b := by
 rw [and_low1 b h.1 h.2, or_two _ (by omega)]
 rfl
theorem w32_pres (b : Int) : W32 (Pf.presence b) := by unfold Pf.presence W32; omega
theorem pfpres_walk (b : Int) (h : W32 b) (w : World) : Calls Tryz.prog 110 #[.int .u32 b] w fun e w' => e = .returned (.int .u32 (Pf.presence b)) ∧ w' = w := by
 have he := pf_pres b h
 replace h := Lib.hid h
 go_enter Tryz.func110, Tryz.ntmps110
 go_wp2
 go_ret
 exact ⟨by rw [← he]; rfl, rfl⟩
theorem pfown_walk (h : At B w p pm g r) : Calls Tryz.prog 207 #[.pointer (some ⟨p, 0, none⟩)] w fun e w' => e = .returned (.int .u32 (Pf.own r)) ∧ w' = w := by
 have c4 := h.cell 4 (fun _ => rfl)
 replace h := Lib.hid h
 unfold Pf.own
 by_cases h7 : r.f.op = 7
 ·have b7 : (r.f.op == 7) = true := beq_iff_eq.mpr h7
  rw [if_pos h7]
  exact e46
 ·have b7 : (r.f.op == 7) = false := beq_eq_false_iff_ne.mpr h7
  rw [if_neg h7]
  exact e46
theorem pfown_eq (h : At B w p pm g r) {q : Int} (hq : Pf.own r = q) : Calls Tryz.prog 207 #[.pointer (some ⟨p, 0, none⟩)] w fun e w' => e = .returned (.int .u32 q) ∧ w' = w := by
 rw [← hq]
 exact pfown_walk h
set_option maxHeartbeats 2000000 in
theorem pfpass_step (h : Hid (Car B w0 w p pm g r m)) (hm : m ≤ 900) (ok : Bool) (k : ∀ w1, Fr B p g w w1 → Hid (Car B w0 w1 p pm g (Pf.pass r ok) (m + 1)) → Q (.returned (.tuple #[])) w1) : Calls Tryz.prog 155 #[.pointer (some ⟨p, 0, none⟩), .bool ok] w Q := by
 have hm' : m ≤ 1000 := by omega
 suffices H : Calls Tryz.prog 155 #[.pointer (some ⟨p, 0, none⟩), .bool ok] w fun e w' => e = .returned (.tuple #[]) ∧ Car B w w' p pm g (Pf.pass r ok) (m + 1) by
  refine H.mono ?_
  rintro e w1 ⟨rfl, hc⟩
  exact k w1 hc.fr ⟨hc.at_, h.out.fr.trans hc.fr, hc.ok, hc.few⟩
 have hc : Hid (Car B w w p pm g r m) := ⟨h.out.at_, Fr.refl _ _ _ _, h.out.ok, h.out.few⟩
 have c6 := hc.out.c6
 have c7 := hc.out.c7
 replace hm' := Lib.hid hm'
 replace k := Lib.hid k
 replace h := Lib.hid h
 clear hm
 go_enter Tryz.func155, Tryz.ntmps155
 exact e14
theorem own_wrap (r : Run) : wrap64 (Pf.own r) = Pf.own r := by unfold Pf.own; split <;> (unfold wrap64; omega)
set_option maxHeartbeats 2000000 in
theorem pfinside_step (h : Hid (Car B w0 w p pm g r m)) (hm : m ≤ 900) (k : ∀ w1, Fr B p g w w1 → Hid (Car B w0 w1 p pm g (Pf.inside r) (m + 1)) → Q (.returned (.tuple #[])) w1) : Calls Tryz.prog 189 #[.pointer (some ⟨p, 0, none⟩)] w Q := by
 have hm' : m ≤ 1000 := by omega
 suffices H : Calls Tryz.prog 189 #[.pointer (some ⟨p, 0, none⟩)] w fun e w' => e = .returned (.tuple #[]) ∧ Car B w w' p pm g (Pf.inside r) (m + 1) by
  refine H.mono ?_
  rintro e w1 ⟨rfl, hc⟩
  exact k w1 hc.fr ⟨hc.at_, h.out.fr.trans hc.fr, hc.ok, hc.few⟩
 have hc : Hid (Car B w w p pm g r m) := ⟨h.out.at_, Fr.refl _ _ _ _, h.out.ok, h.out.few⟩
 have c6 := hc.out.c6
 have c7 := hc.out.c7
 replace hm' := Lib.hid hm'
 replace k := Lib.hid k
 replace h := Lib.hid h
 clear hm
 have hr : Pf.inside r = if Stile.ahead r.f.a (r.load 1).old > Pf.own r then (((r.load 1).setB (r.load 1).old).note 5 0).go 9 else ((r.load 1).setB (r.load 1).old).go 5 := rfl
 rw [hr]
 clear hr
 have ho := own_wrap r
 obtain ⟨n, hnn⟩ : ∃ n, n = Stile.ahead r.f.a (r.load 1).old := ⟨_, rfl⟩
 obtain ⟨q, hq⟩ : ∃ q, q = Pf.own r := ⟨_, rfl⟩
 rw [← hnn]
 rw [← hq] at ho ⊢
 replace hnn := Lib.hid hnn
 replace hq := Lib.hid hq
 generalize hrr : (if n > q then (((r.load 1).setB (r.load 1).old).note 5 0).go 9 else ((r.load 1).setB (r.load 1).old).go 5) = rr
 replace hrr := Lib.hid hrr
 by_cases hgt : n > q
 ·have hb : decide (n > q) = true := decide_eq_true hgt
  replace hgt := Lib.hid hgt
  go_enter Tryz.func189, Tryz.ntmps189
  go_upto_region 2 with (first
    | (go_at_call 112; (try clear c6); (try clear c7); go_must (refine load_step hc _ ?_; intro w1 f1 hc c6 c7; clear f1))
    | ((with_reducible refine gate_store rfl ?_); refine stB_step hc rfl rfl rfl rfl rfl rfl ?_; clear c6 c7; intro w1 f1 hc c6 c7; clear f1))
  replace c6 : w1.cell? ⟨p, 6, none⟩ = some (.int .u32 r.f.a) := c6
  go_quiet (first
   | (go_at_call 188; refine Calls.quiet_of_same (ahead_eq hnn.out.symm _))
   | (go_at_call 207; refine Calls.quiet_of_same (pfown_eq (hc.out.at_.drewN _) hq.out.symm)))
  exact e47
 ·have hb : decide (n > q) = false := decide_eq_false hgt
  replace hgt := Lib.hid hgt
  go_enter Tryz.func189, Tryz.ntmps189
  go_upto_region 2 with (first
    | (go_at_call 112; (try clear c6); (try clear c7); go_must (refine load_step hc _ ?_; intro w1 f1 hc c6 c7; clear f1))
    | ((with_reducible refine gate_store rfl ?_); refine stB_step hc rfl rfl rfl rfl rfl rfl ?_; clear c6 c7; intro w1 f1 hc c6 c7; clear f1))
  replace c6 : w1.cell? ⟨p, 6, none⟩ = some (.int .u32 r.f.a) := c6
  go_quiet (first
   | (go_at_call 188; refine Calls.quiet_of_same (ahead_eq hnn.out.symm _))
   | (go_at_call 207; refine Calls.quiet_of_same (pfown_eq (hc.out.at_.drewN _) hq.out.symm)))
  exact e48
set_option maxHeartbeats 8000000 in
theorem pflast_6 (h : Hid (Car B w0 w p pm g r m)) (hm : m ≤ 900) (hop : r.f.op = 6) (q : Int) (hq : Pf.own r = q) (s d : Bool) (hs : (r.waited 1 (fun v => v == u32 (r.f.a - q))).seen = s) (hd : (r.waited 1 (fun v => v == u32 (r.f.a - q))).done = d) (k : ∀ w1, Fr B p g w w1 → Hid (Car B w0 w1 p pm g (Pf.last r) (m + 1)) → Q (.returned (.tuple #[])) w1) : Calls Tryz.prog 190 #[.pointer (some ⟨p, 0, none⟩)] w Q := by
 have hm' : m ≤ 1000 := by omega
 suffices H : Calls Tryz.prog 190 #[.pointer (some ⟨p, 0, none⟩)] w fun e w' => e = .returned (.tuple #[]) ∧ Car B w w' p pm g (Pf.last r) (m + 1) by
  refine H.mono ?_
  rintro e w1 ⟨rfl, hc⟩
  exact k w1 hc.fr ⟨hc.at_, h.out.fr.trans hc.fr, hc.ok, hc.few⟩
 have hc : Hid (Car B w w p pm g r m) := ⟨h.out.at_, Fr.refl _ _ _ _, h.out.ok, h.out.few⟩
 have c4 : w.cell? ⟨p, 4, none⟩ = some (.int .i64 6) := hc.out.at_.cell 4 (fun _ => by rw [← hop]; rfl)
 have c6 := hc.out.c6
 have hr : Pf.last r = (let r2 := if s then (r.wait 1 (fun v => v == u32 (r.f.a - q))).note 4 0 else r.wait 1 (fun v => v == u32 (r.f.a - q)); if d then r2.fin true else r2) := by
  unfold Pf.last
  simp only [hq, hop, hs, hd]
  rfl
 have nbp : w.heap.size ≠ p := by have := hc.out.at_.lt; omega
 have nbg : w.heap.size ≠ g := by have := hc.out.at_.mem.lt.2; omega
 rw [hr]
 replace hm' := Lib.hid hm'
 replace k := Lib.hid k
 replace h := Lib.hid h
 replace hq := Lib.hid hq
 replace hop := Lib.hid hop
 replace hs := Lib.hid hs
 replace hd := Lib.hid hd
 replace hr := Lib.hid hr
 clear hm
 go_enter Tryz.func190, Tryz.ntmps190
 go_upto_region 1 with (fail)
 refine start_ (n := 10) (S := fun w' => w'.cell? ⟨p, 6, none⟩ = some (.int .u32 r.f.a)) (ds := [8]) #[false, false, false, false, false, false, false, false, false, false] (by kernel_rfl) rfl rfl (hc.out.drew.c6) (fun hHeld => ?_)
 refine pu_ 0 10 (mk 10 1) rfl rfl ?_
 refine pu_ 1 11 (mk 10 3) rfl rfl ?_
 refine pu_ 2 12 (mk 10 7) rfl rfl ?_
 refine pu_ 4 14 (mk 10 23) rfl rfl ?_
 refine take_ (i := 3) (N := some 13) (v := ?_) (a' := ?_) (mk 10 31) rfl rfl (by kernel_rfl) (fun _ _ _ h => h) (Or.inl ⟨by rfl, ?_⟩) hHeld ?_ ?_
 rotate_left
 ·intro w' s0
  go_simp
  with_reducible rfl
 rotate_left
 ·exact e4
 refine join_ (σ := Unit) 2 (mk 10 255) (fun (_ : Unit) => [(15, Value.int .u32 q), (16, Value.int .u32 (IntKind.u32.wrap (r.f.a - q))), (3, Value.pointer (some ⟨w.heap.size, 0, none⟩))]) (fun (_ : Unit) w' => w' = (w.alloc (.cells #[.int .u32 0] 22)).drew) ?_ ?_
 rotate_left
 ·exact e49
 rintro ⟨⟩ w' rfl
 have hHeld : (w.alloc (.cells #[.int .u32 0] 22)).drew.cell? ⟨p, 6, none⟩ = some (.int .u32 r.f.a) := (hc.out.alloc (.cells #[.int .u32 0] 22)).drew.c6
 refine norm_ (a' := ?_) ?_ ?_
 rotate_left
 ·exact e50
 refine last_ (i := 8) (N := none) (mk 10 511) rfl rfl (by kernel_rfl) (by decide) (fun K hK => ?_)
 refine skip_ (w1 := ?_) (by rfl) rfl ?_ ?_
 rotate_left
 ·go_simp
  rfl
 refine hK.out _ _ ?_
 clear hK K
 refine pu_ 9 4 (mk 10 1023) rfl rfl ?_
 refine done_ (by kernel_rfl) ?_
 have hb := Lib.hid (blk_drew (heap_alloc_new w (.cells #[.int .u32 (u32 (r.f.a - q))] 22)))
 replace hc := Lib.hid (hc.out.alloc (.cells #[.int .u32 (u32 (r.f.a - q))] 22)).drew
 replace c4 : ((w.alloc (.cells #[.int .u32 (u32 (r.f.a - q))] 22)).drew).cell? ⟨p, 4, none⟩ = some (.int .i64 6) := hc.out.at_.cell 4 (fun _ => by rw [← hop.out]; rfl)
 exact e51
set_option maxHeartbeats 8000000 in
theorem pflast_7 (h : Hid (Car B w0 w p pm g r m)) (hm : m ≤ 900) (hop : r.f.op = 7) (q : Int) (hq : Pf.own r = q) (s d : Bool) (hs : (r.waited 1 (fun v => v == u32 (r.f.a - q))).seen = s) (hd : (r.waited 1 (fun v => v == u32 (r.f.a - q))).done = d) (k : ∀ w1, Fr B p g w w1 → Hid (Car B w0 w1 p pm g (Pf.last r) (m + 1)) → Q (.returned (.tuple #[])) w1) : Calls Tryz.prog 190 #[.pointer (some ⟨p, 0, none⟩)] w Q := by
 have hm' : m ≤ 1000 := by omega
 suffices H : Calls Tryz.prog 190 #[.pointer (some ⟨p, 0, none⟩)] w fun e w' => e = .returned (.tuple #[]) ∧ Car B w w' p pm g (Pf.last r) (m + 1) by
  refine H.mono ?_
  rintro e w1 ⟨rfl, hc⟩
  exact k w1 hc.fr ⟨hc.at_, h.out.fr.trans hc.fr, hc.ok, hc.few⟩
 have hc : Hid (Car B w w p pm g r m) := ⟨h.out.at_, Fr.refl _ _ _ _, h.out.ok, h.out.few⟩
 have c4 : w.cell? ⟨p, 4, none⟩ = some (.int .i64 7) := hc.out.at_.cell 4 (fun _ => by rw [← hop]; rfl)
 have c6 := hc.out.c6
 have hr : Pf.last r = (let r2 := if s then (r.wait 1 (fun v => v == u32 (r.f.a - q))).note 9 0 else r.wait 1 (fun v => v == u32 (r.f.a - q)); if d then r2.go 8 else r2) := by
  unfold Pf.last
  simp only [hq, hop, hs, hd]
  rfl
 have nbp : w.heap.size ≠ p := by have := hc.out.at_.lt; omega
 have nbg : w.heap.size ≠ g := by have := hc.out.at_.mem.lt.2; omega
 rw [hr]
 replace hm' := Lib.hid hm'
 replace k := Lib.hid k
 replace h := Lib.hid h
 replace hq := Lib.hid hq
 replace hop := Lib.hid hop
 replace hs := Lib.hid hs
 replace hd := Lib.hid hd
 replace hr := Lib.hid hr
 clear hm
 go_enter Tryz.func190, Tryz.ntmps190
 go_upto_region 1 with (fail)
 refine start_ (n := 10) (S := fun w' => w'.cell? ⟨p, 6, none⟩ = some (.int .u32 r.f.a)) (ds := [8]) #[false, false, false, false, false, false, false, false, false, false] (by kernel_rfl) rfl rfl (hc.out.drew.c6) (fun hHeld => ?_)
 refine pu_ 0 10 (mk 10 1) rfl rfl ?_
 refine pu_ 1 11 (mk 10 3) rfl rfl ?_
 refine pu_ 2 12 (mk 10 7) rfl rfl ?_
 refine pu_ 4 14 (mk 10 23) rfl rfl ?_
 refine take_ (i := 3) (N := some 13) (v := ?_) (a' := ?_) (mk 10 31) rfl rfl (by kernel_rfl) (fun _ _ _ h => h) (Or.inl ⟨by rfl, ?_⟩) hHeld ?_ ?_
 rotate_left
 ·intro w' s0
  go_simp
  with_reducible rfl
 rotate_left
 ·exact e4
 refine join_ (σ := Unit) 2 (mk 10 255) (fun (_ : Unit) => [(15, Value.int .u32 q), (16, Value.int .u32 (IntKind.u32.wrap (r.f.a - q))), (3, Value.pointer (some ⟨w.heap.size, 0, none⟩))]) (fun (_ : Unit) w' => w' = (w.alloc (.cells #[.int .u32 0] 22)).drew) ?_ ?_
 rotate_left
 ·exact e49
 rintro ⟨⟩ w' rfl
 have hHeld : (w.alloc (.cells #[.int .u32 0] 22)).drew.cell? ⟨p, 6, none⟩ = some (.int .u32 r.f.a) := (hc.out.alloc (.cells #[.int .u32 0] 22)).drew.c6
 refine norm_ (a' := ?_) ?_ ?_
 rotate_left
 ·exact e50
 refine last_ (i := 8) (N := none) (mk 10 511) rfl rfl (by kernel_rfl) (by decide) (fun K hK => ?_)
 refine skip_ (w1 := ?_) (by rfl) rfl ?_ ?_
 rotate_left
 ·go_simp
  rfl
 refine hK.out _ _ ?_
 clear hK K
 refine pu_ 9 4 (mk 10 1023) rfl rfl ?_
 refine done_ (by kernel_rfl) ?_
 have hb := Lib.hid (blk_drew (heap_alloc_new w (.cells #[.int .u32 (u32 (r.f.a - q))] 22)))
 replace hc := Lib.hid (hc.out.alloc (.cells #[.int .u32 (u32 (r.f.a - q))] 22)).drew
 replace c4 : ((w.alloc (.cells #[.int .u32 (u32 (r.f.a - q))] 22)).drew).cell? ⟨p, 4, none⟩ = some (.int .i64 7) := hc.out.at_.cell 4 (fun _ => by rw [← hop.out]; rfl)
 exact e51
set_option maxHeartbeats 4000000 in
theorem pft_6_0 (h : At B w p pm g r) (hO : Ok r) (hn : r.notes = []) (hop : r.f.op = 6) (hln : r.f.line = 0) : Calls Tryz.prog 156 #[.pointer (some ⟨p, 0, none⟩)] w fun e w' => e = .returned (.tuple #[]) ∧ At B w' p pm g (Pf.tries r) ∧ Fr B p g w w' := e52
set_option maxHeartbeats 4000000 in
theorem pft_6_3 (h : At B w p pm g r) (hO : Ok r) (hn : r.notes = []) (hop : r.f.op = 6) (hln : r.f.line = 3) : Calls Tryz.prog 156 #[.pointer (some ⟨p, 0, none⟩)] w fun e w' => e = .returned (.tuple #[]) ∧ At B w' p pm g (Pf.tries r) ∧ Fr B p g w w' := e52
set_option maxHeartbeats 4000000 in
theorem pft_6_5 (h : At B w p pm g r) (hO : Ok r) (hn : r.notes = []) (hop : r.f.op = 6) (hln : r.f.line = 5) : Calls Tryz.prog 156 #[.pointer (some ⟨p, 0, none⟩)] w fun e w' => e = .returned (.tuple #[]) ∧ At B w' p pm g (Pf.tries r) ∧ Fr B p g w w' := e53
set_option maxHeartbeats 4000000 in
theorem pft_6_4 (h : At B w p pm g r) (hO : Ok r) (hn : r.notes = []) (hop : r.f.op = 6) (hln : r.f.line = 4) : Calls Tryz.prog 156 #[.pointer (some ⟨p, 0, none⟩)] w fun e w' => e = .returned (.tuple #[]) ∧ At B w' p pm g (Pf.tries r) ∧ Fr B p g w w' := e54
set_option maxHeartbeats 4000000 in
theorem pft_6_6 (h : At B w p pm g r) (hO : Ok r) (hn : r.notes = []) (hop : r.f.op = 6) (hln : r.f.line = 6) : Calls Tryz.prog 156 #[.pointer (some ⟨p, 0, none⟩)] w fun e w' => e = .returned (.tuple #[]) ∧ At B w' p pm g (Pf.tries r) ∧ Fr B p g w w' := e55
set_option maxHeartbeats 4000000 in
theorem pft_6_9 (h : At B w p pm g r) (hO : Ok r) (hn : r.notes = []) (hop : r.f.op = 6) (hln : r.f.line = 9) : Calls Tryz.prog 156 #[.pointer (some ⟨p, 0, none⟩)] w fun e w' => e = .returned (.tuple #[]) ∧ At B w' p pm g (Pf.tries r) ∧ Fr B p g w w' := e56
set_option maxHeartbeats 4000000 in
theorem pft_6_7 (h : At B w p pm g r) (hO : Ok r) (hn : r.notes = []) (hop : r.f.op = 6) (hln : r.f.line = 7) : Calls Tryz.prog 156 #[.pointer (some ⟨p, 0, none⟩)] w fun e w' => e = .returned (.tuple #[]) ∧ At B w' p pm g (Pf.tries r) ∧ Fr B p g w w' := by
 obtain ⟨hc, c4, c5, c6, c7⟩ := start h hO hn hop hln
 replace h := Lib.hid h
 replace hO := Lib.hid hO
 replace hn := Lib.hid hn
 replace hop := Lib.hid hop
 replace hln := Lib.hid hln
 go_enter Tryz.func156, Tryz.ntmps156
 go_wp2_with (first
  | (go_at_call 190; (try clear c6); (try clear c7); go_must (refine pflast_6 hc (by decide) hop.out 0 (by unfold Pf.own; rw [hop.out]; rfl) _ _ rfl rfl ?_; intro w1 f1 hc; clear f1)))
 exact e57
set_option maxHeartbeats 4000000 in
theorem pft_6_1_g (h : At B w p pm g r) (hO : Ok r) (hn : r.notes = []) (hop : r.f.op = 6) (hln : r.f.line = 1) (n : Int) (hn2 : Stile.ahead r.f.a (r.load 3).old = n) (hx : n > 0) : Calls Tryz.prog 156 #[.pointer (some ⟨p, 0, none⟩)] w fun e w' => e = .returned (.tuple #[]) ∧ At B w' p pm g (Pf.tries r) ∧ Fr B p g w w' := e58
set_option maxHeartbeats 4000000 in
theorem pft_6_1_l (h : At B w p pm g r) (hO : Ok r) (hn : r.notes = []) (hop : r.f.op = 6) (hln : r.f.line = 1) (n : Int) (hn2 : Stile.ahead r.f.a (r.load 3).old = n) (hx : ¬ n > 0) (hy : n < 0) : Calls Tryz.prog 156 #[.pointer (some ⟨p, 0, none⟩)] w fun e w' => e = .returned (.tuple #[]) ∧ At B w' p pm g (Pf.tries r) ∧ Fr B p g w w' := e59
set_option maxHeartbeats 4000000 in
theorem pft_6_1_e (h : At B w p pm g r) (hO : Ok r) (hn : r.notes = []) (hop : r.f.op = 6) (hln : r.f.line = 1) (n : Int) (hn2 : Stile.ahead r.f.a (r.load 3).old = n) (hx : ¬ n > 0) (hy : ¬ n < 0) : Calls Tryz.prog 156 #[.pointer (some ⟨p, 0, none⟩)] w fun e w' => e = .returned (.tuple #[]) ∧ At B w' p pm g (Pf.tries r) ∧ Fr B p g w w' := e60
set_option maxHeartbeats 4000000 in
theorem pft_6_2_t (h : At B w p pm g r) (hO : Ok r) (hn : r.notes = []) (hop : r.f.op = 6) (hln : r.f.line = 2) (hcs : (r.cas 2 r.f.a (u32 (r.f.a + 1))).hitCas r.f.a = true) : Calls Tryz.prog 156 #[.pointer (some ⟨p, 0, none⟩)] w fun e w' => e = .returned (.tuple #[]) ∧ At B w' p pm g (Pf.tries r) ∧ Fr B p g w w' := e61
set_option maxHeartbeats 4000000 in
theorem pft_6_2_f (h : At B w p pm g r) (hO : Ok r) (hn : r.notes = []) (hop : r.f.op = 6) (hln : r.f.line = 2) (hcs : (r.cas 2 r.f.a (u32 (r.f.a + 1))).hitCas r.f.a = false) : Calls Tryz.prog 156 #[.pointer (some ⟨p, 0, none⟩)] w fun e w' => e = .returned (.tuple #[]) ∧ At B w' p pm g (Pf.tries r) ∧ Fr B p g w w' := e62
set_option maxHeartbeats 4000000 in
theorem pft_7_0 (h : At B w p pm g r) (hO : Ok r) (hn : r.notes = []) (hop : r.f.op = 7) (hln : r.f.line = 0) : Calls Tryz.prog 156 #[.pointer (some ⟨p, 0, none⟩)] w fun e w' => e = .returned (.tuple #[]) ∧ At B w' p pm g (Pf.tries r) ∧ Fr B p g w w' := e52
set_option maxHeartbeats 4000000 in
theorem pft_7_3 (h : At B w p pm g r) (hO : Ok r) (hn : r.notes = []) (hop : r.f.op = 7) (hln : r.f.line = 3) : Calls Tryz.prog 156 #[.pointer (some ⟨p, 0, none⟩)] w fun e w' => e = .returned (.tuple #[]) ∧ At B w' p pm g (Pf.tries r) ∧ Fr B p g w w' := e52
set_option maxHeartbeats 4000000 in
theorem pft_7_5 (h : At B w p pm g r) (hO : Ok r) (hn : r.notes = []) (hop : r.f.op = 7) (hln : r.f.line = 5) : Calls Tryz.prog 156 #[.pointer (some ⟨p, 0, none⟩)] w fun e w' => e = .returned (.tuple #[]) ∧ At B w' p pm g (Pf.tries r) ∧ Fr B p g w w' := e53
set_option maxHeartbeats 4000000 in
theorem pft_7_4 (h : At B w p pm g r) (hO : Ok r) (hn : r.notes = []) (hop : r.f.op = 7) (hln : r.f.line = 4) : Calls Tryz.prog 156 #[.pointer (some ⟨p, 0, none⟩)] w fun e w' => e = .returned (.tuple #[]) ∧ At B w' p pm g (Pf.tries r) ∧ Fr B p g w w' := e54
set_option maxHeartbeats 4000000 in
theorem pft_7_6 (h : At B w p pm g r) (hO : Ok r) (hn : r.notes = []) (hop : r.f.op = 7) (hln : r.f.line = 6) : Calls Tryz.prog 156 #[.pointer (some ⟨p, 0, none⟩)] w fun e w' => e = .returned (.tuple #[]) ∧ At B w' p pm g (Pf.tries r) ∧ Fr B p g w w' := e55
set_option maxHeartbeats 4000000 in
theorem pft_7_9 (h : At B w p pm g r) (hO : Ok r) (hn : r.notes = []) (hop : r.f.op = 7) (hln : r.f.line = 9) : Calls Tryz.prog 156 #[.pointer (some ⟨p, 0, none⟩)] w fun e w' => e = .returned (.tuple #[]) ∧ At B w' p pm g (Pf.tries r) ∧ Fr B p g w w' := e56
set_option maxHeartbeats 4000000 in
theorem pft_7_7 (h : At B w p pm g r) (hO : Ok r) (hn : r.notes = []) (hop : r.f.op = 7) (hln : r.f.line = 7) : Calls Tryz.prog 156 #[.pointer (some ⟨p, 0, none⟩)] w fun e w' => e = .returned (.tuple #[]) ∧ At B w' p pm g (Pf.tries r) ∧ Fr B p g w w' := by
 obtain ⟨hc, c4, c5, c6, c7⟩ := start h hO hn hop hln
 replace h := Lib.hid h
 replace hO := Lib.hid hO
 replace hn := Lib.hid hn
 replace hop := Lib.hid hop
 replace hln := Lib.hid hln
 go_enter Tryz.func156, Tryz.ntmps156
 go_wp2_with (first
  | (go_at_call 190; (try clear c6); (try clear c7); go_must (refine pflast_7 hc (by decide) hop.out 256 (by unfold Pf.own; rw [hop.out]; rfl) _ _ rfl rfl ?_; intro w1 f1 hc; clear f1)))
 exact e57
set_option maxHeartbeats 4000000 in
theorem pft_7_1_g (h : At B w p pm g r) (hO : Ok r) (hn : r.notes = []) (hop : r.f.op = 7) (hln : r.f.line = 1) (n : Int) (hn2 : Stile.ahead r.f.a (r.load 3).old = n) (hx : n > 0) : Calls Tryz.prog 156 #[.pointer (some ⟨p, 0, none⟩)] w fun e w' => e = .returned (.tuple #[]) ∧ At B w' p pm g (Pf.tries r) ∧ Fr B p g w w' := e58
set_option maxHeartbeats 4000000 in
theorem pft_7_1_l (h : At B w p pm g r) (hO : Ok r) (hn : r.notes = []) (hop : r.f.op = 7) (hln : r.f.line = 1) (n : Int) (hn2 : Stile.ahead r.f.a (r.load 3).old = n) (hx : ¬ n > 0) (hy : n < 0) : Calls Tryz.prog 156 #[.pointer (some ⟨p, 0, none⟩)] w fun e w' => e = .returned (.tuple #[]) ∧ At B w' p pm g (Pf.tries r) ∧ Fr B p g w w' := e59
set_option maxHeartbeats 4000000 in
theorem pft_7_1_e (h : At B w p pm g r) (hO : Ok r) (hn : r.notes = []) (hop : r.f.op = 7) (hln : r.f.line = 1) (n : Int) (hn2 : Stile.ahead r.f.a (r.load 3).old = n) (hx : ¬ n > 0) (hy : ¬ n < 0) : Calls Tryz.prog 156 #[.pointer (some ⟨p, 0, none⟩)] w fun e w' => e = .returned (.tuple #[]) ∧ At B w' p pm g (Pf.tries r) ∧ Fr B p g w w' := e60
set_option maxHeartbeats 4000000 in
theorem pft_7_2_t (h : At B w p pm g r) (hO : Ok r) (hn : r.notes = []) (hop : r.f.op = 7) (hln : r.f.line = 2) (hcs : (r.cas 2 r.f.a (u32 (r.f.a + 1))).hitCas r.f.a = true) : Calls Tryz.prog 156 #[.pointer (some ⟨p, 0, none⟩)] w fun e w' => e = .returned (.tuple #[]) ∧ At B w' p pm g (Pf.tries r) ∧ Fr B p g w w' := e61
set_option maxHeartbeats 4000000 in
theorem pft_7_2_f (h : At B w p pm g r) (hO : Ok r) (hn : r.notes = []) (hop : r.f.op = 7) (hln : r.f.line = 2) (hcs : (r.cas 2 r.f.a (u32 (r.f.a + 1))).hitCas r.f.a = false) : Calls Tryz.prog 156 #[.pointer (some ⟨p, 0, none⟩)] w fun e w' => e = .returned (.tuple #[]) ∧ At B w' p pm g (Pf.tries r) ∧ Fr B p g w w' := e62
set_option maxHeartbeats 4000000 in
theorem pft_7_8 (h : At B w p pm g r) (hO : Ok r) (hn : r.notes = []) (hop : r.f.op = 7) (hln : r.f.line = 8) : Calls Tryz.prog 156 #[.pointer (some ⟨p, 0, none⟩)] w fun e w' => e = .returned (.tuple #[]) ∧ At B w' p pm g (Pf.tries r) ∧ Fr B p g w w' := by
 obtain ⟨hc, c4, c5, c6, c7⟩ := start h hO hn hop hln
 replace h := Lib.hid h
 replace hO := Lib.hid hO
 replace hn := Lib.hid hn
 replace hop := Lib.hid hop
 replace hln := Lib.hid hln
 go_enter Tryz.func156, Tryz.ntmps156
 go_wp2_with (first
  | (go_at_call 104; (try clear c6); (try clear c7); go_must (refine add_step hc _ _ (by first | decide | exact w32_u32 _ | exact w32_pres _) ?_; intro w1 f1 hc c6 c7; clear f1))
  | (go_at_call 107; (try clear c6); (try clear c7); go_must (refine end_step hc _ ?_; intro w1 f1 hc c6 c7; clear f1)))
 exact e57
set_option maxHeartbeats 4000000 in
theorem pfl_4_0 (h : At B w p pm g r) (hO : Ok r) (hn : r.notes = []) (hop : r.f.op = 4) (hln : r.f.line = 0) : Calls Tryz.prog 113 #[.pointer (some ⟨p, 0, none⟩)] w fun e w' => e = .returned (.tuple #[]) ∧ At B w' p pm g (Pf.leaves r) ∧ Fr B p g w w' := e63
set_option maxHeartbeats 4000000 in
theorem pfl_4_1 (h : At B w p pm g r) (hO : Ok r) (hn : r.notes = []) (hop : r.f.op = 4) (hln : r.f.line = 1) : Calls Tryz.prog 113 #[.pointer (some ⟨p, 0, none⟩)] w fun e w' => e = .returned (.tuple #[]) ∧ At B w' p pm g (Pf.leaves r) ∧ Fr B p g w w' := e64
set_option maxHeartbeats 4000000 in
theorem pfl_4_2 (h : At B w p pm g r) (hO : Ok r) (hn : r.notes = []) (hop : r.f.op = 4) (hln : r.f.line = 2) : Calls Tryz.prog 113 #[.pointer (some ⟨p, 0, none⟩)] w fun e w' => e = .returned (.tuple #[]) ∧ At B w' p pm g (Pf.leaves r) ∧ Fr B p g w w' := e65
set_option maxHeartbeats 4000000 in
theorem pfl_4_3 (h : At B w p pm g r) (hO : Ok r) (hn : r.notes = []) (hop : r.f.op = 4) (hln : r.f.line = 3) : Calls Tryz.prog 113 #[.pointer (some ⟨p, 0, none⟩)] w fun e w' => e = .returned (.tuple #[]) ∧ At B w' p pm g (Pf.leaves r) ∧ Fr B p g w w' := e66
set_option maxHeartbeats 4000000 in
theorem pfl_8_0 (h : At B w p pm g r) (hO : Ok r) (hn : r.notes = []) (hop : r.f.op = 8) (hln : r.f.line = 0) : Calls Tryz.prog 113 #[.pointer (some ⟨p, 0, none⟩)] w fun e w' => e = .returned (.tuple #[]) ∧ At B w' p pm g (Pf.leaves r) ∧ Fr B p g w w' := e63
set_option maxHeartbeats 4000000 in
theorem pfl_8_1 (h : At B w p pm g r) (hO : Ok r) (hn : r.notes = []) (hop : r.f.op = 8) (hln : r.f.line = 1) : Calls Tryz.prog 113 #[.pointer (some ⟨p, 0, none⟩)] w fun e w' => e = .returned (.tuple #[]) ∧ At B w' p pm g (Pf.leaves r) ∧ Fr B p g w w' := e64
set_option maxHeartbeats 4000000 in
theorem pfl_8_2 (h : At B w p pm g r) (hO : Ok r) (hn : r.notes = []) (hop : r.f.op = 8) (hln : r.f.line = 2) : Calls Tryz.prog 113 #[.pointer (some ⟨p, 0, none⟩)] w fun e w' => e = .returned (.tuple #[]) ∧ At B w' p pm g (Pf.leaves r) ∧ Fr B p g w w' := e65
set_option maxHeartbeats 4000000 in
theorem pfl_8_3 (h : At B w p pm g r) (hO : Ok r) (hn : r.notes = []) (hop : r.f.op = 8) (hln : r.f.line = 3) : Calls Tryz.prog 113 #[.pointer (some ⟨p, 0, none⟩)] w fun e w' => e = .returned (.tuple #[]) ∧ At B w' p pm g (Pf.leaves r) ∧ Fr B p g w w' := e66
set_option maxHeartbeats 2000000 in
theorem pf_reader (h : At B w p pm g r) (hR : Calls Tryz.prog 109 #[.pointer (some ⟨p, 0, none⟩), .int .i64 0, .int .i64 1] w fun e w' => e = .returned (.bool true) ∧ At B w' p pm g (Pf.reader r 0 1).1 ∧ Fr B p g w w') (hp : (Pf.reader r 0 1).2 = true) : Calls Tryz.prog 72 #[.pointer (some ⟨p, 0, none⟩)] w fun e w' => e = .returned (.tuple #[]) ∧ At B w' p pm g (Pf.lines r) ∧ Fr B p g w w' := by
 have hl : Pf.lines r = (Pf.reader r 0 1).1 := by unfold Pf.lines; rw [if_pos hp]
 rw [hl]
 generalize (Pf.reader r 0 1).1 = rr at hR ⊢
 replace h := Lib.hid h
 replace hp := Lib.hid hp
 replace hl := Lib.hid hl
 go_enter Tryz.func72, Tryz.ntmps72
 exact e67
set_option maxHeartbeats 4000000 in
theorem pf_3_0 (h : At B w p pm g r) (hO : Ok r) (hn : r.notes = []) (hop : r.f.op = 3) (hln : r.f.line = 0) : Calls Tryz.prog 72 #[.pointer (some ⟨p, 0, none⟩)] w fun e w' => e = .returned (.tuple #[]) ∧ At B w' p pm g (Pf.lines r) ∧ Fr B p g w w' := by
 have hrd := pfr_plain_none (r := r) (by rw [hop]; decide) (by rw [hop]; decide) (by rw [hop]; decide)
 obtain ⟨hc, c4, c5, c6, c7⟩ := start h hO hn hop hln
 have hR := pfr_none h hO hn (by rw [hop]; decide) (by rw [hop]; decide) (by rw [hop]; decide)
 have hop4 := hop
 have hln5 := hln
 replace h := Lib.hid h
 replace hO := Lib.hid hO
 replace hn := Lib.hid hn
 replace hop := Lib.hid hop
 replace hln := Lib.hid hln
 replace hR := Lib.hid hR
 replace hop4 := Lib.hid hop4
 replace hln5 := Lib.hid hln5
 replace hrd := Lib.hid hrd
 go_enter Tryz.func72, Tryz.ntmps72
 go_upto_region 2 with (go_at_call 109; go_must (clear c4 c5 c6 c7; refine hR.out.mono ?_; rintro e w1 ⟨rfl, hA1, hF1⟩; replace hc : Hid (Car B w w1 p pm g r 0) := ⟨hA1, hF1, hc.out.ok, hc.out.few⟩; clear hA1 hF1; have c6 := hc.out.c6; have c7 := hc.out.c7))
 refine start_ (n := 12) (S := fun w' => w'.cell? ⟨p, 6, none⟩ = some (.int .u32 r.f.a) ∧ w'.cell? ⟨p, 7, none⟩ = some (.int .u32 r.f.b)) (ds := [10]) #[false, false, false, false, false, false, false, false, false, false, false, false] (by kernel_rfl) rfl rfl ⟨hc.out.drew.c6, hc.out.drew.c7⟩ (fun hHeld => ?_)
 refine pu_ 0 19 (mk 12 1) rfl rfl ?_
 refine pu_ 1 20 (mk 12 3) rfl rfl ?_
 refine pu_ 2 21 (mk 12 7) rfl rfl ?_
 refine pu_ 4 23 (mk 12 23) rfl rfl ?_
 refine pu_ 5 24 (mk 12 55) rfl rfl ?_
 refine pu_ 6 25 (mk 12 119) rfl rfl ?_
 refine tk2_ 3 22 (mk 12 127) rfl rfl hHeld ?_
 refine tk2_ 7 26 (mk 12 255) rfl rfl hHeld ?_
 refine join_ (σ := Unit) 2 (mk 12 1023) (fun (_ : Unit) => [(27, Value.int .u32 (Pf.presence r.f.b)), (3, Value.pointer (some ⟨w1.heap.size, 0, none⟩))]) (fun (_ : Unit) w' => w' = (w1.alloc (.cells #[.int .u32 0] 22)).drew) ?_ ?_
 rotate_left
 ·exact e68
 rintro ⟨⟩ w' rfl
 have hHeld : (w1.alloc (.cells #[.int .u32 0] 22)).drew.cell? ⟨p, 6, none⟩ = some (.int .u32 r.f.a) ∧ (w1.alloc (.cells #[.int .u32 0] 22)).drew.cell? ⟨p, 7, none⟩ = some (.int .u32 r.f.b) := ⟨(hc.out.alloc (.cells #[.int .u32 0] 22)).drew.c6, (hc.out.alloc (.cells #[.int .u32 0] 22)).drew.c7⟩
 refine norm_ (a' := ?_) ?_ ?_
 rotate_left
 ·exact e50
 refine last_ (i := 10) (N := none) (mk 12 2047) rfl rfl (by kernel_rfl) (by decide) (fun K hK => ?_)
 refine skip_ (w1 := ?_) (by rfl) rfl ?_ ?_
 rotate_left
 ·go_simp
  rfl
 refine hK.out _ _ ?_
 clear hK K
 refine pu_ 11 4 (mk 12 4095) rfl rfl ?_
 refine done_ (by kernel_rfl) ?_
 clear c6 c7
 have nbp : w1.heap.size ≠ p := by have := hc.out.at_.lt; omega
 have nbg : w1.heap.size ≠ g := by have := hc.out.at_.mem.lt.2; omega
 have hb := Lib.hid (blk_drew (heap_alloc_new w1 (.cells #[.int .u32 r.f.a] 22)))
 replace hc := Lib.hid (hc.out.alloc (.cells #[.int .u32 r.f.a] 22)).drew
 have c4 : ((w1.alloc (.cells #[.int .u32 r.f.a] 22)).drew).cell? ⟨p, 4, none⟩ = some (.int .i64 3) := hc.out.at_.cell 4 (fun _ => by first | rfl | (rw [← hop4.out]; rfl))
 have c5 : ((w1.alloc (.cells #[.int .u32 r.f.a] 22)).drew).cell? ⟨p, 5, none⟩ = some (.int .i64 0) := hc.out.at_.cell 5 (fun _ => by first | rfl | (rw [← hln5.out]; rfl))
 exact e69
set_option maxHeartbeats 4000000 in
theorem pf_3_2 (h : At B w p pm g r) (hO : Ok r) (hn : r.notes = []) (hop : r.f.op = 3) (hln : r.f.line = 2) : Calls Tryz.prog 72 #[.pointer (some ⟨p, 0, none⟩)] w fun e w' => e = .returned (.tuple #[]) ∧ At B w' p pm g (Pf.lines r) ∧ Fr B p g w w' := by
 have hrd := pfr_plain_none (r := r) (by rw [hop]; decide) (by rw [hop]; decide) (by rw [hop]; decide)
 obtain ⟨hc, c4, c5, c6, c7⟩ := start h hO hn hop hln
 have hR := pfr_none h hO hn (by rw [hop]; decide) (by rw [hop]; decide) (by rw [hop]; decide)
 have hop4 := hop
 have hln5 := hln
 replace h := Lib.hid h
 replace hO := Lib.hid hO
 replace hn := Lib.hid hn
 replace hop := Lib.hid hop
 replace hln := Lib.hid hln
 replace hR := Lib.hid hR
 replace hop4 := Lib.hid hop4
 replace hln5 := Lib.hid hln5
 replace hrd := Lib.hid hrd
 go_enter Tryz.func72, Tryz.ntmps72
 go_upto_region 2 with (go_at_call 109; go_must (clear c4 c5 c6 c7; refine hR.out.mono ?_; rintro e w1 ⟨rfl, hA1, hF1⟩; replace hc : Hid (Car B w w1 p pm g r 0) := ⟨hA1, hF1, hc.out.ok, hc.out.few⟩; clear hA1 hF1; have c6 := hc.out.c6; have c7 := hc.out.c7))
 refine start_ (n := 12) (S := fun w' => w'.cell? ⟨p, 6, none⟩ = some (.int .u32 r.f.a) ∧ w'.cell? ⟨p, 7, none⟩ = some (.int .u32 r.f.b)) (ds := [10]) #[false, false, false, false, false, false, false, false, false, false, false, false] (by kernel_rfl) rfl rfl ⟨hc.out.drew.c6, hc.out.drew.c7⟩ (fun hHeld => ?_)
 refine pu_ 0 19 (mk 12 1) rfl rfl ?_
 refine pu_ 1 20 (mk 12 3) rfl rfl ?_
 refine pu_ 2 21 (mk 12 7) rfl rfl ?_
 refine pu_ 4 23 (mk 12 23) rfl rfl ?_
 refine pu_ 5 24 (mk 12 55) rfl rfl ?_
 refine pu_ 6 25 (mk 12 119) rfl rfl ?_
 refine tk2_ 3 22 (mk 12 127) rfl rfl hHeld ?_
 refine tk2_ 7 26 (mk 12 255) rfl rfl hHeld ?_
 refine join_ (σ := Unit) 2 (mk 12 1023) (fun (_ : Unit) => [(27, Value.int .u32 (Pf.presence r.f.b)), (3, Value.pointer (some ⟨w1.heap.size, 0, none⟩))]) (fun (_ : Unit) w' => w' = (w1.alloc (.cells #[.int .u32 0] 22)).drew) ?_ ?_
 rotate_left
 ·exact e68
 rintro ⟨⟩ w' rfl
 have hHeld : (w1.alloc (.cells #[.int .u32 0] 22)).drew.cell? ⟨p, 6, none⟩ = some (.int .u32 r.f.a) ∧ (w1.alloc (.cells #[.int .u32 0] 22)).drew.cell? ⟨p, 7, none⟩ = some (.int .u32 r.f.b) := ⟨(hc.out.alloc (.cells #[.int .u32 0] 22)).drew.c6, (hc.out.alloc (.cells #[.int .u32 0] 22)).drew.c7⟩
 refine norm_ (a' := ?_) ?_ ?_
 rotate_left
 ·exact e50
 refine last_ (i := 10) (N := none) (mk 12 2047) rfl rfl (by kernel_rfl) (by decide) (fun K hK => ?_)
 refine skip_ (w1 := ?_) (by rfl) rfl ?_ ?_
 rotate_left
 ·go_simp
  rfl
 refine hK.out _ _ ?_
 clear hK K
 refine pu_ 11 4 (mk 12 4095) rfl rfl ?_
 refine done_ (by kernel_rfl) ?_
 clear c6 c7
 have nbp : w1.heap.size ≠ p := by have := hc.out.at_.lt; omega
 have nbg : w1.heap.size ≠ g := by have := hc.out.at_.mem.lt.2; omega
 have hb := Lib.hid (blk_drew (heap_alloc_new w1 (.cells #[.int .u32 r.f.a] 22)))
 replace hc := Lib.hid (hc.out.alloc (.cells #[.int .u32 r.f.a] 22)).drew
 have c4 : ((w1.alloc (.cells #[.int .u32 r.f.a] 22)).drew).cell? ⟨p, 4, none⟩ = some (.int .i64 3) := hc.out.at_.cell 4 (fun _ => by first | rfl | (rw [← hop4.out]; rfl))
 have c5 : ((w1.alloc (.cells #[.int .u32 r.f.a] 22)).drew).cell? ⟨p, 5, none⟩ = some (.int .i64 2) := hc.out.at_.cell 5 (fun _ => by first | rfl | (rw [← hln5.out]; rfl))
 have c6 := hc.out.c6
 have c7 := hc.out.c7
 generalize (w1.alloc (.cells #[.int .u32 r.f.a] 22)).drew = W1 at hb hc c4 c5 c6 c7 ⊢
 go_upto_region 4 with (fail)
 go_quiet (fail)
 replace hc := Lib.hid (hc.out.drewN nq)
 go_wp2_with (first
  | (go_at_call 112; (try clear c6); (try clear c7); go_must (refine load_step hc _ ?_; intro w1 f1 hc c6 c7; clear f1))
  | ((with_reducible refine gate_store rfl ?_); refine stB_step hc rfl rfl rfl rfl rfl rfl ?_; clear c6 c7; intro w1 f1 hc c6 c7; clear f1)
  | (go_at_call 102; (try clear c6); (try clear c7); go_must (refine go_step hc _ ?_; intro w1 f1 hc c6 c7; clear f1)))
 exact e70
set_option maxHeartbeats 4000000 in
theorem pf_3_3 (h : At B w p pm g r) (hO : Ok r) (hn : r.notes = []) (hop : r.f.op = 3) (hln : r.f.line = 3) : Calls Tryz.prog 72 #[.pointer (some ⟨p, 0, none⟩)] w fun e w' => e = .returned (.tuple #[]) ∧ At B w' p pm g (Pf.lines r) ∧ Fr B p g w w' := by
 have hrd := pfr_plain_none (r := r) (by rw [hop]; decide) (by rw [hop]; decide) (by rw [hop]; decide)
 obtain ⟨hc, c4, c5, c6, c7⟩ := start h hO hn hop hln
 have hR := pfr_none h hO hn (by rw [hop]; decide) (by rw [hop]; decide) (by rw [hop]; decide)
 have hop4 := hop
 have hln5 := hln
 replace h := Lib.hid h
 replace hO := Lib.hid hO
 replace hn := Lib.hid hn
 replace hop := Lib.hid hop
 replace hln := Lib.hid hln
 replace hR := Lib.hid hR
 replace hop4 := Lib.hid hop4
 replace hln5 := Lib.hid hln5
 replace hrd := Lib.hid hrd
 go_enter Tryz.func72, Tryz.ntmps72
 go_upto_region 2 with (go_at_call 109; go_must (clear c4 c5 c6 c7; refine hR.out.mono ?_; rintro e w1 ⟨rfl, hA1, hF1⟩; replace hc : Hid (Car B w w1 p pm g r 0) := ⟨hA1, hF1, hc.out.ok, hc.out.few⟩; clear hA1 hF1; have c6 := hc.out.c6; have c7 := hc.out.c7))
 refine start_ (n := 12) (S := fun w' => w'.cell? ⟨p, 6, none⟩ = some (.int .u32 r.f.a) ∧ w'.cell? ⟨p, 7, none⟩ = some (.int .u32 r.f.b)) (ds := [10]) #[false, false, false, false, false, false, false, false, false, false, false, false] (by kernel_rfl) rfl rfl ⟨hc.out.drew.c6, hc.out.drew.c7⟩ (fun hHeld => ?_)
 refine pu_ 0 19 (mk 12 1) rfl rfl ?_
 refine pu_ 1 20 (mk 12 3) rfl rfl ?_
 refine pu_ 2 21 (mk 12 7) rfl rfl ?_
 refine pu_ 4 23 (mk 12 23) rfl rfl ?_
 refine pu_ 5 24 (mk 12 55) rfl rfl ?_
 refine pu_ 6 25 (mk 12 119) rfl rfl ?_
 refine tk2_ 3 22 (mk 12 127) rfl rfl hHeld ?_
 refine tk2_ 7 26 (mk 12 255) rfl rfl hHeld ?_
 refine join_ (σ := Unit) 2 (mk 12 1023) (fun (_ : Unit) => [(27, Value.int .u32 (Pf.presence r.f.b)), (3, Value.pointer (some ⟨w1.heap.size, 0, none⟩))]) (fun (_ : Unit) w' => w' = (w1.alloc (.cells #[.int .u32 0] 22)).drew) ?_ ?_
 rotate_left
 ·exact e68
 rintro ⟨⟩ w' rfl
 have hHeld : (w1.alloc (.cells #[.int .u32 0] 22)).drew.cell? ⟨p, 6, none⟩ = some (.int .u32 r.f.a) ∧ (w1.alloc (.cells #[.int .u32 0] 22)).drew.cell? ⟨p, 7, none⟩ = some (.int .u32 r.f.b) := ⟨(hc.out.alloc (.cells #[.int .u32 0] 22)).drew.c6, (hc.out.alloc (.cells #[.int .u32 0] 22)).drew.c7⟩
 refine norm_ (a' := ?_) ?_ ?_
 rotate_left
 ·exact e50
 refine last_ (i := 10) (N := none) (mk 12 2047) rfl rfl (by kernel_rfl) (by decide) (fun K hK => ?_)
 refine skip_ (w1 := ?_) (by rfl) rfl ?_ ?_
 rotate_left
 ·go_simp
  rfl
 refine hK.out _ _ ?_
 clear hK K
 refine pu_ 11 4 (mk 12 4095) rfl rfl ?_
 refine done_ (by kernel_rfl) ?_
 clear c6 c7
 have nbp : w1.heap.size ≠ p := by have := hc.out.at_.lt; omega
 have nbg : w1.heap.size ≠ g := by have := hc.out.at_.mem.lt.2; omega
 have hb := Lib.hid (blk_drew (heap_alloc_new w1 (.cells #[.int .u32 r.f.a] 22)))
 replace hc := Lib.hid (hc.out.alloc (.cells #[.int .u32 r.f.a] 22)).drew
 have c4 : ((w1.alloc (.cells #[.int .u32 r.f.a] 22)).drew).cell? ⟨p, 4, none⟩ = some (.int .i64 3) := hc.out.at_.cell 4 (fun _ => by first | rfl | (rw [← hop4.out]; rfl))
 have c5 : ((w1.alloc (.cells #[.int .u32 r.f.a] 22)).drew).cell? ⟨p, 5, none⟩ = some (.int .i64 3) := hc.out.at_.cell 5 (fun _ => by first | rfl | (rw [← hln5.out]; rfl))
 exact e69
set_option maxHeartbeats 4000000 in
theorem pf_3_1_t_t (h : At B w p pm g r) (hO : Ok r) (hn : r.notes = []) (hop : r.f.op = 3) (hln : r.f.line = 1) (hs : (r.waited 3 (fun v => v == r.f.a)).seen = true) (hd : (r.waited 3 (fun v => v == r.f.a)).done = true) : Calls Tryz.prog 72 #[.pointer (some ⟨p, 0, none⟩)] w fun e w' => e = .returned (.tuple #[]) ∧ At B w' p pm g (Pf.lines r) ∧ Fr B p g w w' := e71
set_option maxHeartbeats 4000000 in
theorem pf_3_4_t_t (h : At B w p pm g r) (hO : Ok r) (hn : r.notes = []) (hop : r.f.op = 3) (hln : r.f.line = 4) (hs : (r.waited 1 (fun v => v == r.f.a)).seen = true) (hd : (r.waited 1 (fun v => v == r.f.a)).done = true) : Calls Tryz.prog 72 #[.pointer (some ⟨p, 0, none⟩)] w fun e w' => e = .returned (.tuple #[]) ∧ At B w' p pm g (Pf.lines r) ∧ Fr B p g w w' := e72
set_option maxHeartbeats 4000000 in
theorem pf_3_1_t_f (h : At B w p pm g r) (hO : Ok r) (hn : r.notes = []) (hop : r.f.op = 3) (hln : r.f.line = 1) (hs : (r.waited 3 (fun v => v == r.f.a)).seen = true) (hd : (r.waited 3 (fun v => v == r.f.a)).done = false) : Calls Tryz.prog 72 #[.pointer (some ⟨p, 0, none⟩)] w fun e w' => e = .returned (.tuple #[]) ∧ At B w' p pm g (Pf.lines r) ∧ Fr B p g w w' := e71
set_option maxHeartbeats 4000000 in
theorem pf_3_4_t_f (h : At B w p pm g r) (hO : Ok r) (hn : r.notes = []) (hop : r.f.op = 3) (hln : r.f.line = 4) (hs : (r.waited 1 (fun v => v == r.f.a)).seen = true) (hd : (r.waited 1 (fun v => v == r.f.a)).done = false) : Calls Tryz.prog 72 #[.pointer (some ⟨p, 0, none⟩)] w fun e w' => e = .returned (.tuple #[]) ∧ At B w' p pm g (Pf.lines r) ∧ Fr B p g w w' := e72
set_option maxHeartbeats 4000000 in
theorem pf_3_1_f_t (h : At B w p pm g r) (hO : Ok r) (hn : r.notes = []) (hop : r.f.op = 3) (hln : r.f.line = 1) (hs : (r.waited 3 (fun v => v == r.f.a)).seen = false) (hd : (r.waited 3 (fun v => v == r.f.a)).done = true) : Calls Tryz.prog 72 #[.pointer (some ⟨p, 0, none⟩)] w fun e w' => e = .returned (.tuple #[]) ∧ At B w' p pm g (Pf.lines r) ∧ Fr B p g w w' := e71
set_option maxHeartbeats 4000000 in
theorem pf_3_4_f_t (h : At B w p pm g r) (hO : Ok r) (hn : r.notes = []) (hop : r.f.op = 3) (hln : r.f.line = 4) (hs : (r.waited 1 (fun v => v == r.f.a)).seen = false) (hd : (r.waited 1 (fun v => v == r.f.a)).done = true) : Calls Tryz.prog 72 #[.pointer (some ⟨p, 0, none⟩)] w fun e w' => e = .returned (.tuple #[]) ∧ At B w' p pm g (Pf.lines r) ∧ Fr B p g w w' := e72
set_option maxHeartbeats 4000000 in
theorem pf_3_1_f_f (h : At B w p pm g r) (hO : Ok r) (hn : r.notes = []) (hop : r.f.op = 3) (hln : r.f.line = 1) (hs : (r.waited 3 (fun v => v == r.f.a)).seen = false) (hd : (r.waited 3 (fun v => v == r.f.a)).done = false) : Calls Tryz.prog 72 #[.pointer (some ⟨p, 0, none⟩)] w fun e w' => e = .returned (.tuple #[]) ∧ At B w' p pm g (Pf.lines r) ∧ Fr B p g w w' := e71
set_option maxHeartbeats 4000000 in
theorem pf_3_4_f_f (h : At B w p pm g r) (hO : Ok r) (hn : r.notes = []) (hop : r.f.op = 3) (hln : r.f.line = 4) (hs : (r.waited 1 (fun v => v == r.f.a)).seen = false) (hd : (r.waited 1 (fun v => v == r.f.a)).done = false) : Calls Tryz.prog 72 #[.pointer (some ⟨p, 0, none⟩)] w fun e w' => e = .returned (.tuple #[]) ∧ At B w' p pm g (Pf.lines r) ∧ Fr B p g w w' := e72
set_option maxHeartbeats 4000000 in
theorem pf_default (h : At B w p pm g r) (hO : Ok r) (hn : r.notes = []) (o1 : r.f.op ≠ 1) (o2 : r.f.op ≠ 2) (o5 : r.f.op ≠ 5) (o3 : r.f.op ≠ 3) (hL : ∀ W, At B W p pm g r → Calls Tryz.prog 113 #[.pointer (some ⟨p, 0, none⟩)] W fun e w' => e = .returned (.tuple #[]) ∧ At B w' p pm g (Pf.leaves r) ∧ Fr B p g W w') : Calls Tryz.prog 72 #[.pointer (some ⟨p, 0, none⟩)] w fun e w' => e = .returned (.tuple #[]) ∧ At B w' p pm g (Pf.lines r) ∧ Fr B p g w w' := by
 have hrd := pfr_plain_none (r := r) o1 o2 o5
 have hl : Pf.lines r = Pf.leaves r := by
  unfold Pf.lines
  rw [hrd]
  simp only [Bool.false_eq_true, if_false, o3, false_and]
 rw [hl]
 have b3 : (r.f.op == 3) = false := beq_eq_false_iff_ne.mpr o3
 obtain ⟨hc, c4, c5, c6, c7⟩ := start h hO hn rfl rfl
 have hR := pfr_none h hO hn o1 o2 o5
 have hop4 : r.f.op = r.f.op := rfl
 have hln5 : r.f.line = r.f.line := rfl
 replace h := Lib.hid h
 replace hO := Lib.hid hO
 replace hn := Lib.hid hn
 replace o1 := Lib.hid o1
 replace o2 := Lib.hid o2
 replace o3 := Lib.hid o3
 replace o5 := Lib.hid o5
 replace hR := Lib.hid hR
 replace hop4 := Lib.hid hop4
 replace hln5 := Lib.hid hln5
 replace hrd := Lib.hid hrd
 replace hl := Lib.hid hl
 replace hL := Lib.hid hL
 go_enter Tryz.func72, Tryz.ntmps72
 go_upto_region 2 with (go_at_call 109; go_must (clear c4 c5 c6 c7; refine hR.out.mono ?_; rintro e w1 ⟨rfl, hA1, hF1⟩; replace hc : Hid (Car B w w1 p pm g r 0) := ⟨hA1, hF1, hc.out.ok, hc.out.few⟩; clear hA1 hF1; have c6 := hc.out.c6; have c7 := hc.out.c7))
 refine start_ (n := 12) (S := fun w' => w'.cell? ⟨p, 6, none⟩ = some (.int .u32 r.f.a) ∧ w'.cell? ⟨p, 7, none⟩ = some (.int .u32 r.f.b)) (ds := [10]) #[false, false, false, false, false, false, false, false, false, false, false, false] (by kernel_rfl) rfl rfl ⟨hc.out.drew.c6, hc.out.drew.c7⟩ (fun hHeld => ?_)
 refine pu_ 0 19 (mk 12 1) rfl rfl ?_
 refine pu_ 1 20 (mk 12 3) rfl rfl ?_
 refine pu_ 2 21 (mk 12 7) rfl rfl ?_
 refine pu_ 4 23 (mk 12 23) rfl rfl ?_
 refine pu_ 5 24 (mk 12 55) rfl rfl ?_
 refine pu_ 6 25 (mk 12 119) rfl rfl ?_
 refine tk2_ 3 22 (mk 12 127) rfl rfl hHeld ?_
 refine tk2_ 7 26 (mk 12 255) rfl rfl hHeld ?_
 refine join_ (σ := Unit) 2 (mk 12 1023) (fun (_ : Unit) => [(27, Value.int .u32 (Pf.presence r.f.b)), (3, Value.pointer (some ⟨w1.heap.size, 0, none⟩))]) (fun (_ : Unit) w' => w' = (w1.alloc (.cells #[.int .u32 0] 22)).drew) ?_ ?_
 rotate_left
 ·exact e68
 rintro ⟨⟩ w' rfl
 have hHeld : (w1.alloc (.cells #[.int .u32 0] 22)).drew.cell? ⟨p, 6, none⟩ = some (.int .u32 r.f.a) ∧ (w1.alloc (.cells #[.int .u32 0] 22)).drew.cell? ⟨p, 7, none⟩ = some (.int .u32 r.f.b) := ⟨(hc.out.alloc (.cells #[.int .u32 0] 22)).drew.c6, (hc.out.alloc (.cells #[.int .u32 0] 22)).drew.c7⟩
 refine norm_ (a' := ?_) ?_ ?_
 rotate_left
 ·exact e50
 refine last_ (i := 10) (N := none) (mk 12 2047) rfl rfl (by kernel_rfl) (by decide) (fun K hK => ?_)
 refine skip_ (w1 := ?_) (by rfl) rfl ?_ ?_
 rotate_left
 ·go_simp
  rfl
 refine hK.out _ _ ?_
 clear hK K
 refine pu_ 11 4 (mk 12 4095) rfl rfl ?_
 refine done_ (by kernel_rfl) ?_
 clear c6 c7
 have nbp : w1.heap.size ≠ p := by have := hc.out.at_.lt; omega
 have nbg : w1.heap.size ≠ g := by have := hc.out.at_.mem.lt.2; omega
 have hb := Lib.hid (blk_drew (heap_alloc_new w1 (.cells #[.int .u32 r.f.a] 22)))
 replace hc := Lib.hid (hc.out.alloc (.cells #[.int .u32 r.f.a] 22)).drew
 have c4 : ((w1.alloc (.cells #[.int .u32 r.f.a] 22)).drew).cell? ⟨p, 4, none⟩ = some (.int .i64 r.f.op) := hc.out.at_.cell 4 (fun _ => by first | rfl | (rw [← hop4.out]; rfl))
 have c5 : ((w1.alloc (.cells #[.int .u32 r.f.a] 22)).drew).cell? ⟨p, 5, none⟩ = some (.int .i64 r.f.line) := hc.out.at_.cell 5 (fun _ => by first | rfl | (rw [← hln5.out]; rfl))
 have c6 := hc.out.c6
 have c7 := hc.out.c7
 generalize (w1.alloc (.cells #[.int .u32 r.f.a] 22)).drew = W1 at hb hc c4 c5 c6 c7 ⊢
 go_upto_region 4 with (fail)
 go_quiet (fail)
 replace hc := Lib.hid (hc.out.drewN nq)
 go_wp2_with (go_at_call 113; go_must (refine (hL.out _ hc.out.at_).mono ?_; rintro e w2 ⟨rfl, hA1, hF1⟩; replace hA1 := Lib.hid hA1; replace hF1 := Lib.hid (hc.out.fr.trans hF1)))
 exact e73
set_option maxHeartbeats 4000000 in
theorem pfl_try6 (h : At B w p pm g r) (hO : Ok r) (hn : r.notes = []) (hop : r.f.op = 6) (hL : ∀ W, At B W p pm g r → Calls Tryz.prog 156 #[.pointer (some ⟨p, 0, none⟩)] W fun e w' => e = .returned (.tuple #[]) ∧ At B w' p pm g (Pf.tries r) ∧ Fr B p g W w') : Calls Tryz.prog 113 #[.pointer (some ⟨p, 0, none⟩)] w fun e w' => e = .returned (.tuple #[]) ∧ At B w' p pm g (Pf.leaves r) ∧ Fr B p g w w' := e74
set_option maxHeartbeats 4000000 in
theorem pfl_try7 (h : At B w p pm g r) (hO : Ok r) (hn : r.notes = []) (hop : r.f.op = 7) (hL : ∀ W, At B W p pm g r → Calls Tryz.prog 156 #[.pointer (some ⟨p, 0, none⟩)] W fun e w' => e = .returned (.tuple #[]) ∧ At B w' p pm g (Pf.tries r) ∧ Fr B p g W w') : Calls Tryz.prog 113 #[.pointer (some ⟨p, 0, none⟩)] w fun e w' => e = .returned (.tuple #[]) ∧ At B w' p pm g (Pf.leaves r) ∧ Fr B p g w w' := e74
theorem pf_lines (h : At B w p pm g r) (hO : Ok r) (hn : r.notes = []) (hv : Pf.Valid r.f.op r.f.line) : Calls Tryz.prog 72 #[.pointer (some ⟨p, 0, none⟩)] w fun e w' => e = .returned (.tuple #[]) ∧ At B w' p pm g (Pf.lines r) ∧ Fr B p g w w' := by
 rcases hv with ⟨hop, hln⟩ | ⟨hop, hln⟩ | ⟨hop, hln⟩ | ⟨hop, hln⟩ | ⟨hop, hln⟩ | ⟨hop, hln⟩ | ⟨hop, hln⟩ | ⟨hop, hln⟩ | ⟨hop, hln⟩ | ⟨hop, hln⟩ | ⟨hop, hln⟩ | ⟨hop, hln⟩ | ⟨hop, hln⟩ | ⟨hop, hln⟩ | ⟨hop, hln⟩ | ⟨hop, hln⟩ | ⟨hop, hln⟩ | ⟨hop, hln⟩ | ⟨hop, hln⟩ | ⟨hop, hln⟩ | ⟨hop, hln⟩ | ⟨hop, hln⟩ | ⟨hop, hln⟩ | ⟨hop, hln⟩ | ⟨hop, hln⟩ | ⟨hop, hln⟩ | ⟨hop, hln⟩ | ⟨hop, hln⟩ | ⟨hop, hln⟩ | ⟨hop, hln⟩ | ⟨hop, hln⟩ | ⟨hop, hln⟩ | ⟨hop, hln⟩ | ⟨hop, hln⟩ | ⟨hop, hln⟩ | ⟨hop, hln⟩ | ⟨hop, hln⟩
 ·refine pf_reader h ?_ (by unfold Pf.reader; simp only [hop, hln]; simp only [Int.reduceEq, and_true, true_and, and_self, and_false, false_and, if_true, if_false, or_false, false_or, or_true, true_or]; all_goals (first | rfl | (split <;> rfl)))
  exact e75
 ·refine pf_reader h ?_ (by unfold Pf.reader; simp only [hop, hln]; simp only [Int.reduceEq, and_true, true_and, and_self, and_false, false_and, if_true, if_false, or_false, false_or, or_true, true_or]; all_goals (first | rfl | (split <;> rfl)))
  exact e76
 ·refine pf_reader h ?_ (by unfold Pf.reader; simp only [hop, hln]; simp only [Int.reduceEq, and_true, true_and, and_self, and_false, false_and, if_true, if_false, or_false, false_or, or_true, true_or]; all_goals (first | rfl | (split <;> rfl)))
  exact pfr_2_0 h hO hn hop hln
 ·refine pf_reader h ?_ (by unfold Pf.reader; simp only [hop, hln]; simp only [Int.reduceEq, and_true, true_and, and_self, and_false, false_and, if_true, if_false, or_false, false_or, or_true, true_or]; all_goals (first | rfl | (split <;> rfl)))
  exact e77
 ·refine pf_reader h ?_ (by unfold Pf.reader; simp only [hop, hln]; simp only [Int.reduceEq, and_true, true_and, and_self, and_false, false_and, if_true, if_false, or_false, false_or, or_true, true_or]; all_goals (first | rfl | (split <;> rfl)))
  exact e78
 ·exact pf_3_0 h hO hn hop hln
 ·cases hs : (r.waited 3 (fun v => v == r.f.a)).seen <;> cases hd : (r.waited 3 (fun v => v == r.f.a)).done
  ·exact pf_3_1_f_f h hO hn hop hln hs hd
  ·exact pf_3_1_f_t h hO hn hop hln hs hd
  ·exact pf_3_1_t_f h hO hn hop hln hs hd
  ·exact pf_3_1_t_t h hO hn hop hln hs hd
 ·exact pf_3_2 h hO hn hop hln
 ·exact pf_3_3 h hO hn hop hln
 ·cases hs : (r.waited 1 (fun v => v == r.f.a)).seen <;> cases hd : (r.waited 1 (fun v => v == r.f.a)).done
  ·exact pf_3_4_f_f h hO hn hop hln hs hd
  ·exact pf_3_4_f_t h hO hn hop hln hs hd
  ·exact pf_3_4_t_f h hO hn hop hln hs hd
  ·exact pf_3_4_t_t h hO hn hop hln hs hd
 ·exact pf_default h hO hn (by rw [hop]; decide) (by rw [hop]; decide) (by rw [hop]; decide) (by rw [hop]; decide) (fun W hA => pfl_4_0 hA hO hn hop hln)
 ·exact pf_default h hO hn (by rw [hop]; decide) (by rw [hop]; decide) (by rw [hop]; decide) (by rw [hop]; decide) (fun W hA => pfl_4_1 hA hO hn hop hln)
 ·exact pf_default h hO hn (by rw [hop]; decide) (by rw [hop]; decide) (by rw [hop]; decide) (by rw [hop]; decide) (fun W hA => pfl_4_2 hA hO hn hop hln)
 ·exact pf_default h hO hn (by rw [hop]; decide) (by rw [hop]; decide) (by rw [hop]; decide) (by rw [hop]; decide) (fun W hA => pfl_4_3 hA hO hn hop hln)
 ·exact pf_default h hO hn (by rw [hop]; decide) (by rw [hop]; decide) (by rw [hop]; decide) (by rw [hop]; decide) (fun W hA => pfl_8_0 hA hO hn hop hln)
 ·exact pf_default h hO hn (by rw [hop]; decide) (by rw [hop]; decide) (by rw [hop]; decide) (by rw [hop]; decide) (fun W hA => pfl_8_1 hA hO hn hop hln)
 ·exact pf_default h hO hn (by rw [hop]; decide) (by rw [hop]; decide) (by rw [hop]; decide) (by rw [hop]; decide) (fun W hA => pfl_8_2 hA hO hn hop hln)
 ·exact pf_default h hO hn (by rw [hop]; decide) (by rw [hop]; decide) (by rw [hop]; decide) (by rw [hop]; decide) (fun W hA => pfl_8_3 hA hO hn hop hln)
 ·exact pf_default h hO hn (by rw [hop]; decide) (by rw [hop]; decide) (by rw [hop]; decide) (by rw [hop]; decide) (fun W hA => pfl_try6 hA hO hn hop (fun W hA => pft_6_0 hA hO hn hop hln))
 ·exact pf_default h hO hn (by rw [hop]; decide) (by rw [hop]; decide) (by rw [hop]; decide) (by rw [hop]; decide) (fun W hA => pfl_try6 hA hO hn hop (fun W hA => by
   by_cases hx : Stile.ahead r.f.a (r.load 3).old > 0
   ·exact pft_6_1_g hA hO hn hop hln _ rfl hx
   ·by_cases hy : Stile.ahead r.f.a (r.load 3).old < 0
    ·exact pft_6_1_l hA hO hn hop hln _ rfl hx hy
    ·exact pft_6_1_e hA hO hn hop hln _ rfl hx hy))
 ·exact pf_default h hO hn (by rw [hop]; decide) (by rw [hop]; decide) (by rw [hop]; decide) (by rw [hop]; decide) (fun W hA => pfl_try6 hA hO hn hop (fun W hA => by
   cases hc : (r.cas 2 r.f.a (u32 (r.f.a + 1))).hitCas r.f.a with
   | true => exact pft_6_2_t hA hO hn hop hln hc
   | false => exact pft_6_2_f hA hO hn hop hln hc))
 ·exact pf_default h hO hn (by rw [hop]; decide) (by rw [hop]; decide) (by rw [hop]; decide) (by rw [hop]; decide) (fun W hA => pfl_try6 hA hO hn hop (fun W hA => pft_6_3 hA hO hn hop hln))
 ·exact pf_default h hO hn (by rw [hop]; decide) (by rw [hop]; decide) (by rw [hop]; decide) (by rw [hop]; decide) (fun W hA => pfl_try6 hA hO hn hop (fun W hA => pft_6_4 hA hO hn hop hln))
 ·exact pf_default h hO hn (by rw [hop]; decide) (by rw [hop]; decide) (by rw [hop]; decide) (by rw [hop]; decide) (fun W hA => pfl_try6 hA hO hn hop (fun W hA => pft_6_5 hA hO hn hop hln))
 ·exact pf_default h hO hn (by rw [hop]; decide) (by rw [hop]; decide) (by rw [hop]; decide) (by rw [hop]; decide) (fun W hA => pfl_try6 hA hO hn hop (fun W hA => pft_6_6 hA hO hn hop hln))
 ·exact pf_default h hO hn (by rw [hop]; decide) (by rw [hop]; decide) (by rw [hop]; decide) (by rw [hop]; decide) (fun W hA => pfl_try6 hA hO hn hop (fun W hA => pft_6_7 hA hO hn hop hln))
 ·exact pf_default h hO hn (by rw [hop]; decide) (by rw [hop]; decide) (by rw [hop]; decide) (by rw [hop]; decide) (fun W hA => pfl_try6 hA hO hn hop (fun W hA => pft_6_9 hA hO hn hop hln))
 ·exact pf_default h hO hn (by rw [hop]; decide) (by rw [hop]; decide) (by rw [hop]; decide) (by rw [hop]; decide) (fun W hA => pfl_try7 hA hO hn hop (fun W hA => pft_7_0 hA hO hn hop hln))
 ·exact pf_default h hO hn (by rw [hop]; decide) (by rw [hop]; decide) (by rw [hop]; decide) (by rw [hop]; decide) (fun W hA => pfl_try7 hA hO hn hop (fun W hA => by
   by_cases hx : Stile.ahead r.f.a (r.load 3).old > 0
   ·exact pft_7_1_g hA hO hn hop hln _ rfl hx
   ·by_cases hy : Stile.ahead r.f.a (r.load 3).old < 0
    ·exact pft_7_1_l hA hO hn hop hln _ rfl hx hy
    ·exact pft_7_1_e hA hO hn hop hln _ rfl hx hy))
 ·exact pf_default h hO hn (by rw [hop]; decide) (by rw [hop]; decide) (by rw [hop]; decide) (by rw [hop]; decide) (fun W hA => pfl_try7 hA hO hn hop (fun W hA => by
   cases hc : (r.cas 2 r.f.a (u32 (r.f.a + 1))).hitCas r.f.a with
   | true => exact pft_7_2_t hA hO hn hop hln hc
   | false => exact pft_7_2_f hA hO hn hop hln hc))
 ·exact pf_default h hO hn (by rw [hop]; decide) (by rw [hop]; decide) (by rw [hop]; decide) (by rw [hop]; decide) (fun W hA => pfl_try7 hA hO hn hop (fun W hA => pft_7_3 hA hO hn hop hln))
 ·exact pf_default h hO hn (by rw [hop]; decide) (by rw [hop]; decide) (by rw [hop]; decide) (by rw [hop]; decide) (fun W hA => pfl_try7 hA hO hn hop (fun W hA => pft_7_4 hA hO hn hop hln))
 ·exact pf_default h hO hn (by rw [hop]; decide) (by rw [hop]; decide) (by rw [hop]; decide) (by rw [hop]; decide) (fun W hA => pfl_try7 hA hO hn hop (fun W hA => pft_7_5 hA hO hn hop hln))
 ·exact pf_default h hO hn (by rw [hop]; decide) (by rw [hop]; decide) (by rw [hop]; decide) (by rw [hop]; decide) (fun W hA => pfl_try7 hA hO hn hop (fun W hA => pft_7_6 hA hO hn hop hln))
 ·exact pf_default h hO hn (by rw [hop]; decide) (by rw [hop]; decide) (by rw [hop]; decide) (by rw [hop]; decide) (fun W hA => pfl_try7 hA hO hn hop (fun W hA => pft_7_7 hA hO hn hop hln))
 ·exact pf_default h hO hn (by rw [hop]; decide) (by rw [hop]; decide) (by rw [hop]; decide) (by rw [hop]; decide) (fun W hA => pfl_try7 hA hO hn hop (fun W hA => pft_7_8 hA hO hn hop hln))
 ·exact pf_default h hO hn (by rw [hop]; decide) (by rw [hop]; decide) (by rw [hop]; decide) (by rw [hop]; decide) (fun W hA => pfl_try7 hA hO hn hop (fun W hA => pft_7_9 hA hO hn hop hln))
end Go.Proofs.YtkmlefbdhdlfmaaGreat.Wo
