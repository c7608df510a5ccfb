/- A reader's lines of the phase-fair locks, against the plain texts. -/
import Derived.Test.YtkmlefbdhdlfmaaGreatLn
import Derived.Test.YtkmlefbdhdlfmaaGreatValid
namespace Go.Proofs.YtkmlefbdhdlfmaaGreat.Wo
open Go.RowKit Go.Proofs.YtkmlefbdhdlfmaaGreatW.PrintWords Go.Proofs.YtkmlefbdhdlfmaaGreatW.PrintMore Go.Proofs.YtkmlefbdhdlfmaaGreatW.PrintLast
open Stile
set_option linter.unusedSimpArgs false
set_option linter.unusedVariables false
set_option maxRecDepth 100000
variable {w w1 w2 w0 : World} {B p pm g m : Nat} {r r1 : Run} {Q : Ending → World → Prop}
theorem e44 {P : Prop} (h : P := by
 obtain ⟨hc, c4, c5, c6, c7⟩ := start h hO hn hop hln
 have he := pf_bits hO.a
 replace h := Lib.hid h
 replace hO := Lib.hid hO
 replace hn := Lib.hid hn
 replace hop := Lib.hid hop
 replace hln := Lib.hid hln
 replace hs := Lib.hid hs
 replace hd := Lib.hid hd
 go_enter Tryz.func109, Tryz.ntmps109
 go_upto_region 4 with (fail)
 go_quiet (fail)
 replace hc := Lib.hid (hc.out.drewN nq)
 have hcq := hc.out
 clear c4 c5 c6 c7
 generalize w.drewN nq = W0 at hcq ⊢
 replace hc := Lib.hid hcq
 clear hcq
 have c6 := hc.out.c6
 have c7 := hc.out.c7
 go_wp2_with (first
  | (go_at_call 105; (try clear c6); (try clear c7); go_must (refine note_step hc _ _ (by decide) ?_; intro w1 f1 hc c6 c7; clear f1))
  | (go_at_call 107; (try clear c6); (try clear c7); go_must (refine end_step hc _ ?_; intro w1 f1 hc c6 c7; clear f1))
  | (go_at_call 101; clear c6 c7; go_must (refine wait_step (Lib.hid (hc.out.alloc (.cells #[.int .u32 (Pf.bitsOf r.f.a)] 22))) _ (fun v => Pf.bitsOf v != Pf.bitsOf r.f.a) (pfrtells (heap_alloc_new _ _) (by have := hc.out.at_.lt; omega) (by have := hc.out.at_.mem.lt.2; omega)) _ _ hs.out hd.out ?_; intro w1 f1 hc c6 c7; clear f1)))
 go_ret
 refine ⟨rfl, ?_, hc.out.fr⟩
 unfold Pf.reader
 simp only [hop.out, hln.out]
 simp only [Int.reduceEq, and_true, true_and, and_self, and_false, false_and, if_true, if_false, or_false, false_or, or_true, true_or]
 rw [show (r.waited 0 fun v => Pf.bitsOf v != Pf.bitsOf r.f.a).seen = _ from hs.out, show (r.waited 0 fun v => Pf.bitsOf v != Pf.bitsOf r.f.a).done = _ from hd.out]
 exact hc.out.at_) : P := h
theorem pf_bits {v : Int} (h : W32 v) : bits .and .u32 v 3 = Pf.bitsOf v := and_low2 v h.1 h.2
theorem pfbar_walk (x v : Int) (hv : W32 v) {k : Nat} (hk : w.heap[k]? = some (.cells #[.int .u32 x] 22 (0, 0))) : Calls Tryz.prog 153 #[.int .u32 v, .pointer (some ⟨k, 0, none⟩)] w fun e w' => e = .returned (.bool (Pf.bitsOf v != x)) ∧ w' = w := by
 have c := cell_of_heap (j := 0) hk rfl
 have hb := pf_bits hv
 replace hk := Lib.hid hk
 replace hv := Lib.hid hv
 go_enter Tryz.func153, Tryz.ntmps153
 go_wp2
 go_ret
 exact ⟨rfl, rfl⟩
theorem pfrtells {x : Int} {k : Nat} (hk : w.heap[k]? = some (.cells #[.int .u32 x] 22 (0, 0))) (h1 : k ≠ p) (h2 : k ≠ g) : Tells B p pm g r false (fun v => Pf.bitsOf v != x) 153 #[.pointer (some ⟨k, 0, none⟩)] w :=
 ⟨⟨_, Tryz.func153, rfl, rfl⟩, fun w1 v hv hf ha => (pfbar_walk x v hv (hf.keep hk h1 h2 (by decide))).mono (by rintro e w2 ⟨rfl, rfl⟩; exact ⟨rfl, ha, Fr.refl _ _ _ _⟩)⟩
set_option maxHeartbeats 4000000 in
theorem pfr_1_0_t (h : At B w p pm g r) (hO : Ok r) (hn : r.notes = []) (hop : r.f.op = 1) (hln : r.f.line = 0) (hz : (Pf.bitsOf (r.add 0 256).old == 0) = true) : Calls Tryz.prog 109 #[.pointer (some ⟨p, 0, none⟩), .int .i64 0, .int .i64 1] w fun e w' => e = .returned (.bool true) ∧ At B w' p pm g ((Pf.reader r 0 1).1) ∧ Fr B p g w w' := by
 obtain ⟨hc, c4, c5, c6, c7⟩ := start h hO hn hop hln
 have he := pf_bits (hO.add 0 (x := 256) (by decide)).old
 change bits .and .u32 (r.add 0 256).old 3 = Pf.bitsOf (r.add 0 256).old at he
 replace h := Lib.hid h
 replace hO := Lib.hid hO
 replace hn := Lib.hid hn
 replace hop := Lib.hid hop
 replace hln := Lib.hid hln
 go_enter Tryz.func109, Tryz.ntmps109
 go_upto_region 4 with (fail)
 go_quiet (fail)
 replace hc := Lib.hid (hc.out.drewN nq)
 go_wp2_with (first
  | (go_at_call 104; (try clear c6); (try clear c7); go_must (refine add_step hc _ _ (by first | decide | exact w32_u32 _ | exact w32_pres _) ?_; intro w1 f1 hc c6 c7; clear f1))
  | ((with_reducible refine gate_store rfl ?_); refine stA_step hc rfl rfl rfl rfl rfl rfl ?_; clear c6 c7; intro w1 f1 hc c6 c7; clear f1)
  | (go_at_call 105; (try clear c6); (try clear c7); go_must (refine note_step hc _ _ (by decide) ?_; intro w1 f1 hc c6 c7; replace c6 : w1.cell? ⟨p, 6, none⟩ = some (.int .u32 (r.add 0 256).old) := c6; clear f1))
  | (go_at_call 107; (try clear c6); (try clear c7); go_must (refine end_step hc _ ?_; intro w1 f1 hc c6 c7; clear f1))
  | (go_at_call 102; (try clear c6); (try clear c7); go_must (refine go_step hc _ ?_; intro w1 f1 hc c6 c7; clear f1)))
 go_ret
 refine ⟨rfl, ?_, hc.out.fr⟩
 unfold Pf.reader
 exact e35
set_option maxHeartbeats 4000000 in
theorem pfr_5_0_t (h : At B w p pm g r) (hO : Ok r) (hn : r.notes = []) (hop : r.f.op = 5) (hln : r.f.line = 0) (hz : (Pf.bitsOf (r.load 0).old != 0) = true) : Calls Tryz.prog 109 #[.pointer (some ⟨p, 0, none⟩), .int .i64 0, .int .i64 1] w fun e w' => e = .returned (.bool true) ∧ At B w' p pm g ((Pf.reader r 0 1).1) ∧ Fr B p g w w' := by
 obtain ⟨hc, c4, c5, c6, c7⟩ := start h hO hn hop hln
 have he := pf_bits (hO.load 0).old
 change bits .and .u32 (r.load 0).old 3 = Pf.bitsOf (r.load 0).old at he
 replace h := Lib.hid h
 replace hO := Lib.hid hO
 replace hn := Lib.hid hn
 replace hop := Lib.hid hop
 replace hln := Lib.hid hln
 go_enter Tryz.func109, Tryz.ntmps109
 go_upto_region 4 with (fail)
 go_quiet (fail)
 replace hc := Lib.hid (hc.out.drewN nq)
 go_wp2_with (first
  | (go_at_call 112; (try clear c6); (try clear c7); go_must (refine load_step hc _ ?_; intro w1 f1 hc c6 c7; clear f1))
  | ((with_reducible refine gate_store rfl ?_); refine stA_step hc rfl rfl rfl rfl rfl rfl ?_; clear c6 c7; intro w1 f1 hc c6 c7; clear f1)
  | (go_at_call 105; (try clear c6); (try clear c7); go_must (refine note_step hc _ _ (by decide) ?_; intro w1 f1 hc c6 c7; clear f1))
  | (go_at_call 107; (try clear c6); (try clear c7); go_must (refine end_step hc _ ?_; intro w1 f1 hc c6 c7; clear f1))
  | (go_at_call 102; (try clear c6); (try clear c7); go_must (refine go_step hc _ ?_; intro w1 f1 hc c6 c7; clear f1)))
 go_ret
 refine ⟨rfl, ?_, hc.out.fr⟩
 unfold Pf.reader
 simp only [hop.out, hln.out]
 simp only [Int.reduceEq, and_true, true_and, and_self, and_false, false_and, if_true, if_false, or_false, false_or, or_true, true_or]
 rw [if_pos (by exact bne_iff_ne.mp hz)]
 exact hc.out.at_
set_option maxHeartbeats 4000000 in
theorem pfr_1_0_f (h : At B w p pm g r) (hO : Ok r) (hn : r.notes = []) (hop : r.f.op = 1) (hln : r.f.line = 0) (hz : (Pf.bitsOf (r.add 0 256).old == 0) = false) : Calls Tryz.prog 109 #[.pointer (some ⟨p, 0, none⟩), .int .i64 0, .int .i64 1] w fun e w' => e = .returned (.bool true) ∧ At B w' p pm g ((Pf.reader r 0 1).1) ∧ Fr B p g w w' := by
 obtain ⟨hc, c4, c5, c6, c7⟩ := start h hO hn hop hln
 have he := pf_bits (hO.add 0 (x := 256) (by decide)).old
 change bits .and .u32 (r.add 0 256).old 3 = Pf.bitsOf (r.add 0 256).old at he
 replace h := Lib.hid h
 replace hO := Lib.hid hO
 replace hn := Lib.hid hn
 replace hop := Lib.hid hop
 replace hln := Lib.hid hln
 go_enter Tryz.func109, Tryz.ntmps109
 go_upto_region 4 with (fail)
 go_quiet (fail)
 replace hc := Lib.hid (hc.out.drewN nq)
 go_wp2_with (first
  | (go_at_call 104; (try clear c6); (try clear c7); go_must (refine add_step hc _ _ (by first | decide | exact w32_u32 _ | exact w32_pres _) ?_; intro w1 f1 hc c6 c7; clear f1))
  | ((with_reducible refine gate_store rfl ?_); refine stA_step hc rfl rfl rfl rfl rfl rfl ?_; clear c6 c7; intro w1 f1 hc c6 c7; clear f1)
  | (go_at_call 105; (try clear c6); (try clear c7); go_must (refine note_step hc _ _ (by decide) ?_; intro w1 f1 hc c6 c7; replace c6 : w1.cell? ⟨p, 6, none⟩ = some (.int .u32 (r.add 0 256).old) := c6; clear f1))
  | (go_at_call 107; (try clear c6); (try clear c7); go_must (refine end_step hc _ ?_; intro w1 f1 hc c6 c7; clear f1))
  | (go_at_call 102; (try clear c6); (try clear c7); go_must (refine go_step hc _ ?_; intro w1 f1 hc c6 c7; clear f1)))
 go_ret
 refine ⟨rfl, ?_, hc.out.fr⟩
 unfold Pf.reader
 exact e36
set_option maxHeartbeats 4000000 in
theorem pfr_5_0_f (h : At B w p pm g r) (hO : Ok r) (hn : r.notes = []) (hop : r.f.op = 5) (hln : r.f.line = 0) (hz : (Pf.bitsOf (r.load 0).old != 0) = false) : Calls Tryz.prog 109 #[.pointer (some ⟨p, 0, none⟩), .int .i64 0, .int .i64 1] w fun e w' => e = .returned (.bool true) ∧ At B w' p pm g ((Pf.reader r 0 1).1) ∧ Fr B p g w w' := by
 obtain ⟨hc, c4, c5, c6, c7⟩ := start h hO hn hop hln
 have he := pf_bits (hO.load 0).old
 change bits .and .u32 (r.load 0).old 3 = Pf.bitsOf (r.load 0).old at he
 replace h := Lib.hid h
 replace hO := Lib.hid hO
 replace hn := Lib.hid hn
 replace hop := Lib.hid hop
 replace hln := Lib.hid hln
 go_enter Tryz.func109, Tryz.ntmps109
 go_upto_region 4 with (fail)
 go_quiet (fail)
 replace hc := Lib.hid (hc.out.drewN nq)
 go_wp2_with (first
  | (go_at_call 112; (try clear c6); (try clear c7); go_must (refine load_step hc _ ?_; intro w1 f1 hc c6 c7; clear f1))
  | ((with_reducible refine gate_store rfl ?_); refine stA_step hc rfl rfl rfl rfl rfl rfl ?_; clear c6 c7; intro w1 f1 hc c6 c7; clear f1)
  | (go_at_call 105; (try clear c6); (try clear c7); go_must (refine note_step hc _ _ (by decide) ?_; intro w1 f1 hc c6 c7; clear f1))
  | (go_at_call 107; (try clear c6); (try clear c7); go_must (refine end_step hc _ ?_; intro w1 f1 hc c6 c7; clear f1))
  | (go_at_call 102; (try clear c6); (try clear c7); go_must (refine go_step hc _ ?_; intro w1 f1 hc c6 c7; clear f1)))
 go_ret
 refine ⟨rfl, ?_, hc.out.fr⟩
 unfold Pf.reader
 simp only [hop.out, hln.out]
 simp only [Int.reduceEq, and_true, true_and, and_self, and_false, false_and, if_true, if_false, or_false, false_or, or_true, true_or]
 have hz2 : Pf.bitsOf (r.load 0).old = 0 := by simpa using hz
 rw [if_neg (by intro k; exact k hz2)]
 exact hc.out.at_
set_option maxHeartbeats 4000000 in
theorem pfr_1_1_t_t (h : At B w p pm g r) (hO : Ok r) (hn : r.notes = []) (hop : r.f.op = 1) (hln : r.f.line = 1) (hs : (r.waited 0 (fun v => Pf.bitsOf v != Pf.bitsOf r.f.a)).seen = true) (hd : (r.waited 0 (fun v => Pf.bitsOf v != Pf.bitsOf r.f.a)).done = true) : Calls Tryz.prog 109 #[.pointer (some ⟨p, 0, none⟩), .int .i64 0, .int .i64 1] w fun e w' => e = .returned (.bool true) ∧ At B w' p pm g ((Pf.reader r 0 1).1) ∧ Fr B p g w w' := e44
set_option maxHeartbeats 4000000 in
theorem pfr_1_1_t_f (h : At B w p pm g r) (hO : Ok r) (hn : r.notes = []) (hop : r.f.op = 1) (hln : r.f.line = 1) (hs : (r.waited 0 (fun v => Pf.bitsOf v != Pf.bitsOf r.f.a)).seen = true) (hd : (r.waited 0 (fun v => Pf.bitsOf v != Pf.bitsOf r.f.a)).done = false) : Calls Tryz.prog 109 #[.pointer (some ⟨p, 0, none⟩), .int .i64 0, .int .i64 1] w fun e w' => e = .returned (.bool true) ∧ At B w' p pm g ((Pf.reader r 0 1).1) ∧ Fr B p g w w' := e44
set_option maxHeartbeats 4000000 in
theorem pfr_1_1_f_t (h : At B w p pm g r) (hO : Ok r) (hn : r.notes = []) (hop : r.f.op = 1) (hln : r.f.line = 1) (hs : (r.waited 0 (fun v => Pf.bitsOf v != Pf.bitsOf r.f.a)).seen = false) (hd : (r.waited 0 (fun v => Pf.bitsOf v != Pf.bitsOf r.f.a)).done = true) : Calls Tryz.prog 109 #[.pointer (some ⟨p, 0, none⟩), .int .i64 0, .int .i64 1] w fun e w' => e = .returned (.bool true) ∧ At B w' p pm g ((Pf.reader r 0 1).1) ∧ Fr B p g w w' := e44
set_option maxHeartbeats 4000000 in
theorem pfr_1_1_f_f (h : At B w p pm g r) (hO : Ok r) (hn : r.notes = []) (hop : r.f.op = 1) (hln : r.f.line = 1) (hs : (r.waited 0 (fun v => Pf.bitsOf v != Pf.bitsOf r.f.a)).seen = false) (hd : (r.waited 0 (fun v => Pf.bitsOf v != Pf.bitsOf r.f.a)).done = false) : Calls Tryz.prog 109 #[.pointer (some ⟨p, 0, none⟩), .int .i64 0, .int .i64 1] w fun e w' => e = .returned (.bool true) ∧ At B w' p pm g ((Pf.reader r 0 1).1) ∧ Fr B p g w w' := e44
set_option maxHeartbeats 4000000 in
theorem pfr_2_0 (h : At B w p pm g r) (hO : Ok r) (hn : r.notes = []) (hop : r.f.op = 2) (hln : r.f.line = 0) : Calls Tryz.prog 109 #[.pointer (some ⟨p, 0, none⟩), .int .i64 0, .int .i64 1] w fun e w' => e = .returned (.bool true) ∧ At B w' p pm g ((Pf.reader r 0 1).1) ∧ Fr B p g w w' := by
 obtain ⟨hc, c4, c5, c6, c7⟩ := start h hO hn hop hln
 replace h := Lib.hid h
 replace hO := Lib.hid hO
 replace hn := Lib.hid hn
 replace hop := Lib.hid hop
 replace hln := Lib.hid hln
 go_enter Tryz.func109, Tryz.ntmps109
 go_upto_region 4 with (fail)
 go_quiet (fail)
 replace hc := Lib.hid (hc.out.drewN nq)
 go_wp2_with (first
  | (go_at_call 104; (try clear c6); (try clear c7); go_must (refine add_step hc _ _ (by first | decide | exact w32_u32 _ | exact w32_pres _) ?_; intro w1 f1 hc c6 c7; clear f1))
  | (go_at_call 105; (try clear c6); (try clear c7); go_must (refine note_step hc _ _ (by decide) ?_; intro w1 f1 hc c6 c7; clear f1))
  | (go_at_call 106; (try clear c6); (try clear c7); go_must (refine wake_step hc _ ?_; intro w1 f1 hc c6 c7; clear f1))
  | (go_at_call 107; (try clear c6); (try clear c7); go_must (refine end_step hc _ ?_; intro w1 f1 hc c6 c7; clear f1)))
 go_ret
 refine ⟨rfl, ?_, hc.out.fr⟩
 unfold Pf.reader
 exact e45
set_option maxHeartbeats 4000000 in
theorem pfr_5_1_t (h : At B w p pm g r) (hO : Ok r) (hn : r.notes = []) (hop : r.f.op = 5) (hln : r.f.line = 1) (hcs : (r.cas 0 r.f.a (u32 (r.f.a + 256))).hitCas r.f.a = true) : Calls Tryz.prog 109 #[.pointer (some ⟨p, 0, none⟩), .int .i64 0, .int .i64 1] w fun e w' => e = .returned (.bool true) ∧ At B w' p pm g ((Pf.reader r 0 1).1) ∧ Fr B p g w w' := by
 obtain ⟨hc, c4, c5, c6, c7⟩ := start h hO hn hop hln
 replace h := Lib.hid h
 replace hO := Lib.hid hO
 replace hn := Lib.hid hn
 replace hop := Lib.hid hop
 replace hln := Lib.hid hln
 replace hcs := Lib.hid hcs
 go_enter Tryz.func109, Tryz.ntmps109
 go_upto_region 4 with (fail)
 go_quiet (fail)
 replace hc := Lib.hid (hc.out.drewN nq)
 have hcq := hc.out
 clear c4 c5 c6 c7
 generalize w.drewN nq = W0 at hcq ⊢
 replace hc := Lib.hid hcq
 clear hcq
 have c6 := hc.out.c6
 have c7 := hc.out.c7
 go_upto_region 32 with (fail)
 go_still_tail 11, (by kernel_rfl)
 change wpList _ _ _ _ _ W0.drew
 have hcq := hc.out.drew
 clear c6 c7 hc
 generalize W0.drew = W8 at hcq ⊢
 have hc := Lib.hid hcq
 clear hcq
 have c6 := hc.out.c6
 have c7 := hc.out.c7
 go_wp2_with (first
  | (go_at_call 128; (try clear c6); (try clear c7); go_must (refine cas_step hc _ _ _ true hcs.out (by first | decide | exact w32_u32 _ | exact hc.out.ok.a) (by first | decide | exact w32_u32 _ | exact hc.out.ok.a) ?_; intro w1 f1 hc c6 c7; clear f1))
  | (go_at_call 105; (try clear c6); (try clear c7); go_must (refine note_step hc _ _ (by decide) ?_; intro w1 f1 hc c6 c7; clear f1))
  | (go_at_call 107; (try clear c6); (try clear c7); go_must (refine end_step hc _ ?_; intro w1 f1 hc c6 c7; clear f1)))
 go_ret
 refine ⟨rfl, ?_, hc.out.fr⟩
 unfold Pf.reader
 exact e37
set_option maxHeartbeats 4000000 in
theorem pfr_5_1_f (h : At B w p pm g r) (hO : Ok r) (hn : r.notes = []) (hop : r.f.op = 5) (hln : r.f.line = 1) (hcs : (r.cas 0 r.f.a (u32 (r.f.a + 256))).hitCas r.f.a = false) : Calls Tryz.prog 109 #[.pointer (some ⟨p, 0, none⟩), .int .i64 0, .int .i64 1] w fun e w' => e = .returned (.bool true) ∧ At B w' p pm g ((Pf.reader r 0 1).1) ∧ Fr B p g w w' := by
 obtain ⟨hc, c4, c5, c6, c7⟩ := start h hO hn hop hln
 replace h := Lib.hid h
 replace hO := Lib.hid hO
 replace hn := Lib.hid hn
 replace hop := Lib.hid hop
 replace hln := Lib.hid hln
 replace hcs := Lib.hid hcs
 go_enter Tryz.func109, Tryz.ntmps109
 go_upto_region 4 with (fail)
 go_quiet (fail)
 replace hc := Lib.hid (hc.out.drewN nq)
 have hcq := hc.out
 clear c4 c5 c6 c7
 generalize w.drewN nq = W0 at hcq ⊢
 replace hc := Lib.hid hcq
 clear hcq
 have c6 := hc.out.c6
 have c7 := hc.out.c7
 go_upto_region 32 with (fail)
 go_still_tail 11, (by kernel_rfl)
 change wpList _ _ _ _ _ W0.drew
 have hcq := hc.out.drew
 clear c6 c7 hc
 generalize W0.drew = W8 at hcq ⊢
 have hc := Lib.hid hcq
 clear hcq
 have c6 := hc.out.c6
 have c7 := hc.out.c7
 go_wp2_with (first
  | (go_at_call 128; (try clear c6); (try clear c7); go_must (refine cas_step hc _ _ _ false hcs.out (by first | decide | exact w32_u32 _ | exact hc.out.ok.a) (by first | decide | exact w32_u32 _ | exact hc.out.ok.a) ?_; intro w1 f1 hc c6 c7; clear f1))
  | (go_at_call 102; (try clear c6); (try clear c7); go_must (refine go_step hc _ ?_; intro w1 f1 hc c6 c7; clear f1)))
 go_ret
 refine ⟨rfl, ?_, hc.out.fr⟩
 unfold Pf.reader
 exact e38
set_option maxHeartbeats 4000000 in
theorem pfr_none (h : At B w p pm g r) (hO : Ok r) (hn : r.notes = []) (o1 : r.f.op ≠ 1) (o2 : r.f.op ≠ 2) (o5 : r.f.op ≠ 5) : Calls Tryz.prog 109 #[.pointer (some ⟨p, 0, none⟩), .int .i64 0, .int .i64 1] w fun e w' => e = .returned (.bool false) ∧ At B w' p pm g r ∧ Fr B p g w w' := by
 obtain ⟨hc, c4, c5, c6, c7⟩ := start h hO hn rfl rfl
 have b1 : (r.f.op == 1) = false := beq_eq_false_iff_ne.mpr o1
 have b2 : (r.f.op == 2) = false := beq_eq_false_iff_ne.mpr o2
 have b5 : (r.f.op == 5) = false := beq_eq_false_iff_ne.mpr o5
 replace h := Lib.hid h
 replace hO := Lib.hid hO
 replace hn := Lib.hid hn
 replace o1 := Lib.hid o1
 replace o2 := Lib.hid o2
 replace o5 := Lib.hid o5
 go_enter Tryz.func109, Tryz.ntmps109
 go_upto_region 4 with (fail)
 go_quiet (fail)
 replace hc := Lib.hid (hc.out.drewN nq)
 go_wp2
 go_ret
 exact ⟨rfl, hc.out.at_, hc.out.fr⟩
theorem pfr_plain_none (o1 : r.f.op ≠ 1) (o2 : r.f.op ≠ 2) (o5 : r.f.op ≠ 5) : Pf.reader r 0 1 = (r, false) := by
 unfold Pf.reader
 rw [if_neg (fun k => o1 k.1), if_neg (fun k => o1 k.1), if_neg (fun k => o2 k.1), if_neg (fun k => o5 k.1), if_neg (fun k => o5 k.1)]
end Go.Proofs.YtkmlefbdhdlfmaaGreat.Wo
