/- The lock of package pq: its lines, against the plain texts. -/
import Derived.Test.YtkmlefbdhdlfmaaGreatMx
import Derived.Test.YtkmlefbdhdlfmaaGreatPf
namespace Go.Proofs.YtkmlefbdhdlfmaaGreat.Wo
open Go.RowKit Go.Proofs.YtkmlefbdhdlfmaaGreatW.PrintWords Go.Proofs.YtkmlefbdhdlfmaaGreatW.PrintMore Go.Proofs.YtkmlefbdhdlfmaaGreatW.PrintLast
open Stile
set_option linter.unusedSimpArgs false
set_option linter.unusedVariables false
set_option maxRecDepth 100000
variable {w w1 w2 w0 : World} {B p pm g m : Nat} {r r1 : Run} {Q : Ending → World → Prop} {tail a : Int} {xs : List Int} {sb cap : Nat} {cs : Array Value}
theorem e111 {P : Prop} (h : P := by
 replace h7 := Lib.hid h7
 go_enter Tryz.func199, Tryz.ntmps199
 go_wp2
 go_ret
 exact ⟨rfl, rfl⟩) : P := h
theorem e112 {P : Prop} (h : P := by
 first | go_end0 | ((try simp only [Exit.inBlock, Exit.then]); refine bodyPost_ret (results_none rfl _ _ _) rfl ?_)
 refine ⟨rfl, ?_, hc.out.fr⟩
 unfold Pq.lock
 exact e90) : P := h
theorem e113 {P : Prop} (h : P := by
 obtain ⟨b, hbb⟩ : ∃ b, b = w.heap.size := ⟨_, rfl⟩
 obtain ⟨W, hW⟩ : ∃ W, W = w.alloc (.cells #[.int .u32 r.f.a] 22) := ⟨_, rfl⟩
 obtain ⟨hc, c4, c5, c6, c7, hb, nbp, nbg, v6, v7⟩ := startbox h hO hn rfl hln hW hbb
 have cb := cell_of_heap (j := 0) hb.out rfl
 replace h := Lib.hid h
 replace hO := Lib.hid hO
 replace hn := Lib.hid hn
 replace hln := Lib.hid hln
 replace hs := Lib.hid hs
 replace hd := Lib.hid hd
 go_enter Tryz.func114, Tryz.ntmps114
 go_upto_region 2 with (fail)
 rw [← hW, ← hbb]
 clear v6 v7
 replace hW := Lib.hid hW
 replace hbb := Lib.hid hbb
 go_wp2_with (first
  | (go_at_call 105; (try clear c6); (try clear c7); go_must (refine note_step hc _ _ (by decide) ?_; intro w1 f1 hc c6 c7; clear f1))
  | (go_at_call 107; (try clear c6); (try clear c7); go_must (refine end_step hc _ ?_; intro w1 f1 hc c6 c7; clear f1))
  | (go_at_call 101; (try clear c6); (try clear c7); go_must (refine wait_step hc _ (fun v => v == r.f.a) (pqmine_tells hb.out nbp nbg) _ _ hs.out hd.out ?_; intro w1 f1 hc c6 c7; clear f1)))
 first | go_end0 | ((try simp only [Exit.inBlock, Exit.then]); refine bodyPost_ret (results_none rfl _ _ _) rfl ?_)
 refine ⟨rfl, ?_, hc.out.fr⟩
 unfold Pq.lock
 simp only [hln.out]
 simp only [Int.reduceEq, and_true, true_and, and_self, and_false, false_and, if_true, if_false, or_false, false_or, or_true, true_or]
 exact e176) : P := h
theorem e114 {P : Prop} (h : P := by
 obtain ⟨hc, c4, c5, c6, c7⟩ := start h hO hn hop hln
 replace h := Lib.hid h
 replace hO := Lib.hid hO
 replace hn := Lib.hid hn
 replace hop := Lib.hid hop
 replace hln := Lib.hid hln
 go_enter Tryz.func115, Tryz.ntmps115
 go_upto_region 2 with (go_at_call 157; go_must (refine (pqpres_walk r.f.b hc.out.ok.b _).mono ?_; rintro e w1 ⟨rfl, hw1⟩; subst w1))
 go_quiet (fail)
 replace hc := Lib.hid (hc.out.drewN nq)
 have hcq := hc.out
 clear c4 c5 c6 c7
 generalize w.drewN nq = W0 at hcq ⊢
 replace hc := Lib.hid hcq
 clear hcq
 have c6 := hc.out.c6
 have c7 := hc.out.c7
 go_wp2_with (first
  | (go_at_call 112; (try clear c6); (try clear c7); go_must (refine load_step hc _ ?_; intro w1 f1 hc c6 c7; clear f1))
  | ((with_reducible refine gate_store rfl ?_); refine stB_step hc rfl rfl rfl rfl rfl rfl ?_; clear c6 c7; intro w1 f1 hc c6 c7; clear f1)
  | (go_at_call 102; (try clear c6); (try clear c7); go_must (refine go_step hc _ ?_; intro w1 f1 hc c6 c7; clear f1)))
 exact e177) : P := h
theorem e115 {P : Prop} (h : P := by
 obtain ⟨hc, c4, c5, c6, c7⟩ := start h hO hn hop hln
 replace h := Lib.hid h
 replace hO := Lib.hid hO
 replace hn := Lib.hid hn
 replace hop := Lib.hid hop
 replace hln := Lib.hid hln
 go_enter Tryz.func115, Tryz.ntmps115
 go_upto_region 2 with (go_at_call 157; go_must (refine (pqpres_walk r.f.b hc.out.ok.b _).mono ?_; rintro e w1 ⟨rfl, hw1⟩; subst w1))
 go_quiet (fail)
 replace hc := Lib.hid (hc.out.drewN nq)
 have hcq := hc.out
 clear c4 c5 c6 c7
 generalize w.drewN nq = W0 at hcq ⊢
 replace hc := Lib.hid hcq
 clear hcq
 have c6 := hc.out.c6
 have c7 := hc.out.c7
 go_wp2_with (first
  | (go_at_call 104; (try clear c6); (try clear c7); go_must (refine add_step hc _ _ (by first | decide | exact w32_u32 _ | exact w32_pres _) ?_; intro w1 f1 hc c6 c7; clear f1))
  | (go_at_call 105; (try clear c6); (try clear c7); go_must (refine note_step hc _ _ (by decide) ?_; intro w1 f1 hc c6 c7; clear f1))
  | (go_at_call 106; (try clear c6); (try clear c7); go_must (refine wake_step hc _ ?_; intro w1 f1 hc c6 c7; clear f1))
  | (go_at_call 102; (try clear c6); (try clear c7); go_must (refine go_step hc _ ?_; intro w1 f1 hc c6 c7; clear f1)))
 exact e177) : P := h
theorem e116 {P : Prop} (h : P := by
 obtain ⟨hc, c4, c5, c6, c7⟩ := start h hO hn hop hln
 replace h := Lib.hid h
 replace hO := Lib.hid hO
 replace hn := Lib.hid hn
 replace hop := Lib.hid hop
 replace hln := Lib.hid hln
 go_enter Tryz.func115, Tryz.ntmps115
 go_upto_region 2 with (go_at_call 157; go_must (refine (pqpres_walk r.f.b hc.out.ok.b _).mono ?_; rintro e w1 ⟨rfl, hw1⟩; subst w1))
 go_quiet (fail)
 replace hc := Lib.hid (hc.out.drewN nq)
 have hcq := hc.out
 clear c4 c5 c6 c7
 generalize w.drewN nq = W0 at hcq ⊢
 replace hc := Lib.hid hcq
 clear hcq
 have c6 := hc.out.c6
 have c7 := hc.out.c7
 go_wp2_with (first
  | (go_at_call 154; (try clear c6); (try clear c7); go_must (refine store_step hc _ _ (by first | decide | exact w32_u32 _ | exact w32_pres _) ?_; intro w1 f1 hc c6 c7; clear f1))
  | (go_at_call 102; (try clear c6); (try clear c7); go_must (refine go_step hc _ ?_; intro w1 f1 hc c6 c7; clear f1)))
 exact e177) : P := h
theorem e117 {P : Prop} (h : P := by
 first | go_end0 | ((try simp only [Exit.inBlock, Exit.then]); refine bodyPost_ret (results_none rfl _ _ _) rfl ?_)
 refine ⟨rfl, ?_, hc.out.fr⟩
 unfold Pq.decide_
 exact e90) : P := h
theorem e118 {P : Prop} (h : P := by
 first | go_end0 | ((try simp only [Exit.inBlock, Exit.then]); refine bodyPost_ret (results_none rfl _ _ _) rfl ?_)
 refine ⟨rfl, ?_, hc.out.fr⟩
 unfold Pq.decide_
 exact e45) : P := h
theorem e119 {P : Prop} (h : P := by
 intro hCont
 refine two_ (i := 5) (j := 7) (Ni := some 15) (Nj := some 3) (mk 10 63) (mk 10 159) rfl rfl rfl rfl (by kernel_rfl) (by decide) (by decide) (fun K hK => ?_) (fun K hK => ?_)
 ·exact e178
 ·exact e179) : P := h
theorem e120 {P : Prop} (h : P := by
 clear c6
 have c6 := hc.out.c6
 rw [wrap_u32]
 generalize (w.alloc (.cells #[.int .u32 (u32 (r.f.a - q))] 22)).drew = W1 at hb hc c4 c6 ⊢
 cases s <;> cases d
 all_goals
  go_wp2_with (first
   | (go_at_call 105; (try clear c6); (try clear c7); go_must (refine note_step hc _ _ hm'.out ?_; intro w1 f1 hc c6 c7; clear f1))
   | (go_at_call 102; (try clear c6); (try clear c7); go_must (refine go_step hc _ ?_; intro w1 f1 hc c6 c7; clear f1))
   | (go_at_call 107; (try clear c6); (try clear c7); go_must (refine end_step hc _ ?_; intro w1 f1 hc c6 c7; clear f1))
   | (go_at_call 101; (try clear c6); (try clear c7); go_must (refine wait_step hc _ (fun v => v == u32 (r.f.a - q)) (pqlast_tells hb.out nbp nbg) _ _ hs.out hd.out ?_; intro w1 f1 hc c6 c7; clear f1)))
  first | go_end0 | ((try simp only [Exit.inBlock, Exit.then]); refine bodyPost_ret (results_none rfl _ _ _) rfl ?_)
  exact ⟨rfl, hc.out.at_, hc.out.fr, hc.out.ok, by first | exact hc.out.few | exact Nat.le_succ_of_le hc.out.few⟩) : P := h
theorem e121 {P : Prop} (h : P := by
 have hM := fun W (hA : At B W p pm g r) => mxgive1_walk (tail := 2) (a := 3) hA hO hn (by decide) 8 (by omega)
 have hE : Pq.leave r = if (Mx.give r 2 3 [8]).2 then (Mx.give r 2 3 [8]).1.fin true else (Mx.give r 2 3 [8]).1 := by unfold Pq.leave; simp only [hop, hln]; simp only [Int.reduceEq, and_true, true_and, and_self, and_false, false_and, if_true, if_false, or_false, false_or, or_true, true_or]; try rfl
 rw [hE]
 clear hE
 obtain ⟨t, ht⟩ : ∃ t, t = Mx.give r 2 3 [8] := ⟨_, rfl⟩
 rw [← ht] at hM ⊢
 obtain ⟨r1, b⟩ := t
 clear ht
 obtain ⟨hc, c4, c5, c6, c7⟩ := start h hO hn hop hln
 replace hM := Lib.hid hM
 replace h := Lib.hid h
 replace hO := Lib.hid hO
 replace hn := Lib.hid hn
 replace hop := Lib.hid hop
 replace hln := Lib.hid hln
 cases b with
 | true =>
  show Calls _ _ _ w fun e w' => e = .returned (.tuple #[]) ∧ At B w' p pm g (r1.fin true) ∧ Fr B p g w w'
  go_enter Tryz.func115, Tryz.ntmps115
  go_upto_region 2 with (go_at_call 157; go_must (refine (pqpres_walk r.f.b hc.out.ok.b _).mono ?_; rintro e w1 ⟨rfl, hw1⟩; subst w1))
  go_quiet (fail)
  have hcq := hc.out.drewN nq
  clear c4 c5 c6 c7
  generalize w.drewN nq = W0 at hcq ⊢
  go_wp2_with (first
   | (go_at_call 160; go_must (refine (hM.out _ hcq.at_).mono ?_; rintro e w1 ⟨rfl, hA1, hF1⟩; replace hA1 := Lib.hid hA1; replace hF1 := Lib.hid hF1))
   | (go_at_call 107; go_must (refine (end_run hA1.out _).mono ?_; rintro e w2 ⟨rfl, hA2, hF2⟩; replace hA2 := Lib.hid hA2; replace hF2 := Lib.hid hF2)))
  first | go_end0 | ((try simp only [Exit.inBlock, Exit.then]); refine bodyPost_ret (results_none rfl _ _ _) rfl ?_)
  exact ⟨rfl, hA2.out, hcq.fr.trans (hF1.out.trans hF2.out)⟩
 | false =>
  show Calls _ _ _ w fun e w' => e = .returned (.tuple #[]) ∧ At B w' p pm g r1 ∧ Fr B p g w w'
  go_enter Tryz.func115, Tryz.ntmps115
  go_upto_region 2 with (go_at_call 157; go_must (refine (pqpres_walk r.f.b hc.out.ok.b _).mono ?_; rintro e w1 ⟨rfl, hw1⟩; subst w1))
  go_quiet (fail)
  have hcq := hc.out.drewN nq
  clear c4 c5 c6 c7
  generalize w.drewN nq = W0 at hcq ⊢
  go_wp2_with (go_at_call 160; go_must (refine (hM.out _ hcq.at_).mono ?_; rintro e w1 ⟨rfl, hA1, hF1⟩; replace hA1 := Lib.hid hA1; replace hF1 := Lib.hid hF1))
  first | go_end0 | ((try simp only [Exit.inBlock, Exit.then]); refine bodyPost_ret (results_none rfl _ _ _) rfl ?_)
  exact ⟨rfl, hA1.out, hcq.fr.trans hF1.out⟩) : P := h
theorem e122 {P : Prop} (h : P := by
 first | go_end0 | ((try simp only [Exit.inBlock, Exit.then]); refine bodyPost_ret (results_none rfl _ _ _) rfl ?_)
 exact ⟨rfl, hA2.out, hF1.out.trans hF2.out⟩) : P := h
theorem e123 {P : Prop} (h : P := by
 exact pqk_6t h hO hn hop (by omega) (fun W hA => pqtry_walk hA hO hn (by omega))) : P := h
theorem e124 {P : Prop} (h : P := by
 exact pqk_6d h hO hn hop (by omega) (fun W hA => pqd_give hA hO hn (by omega))) : P := h
theorem e125 {P : Prop} (h : P := by
 exact pqk_7t h hO hn hop (by omega) (fun W hA => pqtry_walk hA hO hn (by omega))) : P := h
theorem e126 {P : Prop} (h : P := by
 exact pqk_7d h hO hn hop (by omega) (fun W hA => pqd_give hA hO hn (by omega))) : P := h
theorem e177 {P : Prop} (h : P := by
 first | go_end0 | ((try simp only [Exit.inBlock, Exit.then]); refine bodyPost_ret (results_none rfl _ _ _) rfl ?_)
 refine ⟨rfl, ?_, hc.out.fr⟩
 unfold Pq.leave
 exact e45) : P := h
theorem e178 {P : Prop} (h : P := by
 skip
 refine goes_ Tryz.func199 (by kernel_rfl) rfl #[.pointer (some ⟨p, 0, none⟩)] (by rfl) rfl rfl (by simp only [List.map_toArray, List.map_cons, List.map_nil]; rfl) ?_
 with_reducible refine (pqown_eq hc.out.drew.at_ hq.out).mono ?_
 exact e181) : P := h
theorem e179 {P : Prop} (h : P := by
 skip
 refine value_ (w1 := ?_) (v := ?_) (by rfl) rfl ?_ ?_
 rotate_left 2
 ·go_simp
  constructor
  ·rfl
  ·rfl
 refine hK.out _ _ ((hc.out.alloc (.cells #[.int .u32 0] 22)).drew.c6) (fun hHeld => ?_)
 clear hK K
 refine nm_ ?_
 refine one_ (i := 5) (N := some 15) (mk 10 191) rfl rfl (by kernel_rfl) (by decide) (fun K hK => ?_)
 refine goes_ Tryz.func199 (by kernel_rfl) rfl #[.pointer (some ⟨p, 0, none⟩)] (by rfl) rfl rfl (by simp only [List.map_toArray, List.map_cons, List.map_nil]; rfl) ?_
 with_reducible refine (pqown_eq (hc.out.alloc (.cells #[.int .u32 0] 22)).drew.at_ hq.out).mono ?_
 exact e182) : P := h
theorem pqmine_walk (x v : Int) {k : Nat} (hk : w.heap[k]? = some (.cells #[.int .u32 x] 22 (0, 0))) : Calls Tryz.prog 158 #[.int .u32 v, .pointer (some ⟨k, 0, none⟩)] w fun e w' => e = .returned (.bool (v == x)) ∧ w' = w := by
 have c := cell_of_heap (j := 0) hk rfl
 replace hk := Lib.hid hk
 go_enter Tryz.func158, Tryz.ntmps158
 go_wp2
 go_ret
 exact ⟨rfl, rfl⟩
theorem pqmine_tells {x : Int} {k : Nat} (hk : w.heap[k]? = some (.cells #[.int .u32 x] 22 (0, 0))) (h1 : k ≠ p) (h2 : k ≠ g) : Tells B p pm g r false (fun v => v == x) 158 #[.pointer (some ⟨k, 0, none⟩)] w :=
 ⟨⟨_, Tryz.func158, rfl, rfl⟩, fun w1 v hv hf ha => (pqmine_walk x v (hf.keep hk h1 h2 (by decide))).mono (by rintro e w2 ⟨rfl, rfl⟩; exact ⟨rfl, ha, Fr.refl _ _ _ _⟩)⟩
theorem pqlast_walk (x v : Int) {k : Nat} (hk : w.heap[k]? = some (.cells #[.int .u32 x] 22 (0, 0))) : Calls Tryz.prog 200 #[.int .u32 v, .pointer (some ⟨k, 0, none⟩)] w fun e w' => e = .returned (.bool (v == x)) ∧ w' = w := by
 have c := cell_of_heap (j := 0) hk rfl
 replace hk := Lib.hid hk
 go_enter Tryz.func200, Tryz.ntmps200
 go_wp2
 go_ret
 exact ⟨rfl, rfl⟩
theorem pqlast_tells {x : Int} {k : Nat} (hk : w.heap[k]? = some (.cells #[.int .u32 x] 22 (0, 0))) (h1 : k ≠ p) (h2 : k ≠ g) : Tells B p pm g r false (fun v => v == x) 200 #[.pointer (some ⟨k, 0, none⟩)] w :=
 ⟨⟨_, Tryz.func200, rfl, rfl⟩, fun w1 v hv hf ha => (pqlast_walk x v (hf.keep hk h1 h2 (by decide))).mono (by rintro e w2 ⟨rfl, rfl⟩; exact ⟨rfl, ha, Fr.refl _ _ _ _⟩)⟩
theorem pqpres_walk (b : Int) (h : W32 b) (w : World) : Calls Tryz.prog 157 #[.int .u32 b] w fun e w' => e = .returned (.int .u32 (Pf.presence b)) ∧ w' = w := by
 have he := pf_pres b h
 replace h := Lib.hid h
 go_enter Tryz.func157, Tryz.ntmps157
 go_wp2
 go_ret
 exact ⟨by rw [← he]; rfl, rfl⟩
theorem pqown_walk (h : At B w p pm g r) : Calls Tryz.prog 199 #[.pointer (some ⟨p, 0, none⟩)] w fun e w' => e = .returned (.int .u32 (Pf.own r)) ∧ w' = w := by
 have c4 := h.cell 4 (fun _ => rfl)
 replace h := Lib.hid h
 unfold Pf.own
 by_cases h7 : r.f.op = 7
 ·have b7 : (r.f.op == 7) = true := beq_iff_eq.mpr h7
  rw [if_pos h7]
  exact e111
 ·have b7 : (r.f.op == 7) = false := beq_eq_false_iff_ne.mpr h7
  rw [if_neg h7]
  exact e111
theorem pqown_eq (h : At B w p pm g r) {q : Int} (hq : Pf.own r = q) : Calls Tryz.prog 199 #[.pointer (some ⟨p, 0, none⟩)] w fun e w' => e = .returned (.int .u32 q) ∧ w' = w := by
 rw [← hq]
 exact pqown_walk h
theorem pqtry_walk (h : At B w p pm g r) (hO : Ok r) (hn : r.notes = []) (hl : r.f.line = 0 ∨ r.f.line = 1) : Calls Tryz.prog 116 #[.pointer (some ⟨p, 0, none⟩)] w fun e w' => e = .returned (.tuple #[]) ∧ At B w' p pm g (Pq.try_ r) ∧ Fr B p g w w' := by
 have hM := mxtry_lines (tail := 2) (a := 0) h hO hn (by decide) (by omega)
 have hN : (Mx.try_ r 2 0).1.notes.length ≤ 1000 := by
  have e : (Mx.try_ r 2 0).1.notes = r.notes := by unfold Mx.try_; split <;> first | rfl | (split <;> rfl)
  rw [e, hn]; decide
 have hE : Pq.try_ r = if (Mx.try_ r 2 0).2.1 = false then (Mx.try_ r 2 0).1 else if (Mx.try_ r 2 0).2.2 then ((Mx.try_ r 2 0).1.note 2 2).go 2 else ((Mx.try_ r 2 0).1.note 5 0).fin false := rfl
 rw [hE]
 clear hE
 obtain ⟨t, ht⟩ : ∃ t, t = Mx.try_ r 2 0 := ⟨_, rfl⟩
 rw [← ht] at hM hN ⊢
 obtain ⟨r1, d, b⟩ := t
 clear ht
 replace hM := Lib.hid hM
 replace h := Lib.hid h
 replace hO := Lib.hid hO
 replace hn := Lib.hid hn
 replace hl := Lib.hid hl
 replace hN := Lib.hid hN
 cases d with
 | false =>
  show Calls _ _ _ w fun e w' => e = .returned (.tuple #[]) ∧ At B w' p pm g r1 ∧ Fr B p g w w'
  go_enter Tryz.func116, Tryz.ntmps116
  go_wp2_with (go_at_call 161; go_must (refine hM.out.mono ?_; rintro e w1 ⟨rfl, hA1, hF1⟩; replace hA1 := Lib.hid hA1; replace hF1 := Lib.hid hF1))
  first | go_end0 | ((try simp only [Exit.inBlock, Exit.then]); refine bodyPost_ret (results_none rfl _ _ _) rfl ?_)
  exact ⟨rfl, hA1.out, hF1.out⟩
 | true =>
  cases b with
  | true =>
   show Calls _ _ _ w fun e w' => e = .returned (.tuple #[]) ∧ At B w' p pm g ((r1.note 2 2).go 2) ∧ Fr B p g w w'
   go_enter Tryz.func116, Tryz.ntmps116
   go_wp2_with (first
    | (go_at_call 161; go_must (refine hM.out.mono ?_; rintro e w1 ⟨rfl, hA1, hF1⟩; replace hA1 := Lib.hid hA1; replace hF1 := Lib.hid hF1))
    | (go_at_call 105; go_must (refine (note_run hA1.out _ _ hN.out).mono ?_; rintro e w2 ⟨rfl, hA2, hF2⟩; replace hA2 := Lib.hid hA2; replace hF2 := Lib.hid hF2))
    | (go_at_call 102; go_must (refine (go_run hA2.out _).mono ?_; rintro e w3 ⟨rfl, hA3, hF3⟩; replace hA3 := Lib.hid hA3; replace hF3 := Lib.hid hF3)))
   first | go_end0 | ((try simp only [Exit.inBlock, Exit.then]); refine bodyPost_ret (results_none rfl _ _ _) rfl ?_)
   exact ⟨rfl, hA3.out, (hF1.out.trans hF2.out).trans hF3.out⟩
  | false =>
   show Calls _ _ _ w fun e w' => e = .returned (.tuple #[]) ∧ At B w' p pm g ((r1.note 5 0).fin false) ∧ Fr B p g w w'
   go_enter Tryz.func116, Tryz.ntmps116
   go_wp2_with (first
    | (go_at_call 161; go_must (refine hM.out.mono ?_; rintro e w1 ⟨rfl, hA1, hF1⟩; replace hA1 := Lib.hid hA1; replace hF1 := Lib.hid hF1))
    | (go_at_call 105; go_must (refine (note_run hA1.out _ _ hN.out).mono ?_; rintro e w2 ⟨rfl, hA2, hF2⟩; replace hA2 := Lib.hid hA2; replace hF2 := Lib.hid hF2))
    | (go_at_call 107; go_must (refine (end_run hA2.out _).mono ?_; rintro e w3 ⟨rfl, hA3, hF3⟩; replace hA3 := Lib.hid hA3; replace hF3 := Lib.hid hF3)))
   first | go_end0 | ((try simp only [Exit.inBlock, Exit.then]); refine bodyPost_ret (results_none rfl _ _ _) rfl ?_)
   exact ⟨rfl, hA3.out, (hF1.out.trans hF2.out).trans hF3.out⟩
theorem mxgive1_walk (h : At B w p pm g r) (hO : Ok r) (hn : r.notes = []) (ha : 0 ≤ a ∧ a ≤ 20) (x : Int) (hl : r.f.line = a ∨ r.f.line = a + 1 ∨ r.f.line = a + 2 ∨ r.f.line = a + 3) : Calls Tryz.prog 160 #[.pointer (some ⟨p, 0, none⟩), .int .i64 tail, .int .i64 a, .slice (some ⟨w.heap.size, 0, none⟩) 1 1] (w.alloc (.cells #[.int .i64 x] 3)) fun e w' => e = .returned (.bool (Mx.give r tail a [x]).2) ∧ At B w' p pm g (Mx.give r tail a [x]).1 ∧ Fr B p g w w' := by
 have h1 := h.lt
 have h2 := h.mem.lt.2
 refine (mxgive_lines (xs := [x]) (h.alloc (.cells #[.int .i64 x] 3)) hO hn ha (by simp) (heap_alloc_new _ _) (by intro i hi; obtain rfl : i = 0 := (by simp at hi; exact hi); rfl) (by omega) (by omega) hl).mono ?_
 exact e88
theorem pql_enter (h : At B w p pm g r) (hO : Ok r) (hn : r.notes = []) (hl : r.f.line = 0 ∨ r.f.line = 1 ∨ r.f.line = 2 ∨ r.f.line = 3 ∨ r.f.line = 4) : Calls Tryz.prog 114 #[.pointer (some ⟨p, 0, none⟩)] w fun e w' => e = .returned (.tuple #[]) ∧ At B w' p pm g (Pq.lock r) ∧ Fr B p g w w' := by
 have hM := fun W (hA : At B W p pm g r) => mxenter_lines hA hO hn 2 2 hl
 have hE : Pq.lock r = if (Mx.enter r 2 2).2 then (Mx.enter r 2 2).1.go 5 else (Mx.enter r 2 2).1 := by unfold Pq.lock; rw [if_neg (by omega), if_neg (by omega), if_neg (by omega)]
 rw [hE]
 clear hE
 obtain ⟨t, ht⟩ : ∃ t, t = Mx.enter r 2 2 := ⟨_, rfl⟩
 rw [← ht] at hM ⊢
 obtain ⟨r1, b⟩ := t
 clear ht
 have b5 : (r.f.line == 5) = false := beq_eq_false_iff_ne.mpr (by omega)
 have b6 : (r.f.line == 6) = false := beq_eq_false_iff_ne.mpr (by omega)
 have b7 : (r.f.line == 7) = false := beq_eq_false_iff_ne.mpr (by omega)
 obtain ⟨b0, hbb⟩ : ∃ b, b = w.heap.size := ⟨_, rfl⟩
 obtain ⟨W, hW⟩ : ∃ W, W = w.alloc (.cells #[.int .u32 r.f.a] 22) := ⟨_, rfl⟩
 obtain ⟨hc, c4, c5, c6, c7, hb, nbp, nbg, v6, v7⟩ := startbox h hO hn rfl rfl hW hbb
 replace hM := Lib.hid hM
 replace h := Lib.hid h
 replace hO := Lib.hid hO
 replace hn := Lib.hid hn
 replace hl := Lib.hid hl
 cases b with
 | true =>
  show Calls _ _ _ w fun e w' => e = .returned (.tuple #[]) ∧ At B w' p pm g (r1.go 5) ∧ Fr B p g w w'
  go_enter Tryz.func114, Tryz.ntmps114
  go_upto_region 2 with (fail)
  rw [← hW, ← hbb]
  clear v6 v7
  replace hW := Lib.hid hW
  replace hbb := Lib.hid hbb
  go_wp2_with (first
   | (go_at_call 159; go_must (refine (hM.out _ hc.out.at_).mono ?_; rintro e w1 ⟨rfl, hA1, hF1⟩; replace hA1 := Lib.hid hA1; replace hF1 := Lib.hid (hc.out.fr.trans hF1)))
   | (go_at_call 102; go_must (refine (go_run hA1.out _).mono ?_; rintro e w2 ⟨rfl, hA2, hF2⟩; replace hA2 := Lib.hid hA2; replace hF2 := Lib.hid hF2)))
  first | go_end0 | ((try simp only [Exit.inBlock, Exit.then]); refine bodyPost_ret (results_none rfl _ _ _) rfl ?_)
  exact ⟨rfl, hA2.out, hF1.out.trans hF2.out⟩
 | false =>
  show Calls _ _ _ w fun e w' => e = .returned (.tuple #[]) ∧ At B w' p pm g r1 ∧ Fr B p g w w'
  go_enter Tryz.func114, Tryz.ntmps114
  go_upto_region 2 with (fail)
  rw [← hW, ← hbb]
  clear v6 v7
  replace hW := Lib.hid hW
  replace hbb := Lib.hid hbb
  go_wp2_with (go_at_call 159; go_must (refine (hM.out _ hc.out.at_).mono ?_; rintro e w1 ⟨rfl, hA1, hF1⟩; replace hA1 := Lib.hid hA1; replace hF1 := Lib.hid (hc.out.fr.trans hF1)))
  first | go_end0 | ((try simp only [Exit.inBlock, Exit.then]); refine bodyPost_ret (results_none rfl _ _ _) rfl ?_)
  exact ⟨rfl, hA1.out, hF1.out⟩
theorem pqd_give (h : At B w p pm g r) (hO : Ok r) (hn : r.notes = []) (hl : r.f.line = 8 ∨ r.f.line = 8 + 1 ∨ r.f.line = 8 + 2 ∨ r.f.line = 8 + 3) : Calls Tryz.prog 117 #[.pointer (some ⟨p, 0, none⟩)] w fun e w' => e = .returned (.tuple #[]) ∧ At B w' p pm g (Pq.decide_ r) ∧ Fr B p g w w' := by
 have hM := mxgive1_walk (tail := 2) (a := 8) h hO hn (by decide) 8 hl
 have hE : Pq.decide_ r = if (Mx.give r 2 8 [8]).2 then (Mx.give r 2 8 [8]).1.fin false else (Mx.give r 2 8 [8]).1 := by unfold Pq.decide_; rw [if_neg (by omega), if_neg (by omega), if_neg (by omega), if_neg (by omega), if_neg (by omega), if_neg (by omega)]
 rw [hE]
 clear hE
 obtain ⟨t, ht⟩ : ∃ t, t = Mx.give r 2 8 [8] := ⟨_, rfl⟩
 rw [← ht] at hM ⊢
 obtain ⟨r1, b⟩ := t
 clear ht
 have b2 : (r.f.line == 2) = false := beq_eq_false_iff_ne.mpr (by omega)
 have b3 : (r.f.line == 3) = false := beq_eq_false_iff_ne.mpr (by omega)
 have b4 : (r.f.line == 4) = false := beq_eq_false_iff_ne.mpr (by omega)
 have b5 : (r.f.line == 5) = false := beq_eq_false_iff_ne.mpr (by omega)
 have b6 : (r.f.line == 6) = false := beq_eq_false_iff_ne.mpr (by omega)
 have b7 : (r.f.line == 7) = false := beq_eq_false_iff_ne.mpr (by omega)
 obtain ⟨hc, c4, c5, c6, c7⟩ := start h hO hn rfl rfl
 replace hM := Lib.hid hM
 replace h := Lib.hid h
 replace hO := Lib.hid hO
 replace hn := Lib.hid hn
 replace hl := Lib.hid hl
 cases b with
 | true =>
  show Calls _ _ _ w fun e w' => e = .returned (.tuple #[]) ∧ At B w' p pm g (r1.fin false) ∧ Fr B p g w w'
  go_enter Tryz.func117, Tryz.ntmps117
  go_wp2_with (first
   | (go_at_call 160; go_must (refine hM.out.mono ?_; rintro e w1 ⟨rfl, hA1, hF1⟩; replace hA1 := Lib.hid hA1; replace hF1 := Lib.hid hF1))
   | (go_at_call 107; go_must (refine (end_run hA1.out _).mono ?_; rintro e w2 ⟨rfl, hA2, hF2⟩; replace hA2 := Lib.hid hA2; replace hF2 := Lib.hid hF2)))
  first | go_end0 | ((try simp only [Exit.inBlock, Exit.then]); refine bodyPost_ret (results_none rfl _ _ _) rfl ?_)
  exact ⟨rfl, hA2.out, hF1.out.trans hF2.out⟩
 | false =>
  show Calls _ _ _ w fun e w' => e = .returned (.tuple #[]) ∧ At B w' p pm g r1 ∧ Fr B p g w w'
  go_enter Tryz.func117, Tryz.ntmps117
  go_wp2_with (go_at_call 160; go_must (refine hM.out.mono ?_; rintro e w1 ⟨rfl, hA1, hF1⟩; replace hA1 := Lib.hid hA1; replace hF1 := Lib.hid hF1))
  first | go_end0 | ((try simp only [Exit.inBlock, Exit.then]); refine bodyPost_ret (results_none rfl _ _ _) rfl ?_)
  exact ⟨rfl, hA1.out, hF1.out⟩
set_option maxHeartbeats 4000000 in
theorem pql_5 (h : At B w p pm g r) (hO : Ok r) (hn : r.notes = []) (hln : r.f.line = 5) : Calls Tryz.prog 114 #[.pointer (some ⟨p, 0, none⟩)] w fun e w' => e = .returned (.tuple #[]) ∧ At B w' p pm g (Pq.lock r) ∧ Fr B p g w w' := by
 obtain ⟨b, hbb⟩ : ∃ b, b = w.heap.size := ⟨_, rfl⟩
 obtain ⟨W, hW⟩ : ∃ W, W = w.alloc (.cells #[.int .u32 r.f.a] 22) := ⟨_, rfl⟩
 obtain ⟨hc, c4, c5, c6, c7, hb, nbp, nbg, v6, v7⟩ := startbox h hO hn rfl hln hW hbb
 have cb := cell_of_heap (j := 0) hb.out rfl
 replace h := Lib.hid h
 replace hO := Lib.hid hO
 replace hn := Lib.hid hn
 replace hln := Lib.hid hln
 go_enter Tryz.func114, Tryz.ntmps114
 go_upto_region 2 with (fail)
 rw [← hW, ← hbb]
 clear v6 v7
 replace hW := Lib.hid hW
 replace hbb := Lib.hid hbb
 go_wp2_with (first
  | (go_at_call 112; (try clear c6); (try clear c7); go_must (refine load_step hc _ ?_; intro w1 f1 hc c6 c7; clear f1))
  | ((with_reducible refine gate_store rfl ?_); refine stB_step hc rfl rfl rfl rfl rfl rfl ?_; clear c6 c7; intro w1 f1 hc c6 c7; clear f1)
  | (go_at_call 102; (try clear c6); (try clear c7); go_must (refine go_step hc _ ?_; intro w1 f1 hc c6 c7; clear f1)))
 exact e112
set_option maxHeartbeats 4000000 in
theorem pql_6 (h : At B w p pm g r) (hO : Ok r) (hn : r.notes = []) (hln : r.f.line = 6) : Calls Tryz.prog 114 #[.pointer (some ⟨p, 0, none⟩)] w fun e w' => e = .returned (.tuple #[]) ∧ At B w' p pm g (Pq.lock r) ∧ Fr B p g w w' := by
 obtain ⟨b, hbb⟩ : ∃ b, b = w.heap.size := ⟨_, rfl⟩
 obtain ⟨W, hW⟩ : ∃ W, W = w.alloc (.cells #[.int .u32 r.f.a] 22) := ⟨_, rfl⟩
 obtain ⟨hc, c4, c5, c6, c7, hb, nbp, nbg, v6, v7⟩ := startbox h hO hn rfl hln hW hbb
 have cb := cell_of_heap (j := 0) hb.out rfl
 replace h := Lib.hid h
 replace hO := Lib.hid hO
 replace hn := Lib.hid hn
 replace hln := Lib.hid hln
 go_enter Tryz.func114, Tryz.ntmps114
 go_upto_region 2 with (fail)
 rw [← hW, ← hbb]
 clear v6 v7
 replace hW := Lib.hid hW
 replace hbb := Lib.hid hbb
 go_wp2_with (first
  | (go_at_call 157; go_must (refine (pqpres_walk r.f.b hc.out.ok.b _).mono ?_; rintro e w1 ⟨rfl, rfl⟩))
  | (go_at_call 104; (try clear c6); (try clear c7); go_must (refine add_step hc _ _ (by first | decide | exact w32_u32 _ | exact w32_pres _) ?_; intro w1 f1 hc c6 c7; clear f1))
  | ((with_reducible refine gate_store rfl ?_); refine stA_step hc rfl rfl rfl rfl rfl rfl ?_; clear c6 c7; intro w1 f1 hc c6 c7; clear f1)
  | (go_at_call 105; (try clear c6); (try clear c7); go_must (refine note_step hc _ _ (by decide) ?_; intro w1 f1 hc c6 c7; clear f1))
  | (go_at_call 102; (try clear c6); (try clear c7); go_must (refine go_step hc _ ?_; intro w1 f1 hc c6 c7; clear f1)))
 exact e112
set_option maxHeartbeats 4000000 in
theorem pql_7_t_t (h : At B w p pm g r) (hO : Ok r) (hn : r.notes = []) (hln : r.f.line = 7) (hs : (r.waited 1 (fun v => v == r.f.a)).seen = true) (hd : (r.waited 1 (fun v => v == r.f.a)).done = true) : Calls Tryz.prog 114 #[.pointer (some ⟨p, 0, none⟩)] w fun e w' => e = .returned (.tuple #[]) ∧ At B w' p pm g (Pq.lock r) ∧ Fr B p g w w' := e113
set_option maxHeartbeats 4000000 in
theorem pql_7_t_f (h : At B w p pm g r) (hO : Ok r) (hn : r.notes = []) (hln : r.f.line = 7) (hs : (r.waited 1 (fun v => v == r.f.a)).seen = true) (hd : (r.waited 1 (fun v => v == r.f.a)).done = false) : Calls Tryz.prog 114 #[.pointer (some ⟨p, 0, none⟩)] w fun e w' => e = .returned (.tuple #[]) ∧ At B w' p pm g (Pq.lock r) ∧ Fr B p g w w' := e113
set_option maxHeartbeats 4000000 in
theorem pql_7_f_t (h : At B w p pm g r) (hO : Ok r) (hn : r.notes = []) (hln : r.f.line = 7) (hs : (r.waited 1 (fun v => v == r.f.a)).seen = false) (hd : (r.waited 1 (fun v => v == r.f.a)).done = true) : Calls Tryz.prog 114 #[.pointer (some ⟨p, 0, none⟩)] w fun e w' => e = .returned (.tuple #[]) ∧ At B w' p pm g (Pq.lock r) ∧ Fr B p g w w' := e113
set_option maxHeartbeats 4000000 in
theorem pql_7_f_f (h : At B w p pm g r) (hO : Ok r) (hn : r.notes = []) (hln : r.f.line = 7) (hs : (r.waited 1 (fun v => v == r.f.a)).seen = false) (hd : (r.waited 1 (fun v => v == r.f.a)).done = false) : Calls Tryz.prog 114 #[.pointer (some ⟨p, 0, none⟩)] w fun e w' => e = .returned (.tuple #[]) ∧ At B w' p pm g (Pq.lock r) ∧ Fr B p g w w' := e113
set_option maxHeartbeats 4000000 in
theorem pqv_4_0 (h : At B w p pm g r) (hO : Ok r) (hn : r.notes = []) (hop : r.f.op = 4) (hln : r.f.line = 0) : Calls Tryz.prog 115 #[.pointer (some ⟨p, 0, none⟩)] w fun e w' => e = .returned (.tuple #[]) ∧ At B w' p pm g (Pq.leave r) ∧ Fr B p g w w' := e114
set_option maxHeartbeats 4000000 in
theorem pqv_4_1 (h : At B w p pm g r) (hO : Ok r) (hn : r.notes = []) (hop : r.f.op = 4) (hln : r.f.line = 1) : Calls Tryz.prog 115 #[.pointer (some ⟨p, 0, none⟩)] w fun e w' => e = .returned (.tuple #[]) ∧ At B w' p pm g (Pq.leave r) ∧ Fr B p g w w' := e115
set_option maxHeartbeats 4000000 in
theorem pqv_4_2 (h : At B w p pm g r) (hO : Ok r) (hn : r.notes = []) (hop : r.f.op = 4) (hln : r.f.line = 2) : Calls Tryz.prog 115 #[.pointer (some ⟨p, 0, none⟩)] w fun e w' => e = .returned (.tuple #[]) ∧ At B w' p pm g (Pq.leave r) ∧ Fr B p g w w' := e116
set_option maxHeartbeats 4000000 in
theorem pqv_8_0 (h : At B w p pm g r) (hO : Ok r) (hn : r.notes = []) (hop : r.f.op = 8) (hln : r.f.line = 0) : Calls Tryz.prog 115 #[.pointer (some ⟨p, 0, none⟩)] w fun e w' => e = .returned (.tuple #[]) ∧ At B w' p pm g (Pq.leave r) ∧ Fr B p g w w' := e114
set_option maxHeartbeats 4000000 in
theorem pqv_8_1 (h : At B w p pm g r) (hO : Ok r) (hn : r.notes = []) (hop : r.f.op = 8) (hln : r.f.line = 1) : Calls Tryz.prog 115 #[.pointer (some ⟨p, 0, none⟩)] w fun e w' => e = .returned (.tuple #[]) ∧ At B w' p pm g (Pq.leave r) ∧ Fr B p g w w' := e115
set_option maxHeartbeats 4000000 in
theorem pqv_8_2 (h : At B w p pm g r) (hO : Ok r) (hn : r.notes = []) (hop : r.f.op = 8) (hln : r.f.line = 2) : Calls Tryz.prog 115 #[.pointer (some ⟨p, 0, none⟩)] w fun e w' => e = .returned (.tuple #[]) ∧ At B w' p pm g (Pq.leave r) ∧ Fr B p g w w' := e116
set_option maxHeartbeats 4000000 in
theorem pqd_2 (h : At B w p pm g r) (hO : Ok r) (hn : r.notes = []) (hln : r.f.line = 2) : Calls Tryz.prog 117 #[.pointer (some ⟨p, 0, none⟩)] w fun e w' => e = .returned (.tuple #[]) ∧ At B w' p pm g (Pq.decide_ r) ∧ Fr B p g w w' := by
 obtain ⟨hc, c4, c5, c6, c7⟩ := start h hO hn rfl hln
 replace h := Lib.hid h
 replace hO := Lib.hid hO
 replace hn := Lib.hid hn
 replace hln := Lib.hid hln
 go_enter Tryz.func117, Tryz.ntmps117
 go_wp2_with (first
  | (go_at_call 112; (try clear c6); (try clear c7); go_must (refine load_step hc _ ?_; intro w1 f1 hc c6 c7; clear f1))
  | ((with_reducible refine gate_store rfl ?_); refine stA_step hc rfl rfl rfl rfl rfl rfl ?_; clear c6 c7; intro w1 f1 hc c6 c7; clear f1)
  | (go_at_call 102; (try clear c6); (try clear c7); go_must (refine go_step hc _ ?_; intro w1 f1 hc c6 c7; clear f1)))
 exact e117
set_option maxHeartbeats 4000000 in
theorem pqd_4 (h : At B w p pm g r) (hO : Ok r) (hn : r.notes = []) (hln : r.f.line = 4) : Calls Tryz.prog 117 #[.pointer (some ⟨p, 0, none⟩)] w fun e w' => e = .returned (.tuple #[]) ∧ At B w' p pm g (Pq.decide_ r) ∧ Fr B p g w w' := by
 obtain ⟨hc, c4, c5, c6, c7⟩ := start h hO hn rfl hln
 replace h := Lib.hid h
 replace hO := Lib.hid hO
 replace hn := Lib.hid hn
 replace hln := Lib.hid hln
 go_enter Tryz.func117, Tryz.ntmps117
 go_wp2_with (first
  | (go_at_call 112; (try clear c6); (try clear c7); go_must (refine load_step hc _ ?_; intro w1 f1 hc c6 c7; clear f1))
  | ((with_reducible refine gate_store rfl ?_); refine stB_step hc rfl rfl rfl rfl rfl rfl ?_; clear c6 c7; intro w1 f1 hc c6 c7; clear f1)
  | (go_at_call 102; (try clear c6); (try clear c7); go_must (refine go_step hc _ ?_; intro w1 f1 hc c6 c7; clear f1)))
 exact e117
set_option maxHeartbeats 4000000 in
theorem pqd_5 (h : At B w p pm g r) (hO : Ok r) (hn : r.notes = []) (hln : r.f.line = 5) : Calls Tryz.prog 117 #[.pointer (some ⟨p, 0, none⟩)] w fun e w' => e = .returned (.tuple #[]) ∧ At B w' p pm g (Pq.decide_ r) ∧ Fr B p g w w' := by
 obtain ⟨hc, c4, c5, c6, c7⟩ := start h hO hn rfl hln
 replace h := Lib.hid h
 replace hO := Lib.hid hO
 replace hn := Lib.hid hn
 replace hln := Lib.hid hln
 go_enter Tryz.func117, Tryz.ntmps117
 go_wp2_with (first
  | (go_at_call 157; go_must (refine (pqpres_walk r.f.b hc.out.ok.b _).mono ?_; rintro e w1 ⟨rfl, rfl⟩))
  | (go_at_call 104; (try clear c6); (try clear c7); go_must (refine add_step hc _ _ (by first | decide | exact w32_u32 _ | exact w32_pres _) ?_; intro w1 f1 hc c6 c7; clear f1))
  | ((with_reducible refine gate_store rfl ?_); refine stA_step hc rfl rfl rfl rfl rfl rfl ?_; clear c6 c7; intro w1 f1 hc c6 c7; clear f1)
  | (go_at_call 105; (try clear c6); (try clear c7); go_must (refine note_step hc _ _ (by decide) ?_; intro w1 f1 hc c6 c7; clear f1))
  | (go_at_call 102; (try clear c6); (try clear c7); go_must (refine go_step hc _ ?_; intro w1 f1 hc c6 c7; clear f1)))
 exact e117
set_option maxHeartbeats 4000000 in
theorem pqd_7_7 (h : At B w p pm g r) (hO : Ok r) (hn : r.notes = []) (hop : r.f.op = 7) (hln : r.f.line = 7) : Calls Tryz.prog 117 #[.pointer (some ⟨p, 0, none⟩)] w fun e w' => e = .returned (.tuple #[]) ∧ At B w' p pm g (Pq.decide_ r) ∧ Fr B p g w w' := by
 obtain ⟨hc, c4, c5, c6, c7⟩ := start h hO hn hop hln
 replace h := Lib.hid h
 replace hO := Lib.hid hO
 replace hn := Lib.hid hn
 replace hop := Lib.hid hop
 replace hln := Lib.hid hln
 go_enter Tryz.func117, Tryz.ntmps117
 go_wp2_with (first
  | (go_at_call 104; (try clear c6); (try clear c7); go_must (refine add_step hc _ _ (by first | decide | exact w32_u32 _ | exact w32_pres _) ?_; intro w1 f1 hc c6 c7; clear f1))
  | (go_at_call 107; (try clear c6); (try clear c7); go_must (refine end_step hc _ ?_; intro w1 f1 hc c6 c7; clear f1)))
 exact e118
set_option maxHeartbeats 8000000 in
theorem pqlast_6 (h : Hid (Car B w0 w p pm g r m)) (hm : m ≤ 900) (hop : r.f.op = 6) (q : Int) (hq : Pf.own r = q) (s d : Bool) (hs : (r.waited 1 (fun v => v == u32 (r.f.a - q))).seen = s) (hd : (r.waited 1 (fun v => v == u32 (r.f.a - q))).done = d) (k : ∀ w1, Fr B p g w w1 → Hid (Car B w0 w1 p pm g (Pq.last r) (m + 1)) → Q (.returned (.tuple #[])) w1) : Calls Tryz.prog 163 #[.pointer (some ⟨p, 0, none⟩)] w Q := by
 have hm' : m ≤ 1000 := by omega
 suffices H : Calls Tryz.prog 163 #[.pointer (some ⟨p, 0, none⟩)] w fun e w' => e = .returned (.tuple #[]) ∧ Car B w w' p pm g (Pq.last r) (m + 1) by
  refine H.mono ?_
  rintro e w1 ⟨rfl, hc⟩
  exact k w1 hc.fr ⟨hc.at_, h.out.fr.trans hc.fr, hc.ok, hc.few⟩
 have hc : Hid (Car B w w p pm g r m) := ⟨h.out.at_, Fr.refl _ _ _ _, h.out.ok, h.out.few⟩
 have c4 : w.cell? ⟨p, 4, none⟩ = some (.int .i64 6) := hc.out.at_.cell 4 (fun _ => by rw [← hop]; rfl)
 have c6 := hc.out.c6
 have hr : Pq.last r = (let r2 := if s then (r.wait 1 (fun v => v == u32 (r.f.a - q))).note 4 0 else r.wait 1 (fun v => v == u32 (r.f.a - q)); if d then r2.fin true else r2) := by
  unfold Pq.last
  simp only [hq, hop, hs, hd]
  rfl
 have nbp : w.heap.size ≠ p := by have := hc.out.at_.lt; omega
 have nbg : w.heap.size ≠ g := by have := hc.out.at_.mem.lt.2; omega
 rw [hr]
 replace hm' := Lib.hid hm'
 replace k := Lib.hid k
 replace h := Lib.hid h
 replace hq := Lib.hid hq
 replace hop := Lib.hid hop
 replace hs := Lib.hid hs
 replace hd := Lib.hid hd
 replace hr := Lib.hid hr
 clear hm
 go_enter Tryz.func163, Tryz.ntmps163
 go_upto_region 1 with (fail)
 refine start_ (n := 10) (S := fun w' => w'.cell? ⟨p, 6, none⟩ = some (.int .u32 r.f.a)) (ds := [8]) #[false, false, false, false, false, false, false, false, false, false] (by kernel_rfl) rfl rfl (hc.out.drew.c6) (fun hHeld => ?_)
 refine pu_ 0 10 (mk 10 1) rfl rfl ?_
 refine pu_ 1 11 (mk 10 3) rfl rfl ?_
 refine pu_ 2 12 (mk 10 7) rfl rfl ?_
 refine pu_ 4 14 (mk 10 23) rfl rfl ?_
 refine take_ (i := 3) (N := some 13) (v := ?_) (a' := ?_) (mk 10 31) rfl rfl (by kernel_rfl) (fun _ _ _ h => h) (Or.inl ⟨by rfl, ?_⟩) hHeld ?_ ?_
 rotate_left
 ·intro w' s0
  go_simp
  with_reducible rfl
 rotate_left
 ·exact e4
 refine join_ (σ := Unit) 2 (mk 10 255) (fun (_ : Unit) => [(15, Value.int .u32 q), (16, Value.int .u32 (IntKind.u32.wrap (r.f.a - q))), (3, Value.pointer (some ⟨w.heap.size, 0, none⟩))]) (fun (_ : Unit) w' => w' = (w.alloc (.cells #[.int .u32 0] 22)).drew) ?_ ?_
 rotate_left
 ·exact e119
 rintro ⟨⟩ w' rfl
 have hHeld : (w.alloc (.cells #[.int .u32 0] 22)).drew.cell? ⟨p, 6, none⟩ = some (.int .u32 r.f.a) := (hc.out.alloc (.cells #[.int .u32 0] 22)).drew.c6
 refine norm_ (a' := ?_) ?_ ?_
 rotate_left
 ·exact e50
 refine last_ (i := 8) (N := none) (mk 10 511) rfl rfl (by kernel_rfl) (by decide) (fun K hK => ?_)
 refine skip_ (w1 := ?_) (by rfl) rfl ?_ ?_
 rotate_left
 ·go_simp
  rfl
 refine hK.out _ _ ?_
 clear hK K
 refine pu_ 9 4 (mk 10 1023) rfl rfl ?_
 refine done_ (by kernel_rfl) ?_
 have hb := Lib.hid (blk_drew (heap_alloc_new w (.cells #[.int .u32 (u32 (r.f.a - q))] 22)))
 replace hc := Lib.hid (hc.out.alloc (.cells #[.int .u32 (u32 (r.f.a - q))] 22)).drew
 replace c4 : ((w.alloc (.cells #[.int .u32 (u32 (r.f.a - q))] 22)).drew).cell? ⟨p, 4, none⟩ = some (.int .i64 6) := hc.out.at_.cell 4 (fun _ => by rw [← hop.out]; rfl)
 exact e120
set_option maxHeartbeats 8000000 in
theorem pqlast_7 (h : Hid (Car B w0 w p pm g r m)) (hm : m ≤ 900) (hop : r.f.op = 7) (q : Int) (hq : Pf.own r = q) (s d : Bool) (hs : (r.waited 1 (fun v => v == u32 (r.f.a - q))).seen = s) (hd : (r.waited 1 (fun v => v == u32 (r.f.a - q))).done = d) (k : ∀ w1, Fr B p g w w1 → Hid (Car B w0 w1 p pm g (Pq.last r) (m + 1)) → Q (.returned (.tuple #[])) w1) : Calls Tryz.prog 163 #[.pointer (some ⟨p, 0, none⟩)] w Q := by
 have hm' : m ≤ 1000 := by omega
 suffices H : Calls Tryz.prog 163 #[.pointer (some ⟨p, 0, none⟩)] w fun e w' => e = .returned (.tuple #[]) ∧ Car B w w' p pm g (Pq.last r) (m + 1) by
  refine H.mono ?_
  rintro e w1 ⟨rfl, hc⟩
  exact k w1 hc.fr ⟨hc.at_, h.out.fr.trans hc.fr, hc.ok, hc.few⟩
 have hc : Hid (Car B w w p pm g r m) := ⟨h.out.at_, Fr.refl _ _ _ _, h.out.ok, h.out.few⟩
 have c4 : w.cell? ⟨p, 4, none⟩ = some (.int .i64 7) := hc.out.at_.cell 4 (fun _ => by rw [← hop]; rfl)
 have c6 := hc.out.c6
 have hr : Pq.last r = (let r2 := if s then (r.wait 1 (fun v => v == u32 (r.f.a - q))).note 9 0 else r.wait 1 (fun v => v == u32 (r.f.a - q)); if d then r2.go 7 else r2) := by
  unfold Pq.last
  simp only [hq, hop, hs, hd]
  rfl
 have nbp : w.heap.size ≠ p := by have := hc.out.at_.lt; omega
 have nbg : w.heap.size ≠ g := by have := hc.out.at_.mem.lt.2; omega
 rw [hr]
 replace hm' := Lib.hid hm'
 replace k := Lib.hid k
 replace h := Lib.hid h
 replace hq := Lib.hid hq
 replace hop := Lib.hid hop
 replace hs := Lib.hid hs
 replace hd := Lib.hid hd
 replace hr := Lib.hid hr
 clear hm
 go_enter Tryz.func163, Tryz.ntmps163
 go_upto_region 1 with (fail)
 refine start_ (n := 10) (S := fun w' => w'.cell? ⟨p, 6, none⟩ = some (.int .u32 r.f.a)) (ds := [8]) #[false, false, false, false, false, false, false, false, false, false] (by kernel_rfl) rfl rfl (hc.out.drew.c6) (fun hHeld => ?_)
 refine pu_ 0 10 (mk 10 1) rfl rfl ?_
 refine pu_ 1 11 (mk 10 3) rfl rfl ?_
 refine pu_ 2 12 (mk 10 7) rfl rfl ?_
 refine pu_ 4 14 (mk 10 23) rfl rfl ?_
 refine take_ (i := 3) (N := some 13) (v := ?_) (a' := ?_) (mk 10 31) rfl rfl (by kernel_rfl) (fun _ _ _ h => h) (Or.inl ⟨by rfl, ?_⟩) hHeld ?_ ?_
 rotate_left
 ·intro w' s0
  go_simp
  with_reducible rfl
 rotate_left
 ·exact e4
 refine join_ (σ := Unit) 2 (mk 10 255) (fun (_ : Unit) => [(15, Value.int .u32 q), (16, Value.int .u32 (IntKind.u32.wrap (r.f.a - q))), (3, Value.pointer (some ⟨w.heap.size, 0, none⟩))]) (fun (_ : Unit) w' => w' = (w.alloc (.cells #[.int .u32 0] 22)).drew) ?_ ?_
 rotate_left
 ·exact e119
 rintro ⟨⟩ w' rfl
 have hHeld : (w.alloc (.cells #[.int .u32 0] 22)).drew.cell? ⟨p, 6, none⟩ = some (.int .u32 r.f.a) := (hc.out.alloc (.cells #[.int .u32 0] 22)).drew.c6
 refine norm_ (a' := ?_) ?_ ?_
 rotate_left
 ·exact e50
 refine last_ (i := 8) (N := none) (mk 10 511) rfl rfl (by kernel_rfl) (by decide) (fun K hK => ?_)
 refine skip_ (w1 := ?_) (by rfl) rfl ?_ ?_
 rotate_left
 ·go_simp
  rfl
 refine hK.out _ _ ?_
 clear hK K
 refine pu_ 9 4 (mk 10 1023) rfl rfl ?_
 refine done_ (by kernel_rfl) ?_
 have hb := Lib.hid (blk_drew (heap_alloc_new w (.cells #[.int .u32 (u32 (r.f.a - q))] 22)))
 replace hc := Lib.hid (hc.out.alloc (.cells #[.int .u32 (u32 (r.f.a - q))] 22)).drew
 replace c4 : ((w.alloc (.cells #[.int .u32 (u32 (r.f.a - q))] 22)).drew).cell? ⟨p, 4, none⟩ = some (.int .i64 7) := hc.out.at_.cell 4 (fun _ => by rw [← hop.out]; rfl)
 exact e120
set_option maxHeartbeats 2000000 in
theorem pqinside_step (h : Hid (Car B w0 w p pm g r m)) (hm : m ≤ 900) (k : ∀ w1, Fr B p g w w1 → Hid (Car B w0 w1 p pm g (Pq.inside r) (m + 1)) → Q (.returned (.tuple #[])) w1) : Calls Tryz.prog 162 #[.pointer (some ⟨p, 0, none⟩)] w Q := by
 have hm' : m ≤ 1000 := by omega
 suffices H : Calls Tryz.prog 162 #[.pointer (some ⟨p, 0, none⟩)] w fun e w' => e = .returned (.tuple #[]) ∧ Car B w w' p pm g (Pq.inside r) (m + 1) by
  refine H.mono ?_
  rintro e w1 ⟨rfl, hc⟩
  exact k w1 hc.fr ⟨hc.at_, h.out.fr.trans hc.fr, hc.ok, hc.few⟩
 have hc : Hid (Car B w w p pm g r m) := ⟨h.out.at_, Fr.refl _ _ _ _, h.out.ok, h.out.few⟩
 have c6 := hc.out.c6
 have c7 := hc.out.c7
 replace hm' := Lib.hid hm'
 replace k := Lib.hid k
 replace h := Lib.hid h
 clear hm
 have hr : Pq.inside r = if Stile.ahead r.f.a (r.load 1).old > Pf.own r then (((r.load 1).setB (r.load 1).old).note 5 0).go 8 else ((r.load 1).setB (r.load 1).old).go 4 := rfl
 rw [hr]
 clear hr
 have ho := own_wrap r
 obtain ⟨n, hnn⟩ : ∃ n, n = Stile.ahead r.f.a (r.load 1).old := ⟨_, rfl⟩
 obtain ⟨q, hq⟩ : ∃ q, q = Pf.own r := ⟨_, rfl⟩
 rw [← hnn]
 rw [← hq] at ho ⊢
 replace hnn := Lib.hid hnn
 replace hq := Lib.hid hq
 generalize hrr : (if n > q then (((r.load 1).setB (r.load 1).old).note 5 0).go 8 else ((r.load 1).setB (r.load 1).old).go 4) = rr
 replace hrr := Lib.hid hrr
 by_cases hgt : n > q
 ·have hb : decide (n > q) = true := decide_eq_true hgt
  replace hgt := Lib.hid hgt
  go_enter Tryz.func162, Tryz.ntmps162
  go_upto_region 2 with (first
    | (go_at_call 112; (try clear c6); (try clear c7); go_must (refine load_step hc _ ?_; intro w1 f1 hc c6 c7; clear f1))
    | ((with_reducible refine gate_store rfl ?_); refine stB_step hc rfl rfl rfl rfl rfl rfl ?_; clear c6 c7; intro w1 f1 hc c6 c7; clear f1))
  replace c6 : w1.cell? ⟨p, 6, none⟩ = some (.int .u32 r.f.a) := c6
  go_quiet (first
   | (go_at_call 188; refine Calls.quiet_of_same (ahead_eq hnn.out.symm _))
   | (go_at_call 199; refine Calls.quiet_of_same (pqown_eq (hc.out.at_.drewN _) hq.out.symm)))
  exact e47
 ·have hb : decide (n > q) = false := decide_eq_false hgt
  replace hgt := Lib.hid hgt
  go_enter Tryz.func162, Tryz.ntmps162
  go_upto_region 2 with (first
    | (go_at_call 112; (try clear c6); (try clear c7); go_must (refine load_step hc _ ?_; intro w1 f1 hc c6 c7; clear f1))
    | ((with_reducible refine gate_store rfl ?_); refine stB_step hc rfl rfl rfl rfl rfl rfl ?_; clear c6 c7; intro w1 f1 hc c6 c7; clear f1))
  replace c6 : w1.cell? ⟨p, 6, none⟩ = some (.int .u32 r.f.a) := c6
  go_quiet (first
   | (go_at_call 188; refine Calls.quiet_of_same (ahead_eq hnn.out.symm _))
   | (go_at_call 199; refine Calls.quiet_of_same (pqown_eq (hc.out.at_.drewN _) hq.out.symm)))
  exact e48
theorem pqv_give_4_3 (h : At B w p pm g r) (hO : Ok r) (hn : r.notes = []) (hop : r.f.op = 4) (hln : r.f.line = 3) : Calls Tryz.prog 115 #[.pointer (some ⟨p, 0, none⟩)] w fun e w' => e = .returned (.tuple #[]) ∧ At B w' p pm g (Pq.leave r) ∧ Fr B p g w w' := e121
theorem pqv_give_4_4 (h : At B w p pm g r) (hO : Ok r) (hn : r.notes = []) (hop : r.f.op = 4) (hln : r.f.line = 4) : Calls Tryz.prog 115 #[.pointer (some ⟨p, 0, none⟩)] w fun e w' => e = .returned (.tuple #[]) ∧ At B w' p pm g (Pq.leave r) ∧ Fr B p g w w' := e121
theorem pqv_give_4_5 (h : At B w p pm g r) (hO : Ok r) (hn : r.notes = []) (hop : r.f.op = 4) (hln : r.f.line = 5) : Calls Tryz.prog 115 #[.pointer (some ⟨p, 0, none⟩)] w fun e w' => e = .returned (.tuple #[]) ∧ At B w' p pm g (Pq.leave r) ∧ Fr B p g w w' := e121
theorem pqv_give_4_6 (h : At B w p pm g r) (hO : Ok r) (hn : r.notes = []) (hop : r.f.op = 4) (hln : r.f.line = 6) : Calls Tryz.prog 115 #[.pointer (some ⟨p, 0, none⟩)] w fun e w' => e = .returned (.tuple #[]) ∧ At B w' p pm g (Pq.leave r) ∧ Fr B p g w w' := e121
theorem pqv_give_8_3 (h : At B w p pm g r) (hO : Ok r) (hn : r.notes = []) (hop : r.f.op = 8) (hln : r.f.line = 3) : Calls Tryz.prog 115 #[.pointer (some ⟨p, 0, none⟩)] w fun e w' => e = .returned (.tuple #[]) ∧ At B w' p pm g (Pq.leave r) ∧ Fr B p g w w' := e121
theorem pqv_give_8_4 (h : At B w p pm g r) (hO : Ok r) (hn : r.notes = []) (hop : r.f.op = 8) (hln : r.f.line = 4) : Calls Tryz.prog 115 #[.pointer (some ⟨p, 0, none⟩)] w fun e w' => e = .returned (.tuple #[]) ∧ At B w' p pm g (Pq.leave r) ∧ Fr B p g w w' := e121
theorem pqv_give_8_5 (h : At B w p pm g r) (hO : Ok r) (hn : r.notes = []) (hop : r.f.op = 8) (hln : r.f.line = 5) : Calls Tryz.prog 115 #[.pointer (some ⟨p, 0, none⟩)] w fun e w' => e = .returned (.tuple #[]) ∧ At B w' p pm g (Pq.leave r) ∧ Fr B p g w w' := e121
theorem pqv_give_8_6 (h : At B w p pm g r) (hO : Ok r) (hn : r.notes = []) (hop : r.f.op = 8) (hln : r.f.line = 6) : Calls Tryz.prog 115 #[.pointer (some ⟨p, 0, none⟩)] w fun e w' => e = .returned (.tuple #[]) ∧ At B w' p pm g (Pq.leave r) ∧ Fr B p g w w' := e121
set_option maxHeartbeats 4000000 in
theorem pqd_3 (h : At B w p pm g r) (hO : Ok r) (hn : r.notes = []) (hln : r.f.line = 3) : Calls Tryz.prog 117 #[.pointer (some ⟨p, 0, none⟩)] w fun e w' => e = .returned (.tuple #[]) ∧ At B w' p pm g (Pq.decide_ r) ∧ Fr B p g w w' := by
 obtain ⟨hc, c4, c5, c6, c7⟩ := start h hO hn rfl hln
 replace h := Lib.hid h
 replace hO := Lib.hid hO
 replace hn := Lib.hid hn
 replace hln := Lib.hid hln
 go_enter Tryz.func117, Tryz.ntmps117
 go_wp2_with (first
  | (go_at_call 162; (try clear c6); (try clear c7); go_must (refine pqinside_step hc (by decide) ?_; intro w1 f1 hc; clear f1)))
 exact e117
set_option maxHeartbeats 4000000 in
theorem pqd_6_6 (h : At B w p pm g r) (hO : Ok r) (hn : r.notes = []) (hop : r.f.op = 6) (hln : r.f.line = 6) : Calls Tryz.prog 117 #[.pointer (some ⟨p, 0, none⟩)] w fun e w' => e = .returned (.tuple #[]) ∧ At B w' p pm g (Pq.decide_ r) ∧ Fr B p g w w' := by
 obtain ⟨hc, c4, c5, c6, c7⟩ := start h hO hn hop hln
 replace h := Lib.hid h
 replace hO := Lib.hid hO
 replace hn := Lib.hid hn
 replace hop := Lib.hid hop
 replace hln := Lib.hid hln
 go_enter Tryz.func117, Tryz.ntmps117
 go_wp2_with (first
  | (go_at_call 163; (try clear c6); (try clear c7); go_must (refine pqlast_6 hc (by decide) hop.out 0 (by unfold Pf.own; rw [hop.out]; rfl) _ _ rfl rfl ?_; intro w1 f1 hc; clear f1)))
 exact e118
set_option maxHeartbeats 4000000 in
theorem pqd_7_6 (h : At B w p pm g r) (hO : Ok r) (hn : r.notes = []) (hop : r.f.op = 7) (hln : r.f.line = 6) : Calls Tryz.prog 117 #[.pointer (some ⟨p, 0, none⟩)] w fun e w' => e = .returned (.tuple #[]) ∧ At B w' p pm g (Pq.decide_ r) ∧ Fr B p g w w' := by
 obtain ⟨hc, c4, c5, c6, c7⟩ := start h hO hn hop hln
 replace h := Lib.hid h
 replace hO := Lib.hid hO
 replace hn := Lib.hid hn
 replace hop := Lib.hid hop
 replace hln := Lib.hid hln
 go_enter Tryz.func117, Tryz.ntmps117
 go_wp2_with (first
  | (go_at_call 163; (try clear c6); (try clear c7); go_must (refine pqlast_7 hc (by decide) hop.out 256 (by unfold Pf.own; rw [hop.out]; rfl) _ _ rfl rfl ?_; intro w1 f1 hc; clear f1)))
 exact e118
theorem pqk_3 (h : At B w p pm g r) (hO : Ok r) (hn : r.notes = []) (hop : r.f.op = 3) (hL : ∀ W, At B W p pm g r → Calls Tryz.prog 114 #[.pointer (some ⟨p, 0, none⟩)] W fun e w' => e = .returned (.tuple #[]) ∧ At B w' p pm g (Pq.lock r) ∧ Fr B p g W w') : Calls Tryz.prog 73 #[.pointer (some ⟨p, 0, none⟩)] w fun e w' => e = .returned (.tuple #[]) ∧ At B w' p pm g (Pq.lines r) ∧ Fr B p g w w' := by
 have hrd := pfr_plain_none (r := r) (by rw [hop]; decide) (by rw [hop]; decide) (by rw [hop]; decide)
 have hE : Pq.lines r = Pq.lock r := by unfold Pq.lines; rw [hrd]; simp only [Bool.false_eq_true, if_false, hop]; simp only [Int.reduceEq, and_true, true_and, and_self, and_false, false_and, if_true, if_false, or_false, false_or, or_true, true_or]; try rfl
 rw [hE]
 clear hE hrd
 have hR := pfr_none h hO hn (by rw [hop]; decide) (by rw [hop]; decide) (by rw [hop]; decide)
 replace h := Lib.hid h
 replace hO := Lib.hid hO
 replace hn := Lib.hid hn
 replace hop := Lib.hid hop
 replace hL := Lib.hid hL
 replace hR := Lib.hid hR
 go_enter Tryz.func73, Tryz.ntmps73
 go_wp2_with (first
  | (go_at_call 109; go_must (refine hR.out.mono ?_; rintro e w1 ⟨rfl, hA1, hF1⟩; have c4 : w1.cell? ⟨p, 4, none⟩ = some (.int .i64 3) := hA1.cell 4 (fun _ => by rw [← hop.out]; rfl); have c5 : w1.cell? ⟨p, 5, none⟩ = some (.int .i64 r.f.line) := hA1.cell 5 (fun _ => rfl); replace hA1 := Lib.hid hA1; replace hF1 := Lib.hid hF1))
  | (go_at_call 114; go_must (refine (hL.out _ hA1.out).mono ?_; rintro e w2 ⟨rfl, hA2, hF2⟩; replace hA2 := Lib.hid hA2; replace hF2 := Lib.hid hF2)))
 exact e122
theorem pqk_4 (h : At B w p pm g r) (hO : Ok r) (hn : r.notes = []) (hop : r.f.op = 4) (hL : ∀ W, At B W p pm g r → Calls Tryz.prog 115 #[.pointer (some ⟨p, 0, none⟩)] W fun e w' => e = .returned (.tuple #[]) ∧ At B w' p pm g (Pq.leave r) ∧ Fr B p g W w') : Calls Tryz.prog 73 #[.pointer (some ⟨p, 0, none⟩)] w fun e w' => e = .returned (.tuple #[]) ∧ At B w' p pm g (Pq.lines r) ∧ Fr B p g w w' := by
 have hrd := pfr_plain_none (r := r) (by rw [hop]; decide) (by rw [hop]; decide) (by rw [hop]; decide)
 have hE : Pq.lines r = Pq.leave r := by unfold Pq.lines; rw [hrd]; simp only [Bool.false_eq_true, if_false, hop]; simp only [Int.reduceEq, and_true, true_and, and_self, and_false, false_and, if_true, if_false, or_false, false_or, or_true, true_or]; try rfl
 rw [hE]
 clear hE hrd
 have hR := pfr_none h hO hn (by rw [hop]; decide) (by rw [hop]; decide) (by rw [hop]; decide)
 replace h := Lib.hid h
 replace hO := Lib.hid hO
 replace hn := Lib.hid hn
 replace hop := Lib.hid hop
 replace hL := Lib.hid hL
 replace hR := Lib.hid hR
 go_enter Tryz.func73, Tryz.ntmps73
 go_wp2_with (first
  | (go_at_call 109; go_must (refine hR.out.mono ?_; rintro e w1 ⟨rfl, hA1, hF1⟩; have c4 : w1.cell? ⟨p, 4, none⟩ = some (.int .i64 4) := hA1.cell 4 (fun _ => by rw [← hop.out]; rfl); have c5 : w1.cell? ⟨p, 5, none⟩ = some (.int .i64 r.f.line) := hA1.cell 5 (fun _ => rfl); replace hA1 := Lib.hid hA1; replace hF1 := Lib.hid hF1))
  | (go_at_call 115; go_must (refine (hL.out _ hA1.out).mono ?_; rintro e w2 ⟨rfl, hA2, hF2⟩; replace hA2 := Lib.hid hA2; replace hF2 := Lib.hid hF2)))
 exact e122
theorem pqk_8 (h : At B w p pm g r) (hO : Ok r) (hn : r.notes = []) (hop : r.f.op = 8) (hL : ∀ W, At B W p pm g r → Calls Tryz.prog 115 #[.pointer (some ⟨p, 0, none⟩)] W fun e w' => e = .returned (.tuple #[]) ∧ At B w' p pm g (Pq.leave r) ∧ Fr B p g W w') : Calls Tryz.prog 73 #[.pointer (some ⟨p, 0, none⟩)] w fun e w' => e = .returned (.tuple #[]) ∧ At B w' p pm g (Pq.lines r) ∧ Fr B p g w w' := by
 have hrd := pfr_plain_none (r := r) (by rw [hop]; decide) (by rw [hop]; decide) (by rw [hop]; decide)
 have hE : Pq.lines r = Pq.leave r := by unfold Pq.lines; rw [hrd]; simp only [Bool.false_eq_true, if_false, hop]; simp only [Int.reduceEq, and_true, true_and, and_self, and_false, false_and, if_true, if_false, or_false, false_or, or_true, true_or]; try rfl
 rw [hE]
 clear hE hrd
 have hR := pfr_none h hO hn (by rw [hop]; decide) (by rw [hop]; decide) (by rw [hop]; decide)
 replace h := Lib.hid h
 replace hO := Lib.hid hO
 replace hn := Lib.hid hn
 replace hop := Lib.hid hop
 replace hL := Lib.hid hL
 replace hR := Lib.hid hR
 go_enter Tryz.func73, Tryz.ntmps73
 go_wp2_with (first
  | (go_at_call 109; go_must (refine hR.out.mono ?_; rintro e w1 ⟨rfl, hA1, hF1⟩; have c4 : w1.cell? ⟨p, 4, none⟩ = some (.int .i64 8) := hA1.cell 4 (fun _ => by rw [← hop.out]; rfl); have c5 : w1.cell? ⟨p, 5, none⟩ = some (.int .i64 r.f.line) := hA1.cell 5 (fun _ => rfl); replace hA1 := Lib.hid hA1; replace hF1 := Lib.hid hF1))
  | (go_at_call 115; go_must (refine (hL.out _ hA1.out).mono ?_; rintro e w2 ⟨rfl, hA2, hF2⟩; replace hA2 := Lib.hid hA2; replace hF2 := Lib.hid hF2)))
 exact e122
theorem pqk_6t (h : At B w p pm g r) (hO : Ok r) (hn : r.notes = []) (hop : r.f.op = 6) (hb : r.f.line ≤ 1) (hL : ∀ W, At B W p pm g r → Calls Tryz.prog 116 #[.pointer (some ⟨p, 0, none⟩)] W fun e w' => e = .returned (.tuple #[]) ∧ At B w' p pm g (Pq.try_ r) ∧ Fr B p g W w') : Calls Tryz.prog 73 #[.pointer (some ⟨p, 0, none⟩)] w fun e w' => e = .returned (.tuple #[]) ∧ At B w' p pm g (Pq.lines r) ∧ Fr B p g w w' := by
 have hrd := pfr_plain_none (r := r) (by rw [hop]; decide) (by rw [hop]; decide) (by rw [hop]; decide)
 have hE : Pq.lines r = Pq.try_ r := by unfold Pq.lines; rw [hrd]; simp only [Bool.false_eq_true, if_false, hop, hb]; simp only [Int.reduceEq, and_true, true_and, and_self, and_false, false_and, if_true, if_false, or_false, false_or, or_true, true_or]; try rfl
 rw [hE]
 clear hE hrd
 have hR := pfr_none h hO hn (by rw [hop]; decide) (by rw [hop]; decide) (by rw [hop]; decide)
 have bl : decide (r.f.line ≤ 1) = true := decide_eq_true hb
 replace hb := Lib.hid hb
 replace h := Lib.hid h
 replace hO := Lib.hid hO
 replace hn := Lib.hid hn
 replace hop := Lib.hid hop
 replace hL := Lib.hid hL
 replace hR := Lib.hid hR
 go_enter Tryz.func73, Tryz.ntmps73
 go_wp2_with (first
  | (go_at_call 109; go_must (refine hR.out.mono ?_; rintro e w1 ⟨rfl, hA1, hF1⟩; have c4 : w1.cell? ⟨p, 4, none⟩ = some (.int .i64 6) := hA1.cell 4 (fun _ => by rw [← hop.out]; rfl); have c5 : w1.cell? ⟨p, 5, none⟩ = some (.int .i64 r.f.line) := hA1.cell 5 (fun _ => rfl); replace hA1 := Lib.hid hA1; replace hF1 := Lib.hid hF1))
  | (go_at_call 116; go_must (refine (hL.out _ hA1.out).mono ?_; rintro e w2 ⟨rfl, hA2, hF2⟩; replace hA2 := Lib.hid hA2; replace hF2 := Lib.hid hF2)))
 exact e122
theorem pqk_6d (h : At B w p pm g r) (hO : Ok r) (hn : r.notes = []) (hop : r.f.op = 6) (hb : ¬ r.f.line ≤ 1) (hL : ∀ W, At B W p pm g r → Calls Tryz.prog 117 #[.pointer (some ⟨p, 0, none⟩)] W fun e w' => e = .returned (.tuple #[]) ∧ At B w' p pm g (Pq.decide_ r) ∧ Fr B p g W w') : Calls Tryz.prog 73 #[.pointer (some ⟨p, 0, none⟩)] w fun e w' => e = .returned (.tuple #[]) ∧ At B w' p pm g (Pq.lines r) ∧ Fr B p g w w' := by
 have hrd := pfr_plain_none (r := r) (by rw [hop]; decide) (by rw [hop]; decide) (by rw [hop]; decide)
 have hE : Pq.lines r = Pq.decide_ r := by unfold Pq.lines; rw [hrd]; simp only [Bool.false_eq_true, if_false, hop, hb]; simp only [Int.reduceEq, and_true, true_and, and_self, and_false, false_and, if_true, if_false, or_false, false_or, or_true, true_or]; try rfl
 rw [hE]
 clear hE hrd
 have hR := pfr_none h hO hn (by rw [hop]; decide) (by rw [hop]; decide) (by rw [hop]; decide)
 have bl : decide (r.f.line ≤ 1) = false := decide_eq_false hb
 replace hb := Lib.hid hb
 replace h := Lib.hid h
 replace hO := Lib.hid hO
 replace hn := Lib.hid hn
 replace hop := Lib.hid hop
 replace hL := Lib.hid hL
 replace hR := Lib.hid hR
 go_enter Tryz.func73, Tryz.ntmps73
 go_wp2_with (first
  | (go_at_call 109; go_must (refine hR.out.mono ?_; rintro e w1 ⟨rfl, hA1, hF1⟩; have c4 : w1.cell? ⟨p, 4, none⟩ = some (.int .i64 6) := hA1.cell 4 (fun _ => by rw [← hop.out]; rfl); have c5 : w1.cell? ⟨p, 5, none⟩ = some (.int .i64 r.f.line) := hA1.cell 5 (fun _ => rfl); replace hA1 := Lib.hid hA1; replace hF1 := Lib.hid hF1))
  | (go_at_call 117; go_must (refine (hL.out _ hA1.out).mono ?_; rintro e w2 ⟨rfl, hA2, hF2⟩; replace hA2 := Lib.hid hA2; replace hF2 := Lib.hid hF2)))
 exact e122
theorem pqk_7t (h : At B w p pm g r) (hO : Ok r) (hn : r.notes = []) (hop : r.f.op = 7) (hb : r.f.line ≤ 1) (hL : ∀ W, At B W p pm g r → Calls Tryz.prog 116 #[.pointer (some ⟨p, 0, none⟩)] W fun e w' => e = .returned (.tuple #[]) ∧ At B w' p pm g (Pq.try_ r) ∧ Fr B p g W w') : Calls Tryz.prog 73 #[.pointer (some ⟨p, 0, none⟩)] w fun e w' => e = .returned (.tuple #[]) ∧ At B w' p pm g (Pq.lines r) ∧ Fr B p g w w' := by
 have hrd := pfr_plain_none (r := r) (by rw [hop]; decide) (by rw [hop]; decide) (by rw [hop]; decide)
 have hE : Pq.lines r = Pq.try_ r := by unfold Pq.lines; rw [hrd]; simp only [Bool.false_eq_true, if_false, hop, hb]; simp only [Int.reduceEq, and_true, true_and, and_self, and_false, false_and, if_true, if_false, or_false, false_or, or_true, true_or]; try rfl
 rw [hE]
 clear hE hrd
 have hR := pfr_none h hO hn (by rw [hop]; decide) (by rw [hop]; decide) (by rw [hop]; decide)
 have bl : decide (r.f.line ≤ 1) = true := decide_eq_true hb
 replace hb := Lib.hid hb
 replace h := Lib.hid h
 replace hO := Lib.hid hO
 replace hn := Lib.hid hn
 replace hop := Lib.hid hop
 replace hL := Lib.hid hL
 replace hR := Lib.hid hR
 go_enter Tryz.func73, Tryz.ntmps73
 go_wp2_with (first
  | (go_at_call 109; go_must (refine hR.out.mono ?_; rintro e w1 ⟨rfl, hA1, hF1⟩; have c4 : w1.cell? ⟨p, 4, none⟩ = some (.int .i64 7) := hA1.cell 4 (fun _ => by rw [← hop.out]; rfl); have c5 : w1.cell? ⟨p, 5, none⟩ = some (.int .i64 r.f.line) := hA1.cell 5 (fun _ => rfl); replace hA1 := Lib.hid hA1; replace hF1 := Lib.hid hF1))
  | (go_at_call 116; go_must (refine (hL.out _ hA1.out).mono ?_; rintro e w2 ⟨rfl, hA2, hF2⟩; replace hA2 := Lib.hid hA2; replace hF2 := Lib.hid hF2)))
 exact e122
theorem pqk_7d (h : At B w p pm g r) (hO : Ok r) (hn : r.notes = []) (hop : r.f.op = 7) (hb : ¬ r.f.line ≤ 1) (hL : ∀ W, At B W p pm g r → Calls Tryz.prog 117 #[.pointer (some ⟨p, 0, none⟩)] W fun e w' => e = .returned (.tuple #[]) ∧ At B w' p pm g (Pq.decide_ r) ∧ Fr B p g W w') : Calls Tryz.prog 73 #[.pointer (some ⟨p, 0, none⟩)] w fun e w' => e = .returned (.tuple #[]) ∧ At B w' p pm g (Pq.lines r) ∧ Fr B p g w w' := by
 have hrd := pfr_plain_none (r := r) (by rw [hop]; decide) (by rw [hop]; decide) (by rw [hop]; decide)
 have hE : Pq.lines r = Pq.decide_ r := by unfold Pq.lines; rw [hrd]; simp only [Bool.false_eq_true, if_false, hop, hb]; simp only [Int.reduceEq, and_true, true_and, and_self, and_false, false_and, if_true, if_false, or_false, false_or, or_true, true_or]; try rfl
 rw [hE]
 clear hE hrd
 have hR := pfr_none h hO hn (by rw [hop]; decide) (by rw [hop]; decide) (by rw [hop]; decide)
 have bl : decide (r.f.line ≤ 1) = false := decide_eq_false hb
 replace hb := Lib.hid hb
 replace h := Lib.hid h
 replace hO := Lib.hid hO
 replace hn := Lib.hid hn
 replace hop := Lib.hid hop
 replace hL := Lib.hid hL
 replace hR := Lib.hid hR
 go_enter Tryz.func73, Tryz.ntmps73
 go_wp2_with (first
  | (go_at_call 109; go_must (refine hR.out.mono ?_; rintro e w1 ⟨rfl, hA1, hF1⟩; have c4 : w1.cell? ⟨p, 4, none⟩ = some (.int .i64 7) := hA1.cell 4 (fun _ => by rw [← hop.out]; rfl); have c5 : w1.cell? ⟨p, 5, none⟩ = some (.int .i64 r.f.line) := hA1.cell 5 (fun _ => rfl); replace hA1 := Lib.hid hA1; replace hF1 := Lib.hid hF1))
  | (go_at_call 117; go_must (refine (hL.out _ hA1.out).mono ?_; rintro e w2 ⟨rfl, hA2, hF2⟩; replace hA2 := Lib.hid hA2; replace hF2 := Lib.hid hF2)))
 exact e122
theorem pq_reader (h : At B w p pm g r) (hR : Calls Tryz.prog 109 #[.pointer (some ⟨p, 0, none⟩), .int .i64 0, .int .i64 1] w fun e w' => e = .returned (.bool true) ∧ At B w' p pm g (Pf.reader r 0 1).1 ∧ Fr B p g w w') (hp : (Pf.reader r 0 1).2 = true) : Calls Tryz.prog 73 #[.pointer (some ⟨p, 0, none⟩)] w fun e w' => e = .returned (.tuple #[]) ∧ At B w' p pm g (Pq.lines r) ∧ Fr B p g w w' := by
 have hl : Pq.lines r = (Pf.reader r 0 1).1 := by unfold Pq.lines; rw [if_pos hp]
 rw [hl]
 generalize (Pf.reader r 0 1).1 = rr at hR ⊢
 replace h := Lib.hid h
 replace hp := Lib.hid hp
 replace hl := Lib.hid hl
 go_enter Tryz.func73, Tryz.ntmps73
 exact e67
theorem pq_lines (h : At B w p pm g r) (hO : Ok r) (hn : r.notes = []) (hv : Pq.Valid r.f.op r.f.line) : Calls Tryz.prog 73 #[.pointer (some ⟨p, 0, none⟩)] w fun e w' => e = .returned (.tuple #[]) ∧ At B w' p pm g (Pq.lines r) ∧ Fr B p g w w' := by
 rcases hv with ⟨hop, hln⟩ | ⟨hop, hln⟩ | ⟨hop, hln⟩ | ⟨hop, hln⟩ | ⟨hop, hln⟩ | ⟨hop, hln⟩ | ⟨hop, hln⟩ | ⟨hop, hln⟩ | ⟨hop, hln⟩ | ⟨hop, hln⟩ | ⟨hop, hln⟩ | ⟨hop, hln⟩ | ⟨hop, hln⟩ | ⟨hop, hln⟩ | ⟨hop, hln⟩ | ⟨hop, hln⟩ | ⟨hop, hln⟩ | ⟨hop, hln⟩ | ⟨hop, hln⟩ | ⟨hop, hln⟩ | ⟨hop, hln⟩ | ⟨hop, hln⟩ | ⟨hop, hln⟩ | ⟨hop, hln⟩ | ⟨hop, hln⟩ | ⟨hop, hln⟩ | ⟨hop, hln⟩ | ⟨hop, hln⟩ | ⟨hop, hln⟩ | ⟨hop, hln⟩ | ⟨hop, hln⟩ | ⟨hop, hln⟩ | ⟨hop, hln⟩ | ⟨hop, hln⟩ | ⟨hop, hln⟩ | ⟨hop, hln⟩ | ⟨hop, hln⟩ | ⟨hop, hln⟩ | ⟨hop, hln⟩ | ⟨hop, hln⟩ | ⟨hop, hln⟩ | ⟨hop, hln⟩ | ⟨hop, hln⟩ | ⟨hop, hln⟩ | ⟨hop, hln⟩ | ⟨hop, hln⟩ | ⟨hop, hln⟩ | ⟨hop, hln⟩ | ⟨hop, hln⟩ | ⟨hop, hln⟩
 ·refine pq_reader h ?_ (by unfold Pf.reader; simp only [hop, hln]; simp only [Int.reduceEq, and_true, true_and, and_self, and_false, false_and, if_true, if_false, or_false, false_or, or_true, true_or]; all_goals (first | rfl | (split <;> rfl)))
  exact e75
 ·refine pq_reader h ?_ (by unfold Pf.reader; simp only [hop, hln]; simp only [Int.reduceEq, and_true, true_and, and_self, and_false, false_and, if_true, if_false, or_false, false_or, or_true, true_or]; all_goals (first | rfl | (split <;> rfl)))
  exact e76
 ·refine pq_reader h ?_ (by unfold Pf.reader; simp only [hop, hln]; simp only [Int.reduceEq, and_true, true_and, and_self, and_false, false_and, if_true, if_false, or_false, false_or, or_true, true_or]; all_goals (first | rfl | (split <;> rfl)))
  exact pfr_2_0 h hO hn hop hln
 ·refine pq_reader h ?_ (by unfold Pf.reader; simp only [hop, hln]; simp only [Int.reduceEq, and_true, true_and, and_self, and_false, false_and, if_true, if_false, or_false, false_or, or_true, true_or]; all_goals (first | rfl | (split <;> rfl)))
  exact e77
 ·refine pq_reader h ?_ (by unfold Pf.reader; simp only [hop, hln]; simp only [Int.reduceEq, and_true, true_and, and_self, and_false, false_and, if_true, if_false, or_false, false_or, or_true, true_or]; all_goals (first | rfl | (split <;> rfl)))
  exact e78
 ·exact pqk_3 h hO hn hop (fun W hA => pql_enter hA hO hn (by omega))
 ·exact pqk_3 h hO hn hop (fun W hA => pql_enter hA hO hn (by omega))
 ·exact pqk_3 h hO hn hop (fun W hA => pql_enter hA hO hn (by omega))
 ·exact pqk_3 h hO hn hop (fun W hA => pql_enter hA hO hn (by omega))
 ·exact pqk_3 h hO hn hop (fun W hA => pql_enter hA hO hn (by omega))
 ·exact pqk_3 h hO hn hop (fun W hA => pql_5 hA hO hn hln)
 ·exact pqk_3 h hO hn hop (fun W hA => pql_6 hA hO hn hln)
 ·refine pqk_3 h hO hn hop (fun W hA => ?_)
  cases hs : (r.waited 1 (fun v => v == r.f.a)).seen <;> cases hd : (r.waited 1 (fun v => v == r.f.a)).done
  ·exact pql_7_f_f hA hO hn hln hs hd
  ·exact pql_7_f_t hA hO hn hln hs hd
  ·exact pql_7_t_f hA hO hn hln hs hd
  ·exact pql_7_t_t hA hO hn hln hs hd
 ·exact pqk_4 h hO hn hop (fun W hA => pqv_4_0 hA hO hn hop hln)
 ·exact pqk_4 h hO hn hop (fun W hA => pqv_4_1 hA hO hn hop hln)
 ·exact pqk_4 h hO hn hop (fun W hA => pqv_4_2 hA hO hn hop hln)
 ·exact pqk_4 h hO hn hop (fun W hA => pqv_give_4_3 hA hO hn hop hln)
 ·exact pqk_4 h hO hn hop (fun W hA => pqv_give_4_4 hA hO hn hop hln)
 ·exact pqk_4 h hO hn hop (fun W hA => pqv_give_4_5 hA hO hn hop hln)
 ·exact pqk_4 h hO hn hop (fun W hA => pqv_give_4_6 hA hO hn hop hln)
 ·exact pqk_8 h hO hn hop (fun W hA => pqv_8_0 hA hO hn hop hln)
 ·exact pqk_8 h hO hn hop (fun W hA => pqv_8_1 hA hO hn hop hln)
 ·exact pqk_8 h hO hn hop (fun W hA => pqv_8_2 hA hO hn hop hln)
 ·exact pqk_8 h hO hn hop (fun W hA => pqv_give_8_3 hA hO hn hop hln)
 ·exact pqk_8 h hO hn hop (fun W hA => pqv_give_8_4 hA hO hn hop hln)
 ·exact pqk_8 h hO hn hop (fun W hA => pqv_give_8_5 hA hO hn hop hln)
 ·exact pqk_8 h hO hn hop (fun W hA => pqv_give_8_6 hA hO hn hop hln)
 ·exact e123
 ·exact e123
 ·exact pqk_6d h hO hn hop (by omega) (fun W hA => pqd_2 hA hO hn hln)
 ·exact pqk_6d h hO hn hop (by omega) (fun W hA => pqd_3 hA hO hn hln)
 ·exact pqk_6d h hO hn hop (by omega) (fun W hA => pqd_4 hA hO hn hln)
 ·exact pqk_6d h hO hn hop (by omega) (fun W hA => pqd_5 hA hO hn hln)
 ·exact pqk_6d h hO hn hop (by omega) (fun W hA => pqd_6_6 hA hO hn hop hln)
 ·exact e124
 ·exact e124
 ·exact e124
 ·exact e124
 ·exact e125
 ·exact e125
 ·exact pqk_7d h hO hn hop (by omega) (fun W hA => pqd_2 hA hO hn hln)
 ·exact pqk_7d h hO hn hop (by omega) (fun W hA => pqd_3 hA hO hn hln)
 ·exact pqk_7d h hO hn hop (by omega) (fun W hA => pqd_4 hA hO hn hln)
 ·exact pqk_7d h hO hn hop (by omega) (fun W hA => pqd_5 hA hO hn hln)
 ·exact pqk_7d h hO hn hop (by omega) (fun W hA => pqd_7_6 hA hO hn hop hln)
 ·exact pqk_7d h hO hn hop (by omega) (fun W hA => pqd_7_7 hA hO hn hop hln)
 ·exact e126
 ·exact e126
 ·exact e126
 ·exact e126
end Go.Proofs.YtkmlefbdhdlfmaaGreat.Wo
