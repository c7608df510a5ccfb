/- The fair queue lock (package fq): its lines, against the plain texts. -/
import Derived.Test.YtkmlefbdhdlfmaaGreatMx
namespace Go.Proofs.YtkmlefbdhdlfmaaGreat.Wo
open Go.RowKit Go.Proofs.YtkmlefbdhdlfmaaGreatW.PrintWords Go.Proofs.YtkmlefbdhdlfmaaGreatW.PrintMore Go.Proofs.YtkmlefbdhdlfmaaGreatW.PrintLast
open Stile
set_option linter.unusedSimpArgs false
set_option linter.unusedVariables false
set_option maxRecDepth 100000
variable {w w1 w2 w0 : World} {B p pm g m : Nat} {r r1 : Run} {Q : Ending → World → Prop} {tail a : Int} {xs : List Int} {sb cap : Nat} {cs : Array Value}
theorem e89 {P : Prop} (h : P := by
 go_wp2_with (go_at_call 122; go_must (refine hG.out.mono ?_; rintro e w1 ⟨rfl, hA1, hF1⟩; replace hA1 := Lib.hid hA1; replace hF1 := Lib.hid hF1))
 exact e73) : P := h
theorem e91 {P : Prop} (h : P := by
 obtain ⟨hc, c4, c5, c6, c7⟩ := start h hO hn rfl hln
 replace h := Lib.hid h
 replace hO := Lib.hid hO
 replace hn := Lib.hid hn
 replace hln := Lib.hid hln
 replace hs := Lib.hid hs
 replace hd := Lib.hid hd
 go_enter Tryz.func121, Tryz.ntmps121
 go_wp2_with (first
  | (go_at_call 105; (try clear c6); (try clear c7); go_must (refine note_step hc _ _ (by decide) ?_; intro w1 f1 hc c6 c7; clear f1))
  | (go_at_call 107; (try clear c6); (try clear c7); go_must (refine end_step hc _ ?_; intro w1 f1 hc c6 c7; clear f1))
  | (go_at_call 101; (try clear c6); (try clear c7); go_must (refine wait_step hc _ (fun v => v == 0) fqzero_tells _ _ hs.out hd.out ?_; intro w1 f1 hc c6 c7; clear f1)))
 first | go_end0 | ((try simp only [Exit.inBlock, Exit.then]); refine bodyPost_ret (results_none rfl _ _ _) rfl ?_)
 refine ⟨rfl, ?_, hc.out.fr⟩
 unfold Fq.writer
 simp only [hln.out]
 rw [if_neg (by decide)]
 exact e176) : P := h
theorem e92 {P : Prop} (h : P := by
 first | go_end0 | ((try simp only [Exit.inBlock, Exit.then]); refine bodyPost_ret (results_none rfl _ _ _) rfl ?_)
 refine ⟨rfl, ?_, hc.out.fr⟩
 unfold Fq.others
 exact e45) : P := h
theorem e93 {P : Prop} (h : P := by
 obtain ⟨hc, c4, c5, c6, c7⟩ := start h hO hn hop hln
 replace h := Lib.hid h
 replace hO := Lib.hid hO
 replace hn := Lib.hid hn
 replace hop := Lib.hid hop
 replace hln := Lib.hid hln
 go_enter Tryz.func123, Tryz.ntmps123
 go_upto_region 1 with (fail)
 go_quiet (fail)
 replace hc := Lib.hid (hc.out.drewN nq)
 have hcq := hc.out
 clear c4 c5 c6 c7
 generalize w.drewN nq = W0 at hcq ⊢
 replace hc := Lib.hid hcq
 clear hcq
 have c6 := hc.out.c6
 have c7 := hc.out.c7
 go_wp2_with (first
  | (go_at_call 112; (try clear c6); (try clear c7); go_must (refine load_step hc _ ?_; intro w1 f1 hc c6 c7; clear f1))
  | ((with_reducible refine gate_store rfl ?_); refine stA_step hc rfl rfl rfl rfl rfl rfl ?_; clear c6 c7; intro w1 f1 hc c6 c7; clear f1)
  | (go_at_call 105; (try clear c6); (try clear c7); go_must (refine note_step hc _ _ (by decide) ?_; intro w1 f1 hc c6 c7; clear f1))
  | (go_at_call 102; (try clear c6); (try clear c7); go_must (refine go_step hc _ ?_; intro w1 f1 hc c6 c7; clear f1))
  | (go_at_call 107; (try clear c6); (try clear c7); go_must (refine end_step hc _ ?_; intro w1 f1 hc c6 c7; clear f1)))
 first | go_end0 | ((try simp only [Exit.inBlock, Exit.then]); refine bodyPost_ret (results_none rfl _ _ _) rfl ?_)
 refine ⟨rfl, ?_, hc.out.fr⟩
 unfold Fq.decide_
 exact e35) : P := h
theorem e94 {P : Prop} (h : P := by
 obtain ⟨hc, c4, c5, c6, c7⟩ := start h hO hn hop hln
 replace h := Lib.hid h
 replace hO := Lib.hid hO
 replace hn := Lib.hid hn
 replace hop := Lib.hid hop
 replace hln := Lib.hid hln
 go_enter Tryz.func123, Tryz.ntmps123
 go_upto_region 1 with (fail)
 go_quiet (fail)
 replace hc := Lib.hid (hc.out.drewN nq)
 have hcq := hc.out
 clear c4 c5 c6 c7
 generalize w.drewN nq = W0 at hcq ⊢
 replace hc := Lib.hid hcq
 clear hcq
 have c6 := hc.out.c6
 have c7 := hc.out.c7
 go_wp2_with (first
  | (go_at_call 112; (try clear c6); (try clear c7); go_must (refine load_step hc _ ?_; intro w1 f1 hc c6 c7; clear f1))
  | ((with_reducible refine gate_store rfl ?_); refine stA_step hc rfl rfl rfl rfl rfl rfl ?_; clear c6 c7; intro w1 f1 hc c6 c7; clear f1)
  | (go_at_call 105; (try clear c6); (try clear c7); go_must (refine note_step hc _ _ (by decide) ?_; intro w1 f1 hc c6 c7; clear f1))
  | (go_at_call 102; (try clear c6); (try clear c7); go_must (refine go_step hc _ ?_; intro w1 f1 hc c6 c7; clear f1))
  | (go_at_call 107; (try clear c6); (try clear c7); go_must (refine end_step hc _ ?_; intro w1 f1 hc c6 c7; clear f1)))
 first | go_end0 | ((try simp only [Exit.inBlock, Exit.then]); refine bodyPost_ret (results_none rfl _ _ _) rfl ?_)
 refine ⟨rfl, ?_, hc.out.fr⟩
 unfold Fq.decide_
 exact e36) : P := h
theorem e95 {P : Prop} (h : P := by
 have hE : Fq.decide_ r = Fq.give r 6 false [8] := by unfold Fq.decide_; simp only [hop, hln]; simp only [Int.reduceEq, and_true, true_and, and_self, and_false, false_and, if_true, if_false, or_false, false_or, or_true, true_or]
 rw [hE]
 clear hE
 have hG := fun W (hA : At B W p pm g r) => fqgive1_walk hA hO hn (by decide) false 8 (by omega : r.f.line = 6 ∨ r.f.line = 6 + 1 ∨ r.f.line = 6 + 2 ∨ r.f.line = 6 + 3)
 obtain ⟨hc, c4, c5, c6, c7⟩ := start h hO hn hop hln
 replace h := Lib.hid h
 replace hO := Lib.hid hO
 replace hn := Lib.hid hn
 replace hop := Lib.hid hop
 replace hln := Lib.hid hln
 replace hG := Lib.hid hG
 go_enter Tryz.func123, Tryz.ntmps123
 go_upto_region 1 with (fail)
 go_quiet (fail)
 replace hc := Lib.hid (hc.out.drewN nq)
 have hcq := hc.out
 clear c4 c5 c6 c7
 generalize w.drewN nq = W0 at hcq ⊢
 go_wp2_with (go_at_call 122; go_must (refine (hG.out _ hcq.at_).mono ?_; rintro e w1 ⟨rfl, hA1, hF1⟩; replace hA1 := Lib.hid hA1; replace hF1 := Lib.hid hF1))
 first | go_end0 | ((try simp only [Exit.inBlock, Exit.then]); refine bodyPost_ret (results_none rfl _ _ _) rfl ?_)
 exact ⟨rfl, hA1.out, hcq.fr.trans hF1.out⟩) : P := h
theorem e96 {P : Prop} (h : P := by
 rw [hE]
 clear hE
 obtain ⟨hc, c4, c5, c6, c7⟩ := start h hO hn hop rfl
 have bl : decide (r.f.line ≤ 4) = true := decide_eq_true hb
 replace hb := Lib.hid hb
 replace h := Lib.hid h
 replace hO := Lib.hid hO
 replace hn := Lib.hid hn
 replace hop := Lib.hid hop
 replace hL := Lib.hid hL
 go_enter Tryz.func74, Tryz.ntmps74
 go_wp2_with (go_at_call 118; go_must (refine (hL.out _ hc.out.at_).mono ?_; rintro e w1 ⟨rfl, hA1, hF1⟩; replace hA1 := Lib.hid hA1; replace hF1 := Lib.hid hF1))
 exact e99) : P := h
theorem e97 {P : Prop} (h : P := by
 replace hb := Lib.hid hb
 replace h := Lib.hid h
 replace hO := Lib.hid hO
 replace hn := Lib.hid hn
 replace hop := Lib.hid hop
 replace hL := Lib.hid hL
 go_enter Tryz.func74, Tryz.ntmps74
 go_wp2_with (go_at_call 119; go_must (refine (hL.out _ hc.out.at_).mono ?_; rintro e w1 ⟨rfl, hA1, hF1⟩; replace hA1 := Lib.hid hA1; replace hF1 := Lib.hid hF1))
 exact e99) : P := h
theorem e98 {P : Prop} (h : P := by
 rw [hE]
 clear hE
 obtain ⟨hc, c4, c5, c6, c7⟩ := start h hO hn hop rfl
 have bl : decide (r.f.line ≤ 1) = true := decide_eq_true hb
 replace hb := Lib.hid hb
 replace h := Lib.hid h
 replace hO := Lib.hid hO
 replace hn := Lib.hid hn
 replace hop := Lib.hid hop
 replace hL := Lib.hid hL
 go_enter Tryz.func74, Tryz.ntmps74
 go_wp2_with (go_at_call 120; go_must (refine (hL.out _ hc.out.at_).mono ?_; rintro e w1 ⟨rfl, hA1, hF1⟩; replace hA1 := Lib.hid hA1; replace hF1 := Lib.hid hF1))
 exact e99) : P := h
theorem e99 {P : Prop} (h : P := by
 first | go_end0 | ((try simp only [Exit.inBlock, Exit.then]); refine bodyPost_ret (results_none rfl _ _ _) rfl ?_)
 exact ⟨rfl, hA1.out, hc.out.fr.trans hF1.out⟩) : P := h
theorem e100 {P : Prop} (h : P := by
 have hE : Fq.lines r = Fq.try_ r 2 2 := by unfold Fq.lines; simp only [hop, hb]; simp only [Int.reduceEq, and_true, true_and, and_self, and_false, false_and, if_true, if_false, or_false, false_or, or_true, true_or]; try rfl
 exact e98) : P := h
theorem e101 {P : Prop} (h : P := by
 have hE : Fq.lines r = Fq.decide_ r := by unfold Fq.lines; simp only [hop, hb]; simp only [Int.reduceEq, and_true, true_and, and_self, and_false, false_and, if_true, if_false, or_false, false_or, or_true, true_or]; try rfl
 rw [hE]
 clear hE
 obtain ⟨hc, c4, c5, c6, c7⟩ := start h hO hn hop rfl
 have bl : decide (r.f.line ≤ 1) = false := decide_eq_false hb
 replace hb := Lib.hid hb
 replace h := Lib.hid h
 replace hO := Lib.hid hO
 replace hn := Lib.hid hn
 replace hop := Lib.hid hop
 replace hL := Lib.hid hL
 go_enter Tryz.func74, Tryz.ntmps74
 go_wp2_with (go_at_call 123; go_must (refine (hL.out _ hc.out.at_).mono ?_; rintro e w1 ⟨rfl, hA1, hF1⟩; replace hA1 := Lib.hid hA1; replace hF1 := Lib.hid hF1))
 exact e99) : P := h
theorem e102 {P : Prop} (h : P := by
 have hE : Fq.lines r = Fq.others r := by unfold Fq.lines; simp only [hop]; simp only [Int.reduceEq, and_true, true_and, and_self, and_false, false_and, if_true, if_false, or_false, false_or, or_true, true_or]; try rfl
 rw [hE]
 clear hE
 obtain ⟨hc, c4, c5, c6, c7⟩ := start h hO hn hop rfl
 replace h := Lib.hid h
 replace hO := Lib.hid hO
 replace hn := Lib.hid hn
 replace hop := Lib.hid hop
 replace hL := Lib.hid hL
 go_enter Tryz.func74, Tryz.ntmps74
 go_wp2_with (go_at_call 124; go_must (refine (hL.out _ hc.out.at_).mono ?_; rintro e w1 ⟨rfl, hA1, hF1⟩; replace hA1 := Lib.hid hA1; replace hF1 := Lib.hid hF1))
 exact e99) : P := h
theorem e103 {P : Prop} (h : P := by
 exact fql_1e h hO hn hop (by omega) (fun W hA => fqenter_walk hA hO hn 1 (by omega))) : P := h
theorem e104 {P : Prop} (h : P := by
 exact fql_1r h hO hn hop (by omega) (fun W hA => fqr_give hA hO hn (by omega))) : P := h
theorem e105 {P : Prop} (h : P := by
 exact fql_5t h hO hn hop (by omega) (fun W hA => fqtry_walk hA hO hn 1 5 (by omega))) : P := h
theorem e106 {P : Prop} (h : P := by
 exact fql_5r h hO hn hop (by omega) (fun W hA => fqr_give hA hO hn (by omega))) : P := h
theorem e107 {P : Prop} (h : P := by
 exact fql_3e h hO hn hop (by omega) (fun W hA => fqenter_walk hA hO hn 2 (by omega))) : P := h
theorem e108 {P : Prop} (h : P := by
 exact fql_6t h hO hn hop (by omega) (fun W hA => fqtry_walk hA hO hn 2 2 (by omega))) : P := h
theorem e109 {P : Prop} (h : P := by
 exact fql_7t h hO hn hop (by omega) (fun W hA => fqtry_walk hA hO hn 2 2 (by omega))) : P := h
theorem e110 {P : Prop} (h : P := by
 exact fql_8 h hO hn hop (fun W hA => fqo_give hA hO hn hop (by omega))) : P := h
theorem fqenter_walk (h : At B w p pm g r) (hO : Ok r) (hn : r.notes = []) (cls : Int) (hl : r.f.line = 0 ∨ r.f.line = 1 ∨ r.f.line = 2 ∨ r.f.line = 3 ∨ r.f.line = 4) : Calls Tryz.prog 118 #[.pointer (some ⟨p, 0, none⟩), .int .i64 cls] w fun e w' => e = .returned (.tuple #[]) ∧ At B w' p pm g (Fq.enter r cls) ∧ Fr B p g w w' := by
 have hM := mxenter_lines h hO hn 0 cls hl
 have hE : Fq.enter r cls = if (Mx.enter r 0 cls).2 then (Mx.enter r 0 cls).1.go 5 else (Mx.enter r 0 cls).1 := rfl
 rw [hE]
 clear hE
 obtain ⟨t, ht⟩ : ∃ t, t = Mx.enter r 0 cls := ⟨_, rfl⟩
 rw [← ht] at hM ⊢
 obtain ⟨r1, b⟩ := t
 clear ht
 replace hM := Lib.hid hM
 replace h := Lib.hid h
 replace hO := Lib.hid hO
 replace hn := Lib.hid hn
 replace hl := Lib.hid hl
 cases b with
 | true =>
  show Calls _ _ _ w fun e w' => e = .returned (.tuple #[]) ∧ At B w' p pm g (r1.go 5) ∧ Fr B p g w w'
  go_enter Tryz.func118, Tryz.ntmps118
  go_wp2_with (first
   | (go_at_call 159; go_must (refine hM.out.mono ?_; rintro e w1 ⟨rfl, hA1, hF1⟩; replace hA1 := Lib.hid hA1; replace hF1 := Lib.hid hF1))
   | (go_at_call 102; go_must (refine (go_run hA1.out _).mono ?_; rintro e w2 ⟨rfl, hA2, hF2⟩; replace hA2 := Lib.hid hA2; replace hF2 := Lib.hid hF2)))
  first | go_end0 | ((try simp only [Exit.inBlock, Exit.then]); refine bodyPost_ret (results_none rfl _ _ _) rfl ?_)
  exact ⟨rfl, hA2.out, hF1.out.trans hF2.out⟩
 | false =>
  show Calls _ _ _ w fun e w' => e = .returned (.tuple #[]) ∧ At B w' p pm g r1 ∧ Fr B p g w w'
  go_enter Tryz.func118, Tryz.ntmps118
  go_wp2_with (go_at_call 159; go_must (refine hM.out.mono ?_; rintro e w1 ⟨rfl, hA1, hF1⟩; replace hA1 := Lib.hid hA1; replace hF1 := Lib.hid hF1))
  first | go_end0 | ((try simp only [Exit.inBlock, Exit.then]); refine bodyPost_ret (results_none rfl _ _ _) rfl ?_)
  exact ⟨rfl, hA1.out, hF1.out⟩
theorem fqgive_walk (h : At B w p pm g r) (hO : Ok r) (hn : r.notes = []) (ha : 0 ≤ a ∧ a ≤ 20) (ok : Bool) (hxl : xs.length ≤ 5) (hsb : w.heap[sb]? = some (.cells cs 3 (0, 0))) (hsc : ∀ i, i < xs.length → cs[i]? = some (.int .i64 (xs.getD i 0))) (hs1 : sb ≠ p) (hs2 : sb ≠ g) (hl : r.f.line = a ∨ r.f.line = a + 1 ∨ r.f.line = a + 2 ∨ r.f.line = a + 3) : Calls Tryz.prog 122 #[.pointer (some ⟨p, 0, none⟩), .int .i64 a, .bool ok, .slice (some ⟨sb, 0, none⟩) xs.length cap] w fun e w' => e = .returned (.tuple #[]) ∧ At B w' p pm g (Fq.give r a ok xs) ∧ Fr B p g w w' := by
 have hM := mxgive_lines (tail := 0) (cap := cap) h hO hn ha hxl hsb hsc hs1 hs2 hl
 have hE : Fq.give r a ok xs = if (Mx.give r 0 a xs).2 then (Mx.give r 0 a xs).1.fin ok else (Mx.give r 0 a xs).1 := rfl
 rw [hE]
 clear hE
 obtain ⟨t, ht⟩ : ∃ t, t = Mx.give r 0 a xs := ⟨_, rfl⟩
 rw [← ht] at hM ⊢
 obtain ⟨r1, b⟩ := t
 clear ht hsc hxl
 replace hM := Lib.hid hM
 replace h := Lib.hid h
 replace hO := Lib.hid hO
 replace hn := Lib.hid hn
 replace hl := Lib.hid hl
 replace ha := Lib.hid ha
 replace hsb := Lib.hid hsb
 cases b with
 | true =>
  show Calls _ _ _ w fun e w' => e = .returned (.tuple #[]) ∧ At B w' p pm g (r1.fin ok) ∧ Fr B p g w w'
  go_enter Tryz.func122, Tryz.ntmps122
  go_wp2_with (first
   | (go_at_call 160; go_must (refine hM.out.mono ?_; rintro e w1 ⟨rfl, hA1, hF1⟩; replace hA1 := Lib.hid hA1; replace hF1 := Lib.hid hF1))
   | (go_at_call 107; go_must (refine (end_run hA1.out _).mono ?_; rintro e w2 ⟨rfl, hA2, hF2⟩; replace hA2 := Lib.hid hA2; replace hF2 := Lib.hid hF2)))
  first | go_end0 | ((try simp only [Exit.inBlock, Exit.then]); refine bodyPost_ret (results_none rfl _ _ _) rfl ?_)
  exact ⟨rfl, hA2.out, hF1.out.trans hF2.out⟩
 | false =>
  show Calls _ _ _ w fun e w' => e = .returned (.tuple #[]) ∧ At B w' p pm g r1 ∧ Fr B p g w w'
  go_enter Tryz.func122, Tryz.ntmps122
  go_wp2_with (go_at_call 160; go_must (refine hM.out.mono ?_; rintro e w1 ⟨rfl, hA1, hF1⟩; replace hA1 := Lib.hid hA1; replace hF1 := Lib.hid hF1))
  first | go_end0 | ((try simp only [Exit.inBlock, Exit.then]); refine bodyPost_ret (results_none rfl _ _ _) rfl ?_)
  exact ⟨rfl, hA1.out, hF1.out⟩
theorem fqgive1_walk (h : At B w p pm g r) (hO : Ok r) (hn : r.notes = []) (ha : 0 ≤ a ∧ a ≤ 20) (ok : Bool) (x : Int) (hl : r.f.line = a ∨ r.f.line = a + 1 ∨ r.f.line = a + 2 ∨ r.f.line = a + 3) : Calls Tryz.prog 122 #[.pointer (some ⟨p, 0, none⟩), .int .i64 a, .bool ok, .slice (some ⟨w.heap.size, 0, none⟩) 1 1] (w.alloc (.cells #[.int .i64 x] 3)) fun e w' => e = .returned (.tuple #[]) ∧ At B w' p pm g (Fq.give r a ok [x]) ∧ Fr B p g w w' := by
 have h1 := h.lt
 have h2 := h.mem.lt.2
 refine (fqgive_walk (xs := [x]) (h.alloc (.cells #[.int .i64 x] 3)) hO hn ha ok (by simp) (heap_alloc_new _ _) (by intro i hi; obtain rfl : i = 0 := (by simp at hi; exact hi); rfl) (by omega) (by omega) hl).mono ?_
 exact e88
theorem fqgive2_walk (h : At B w p pm g r) (hO : Ok r) (hn : r.notes = []) (ha : 0 ≤ a ∧ a ≤ 20) (ok : Bool) (x y : Int) (hl : r.f.line = a ∨ r.f.line = a + 1 ∨ r.f.line = a + 2 ∨ r.f.line = a + 3) : Calls Tryz.prog 122 #[.pointer (some ⟨p, 0, none⟩), .int .i64 a, .bool ok, .slice (some ⟨w.heap.size, 0, none⟩) 2 2] (w.alloc (.cells #[.int .i64 x, .int .i64 y] 3)) fun e w' => e = .returned (.tuple #[]) ∧ At B w' p pm g (Fq.give r a ok [x, y]) ∧ Fr B p g w w' := by
 have h1 := h.lt
 have h2 := h.mem.lt.2
 refine (fqgive_walk (xs := [x, y]) (h.alloc (.cells #[.int .i64 x, .int .i64 y] 3)) hO hn ha ok (by simp) (heap_alloc_new _ _) (by intro i hi; rcases (by simp at hi; omega : i = 0 ∨ i = 1) with rfl | rfl <;> rfl) (by omega) (by omega) hl).mono ?_
 rintro e w1 ⟨rfl, ha, hf⟩
 exact ⟨rfl, ha, ((Fr.refl B p g w).alloc (.cells #[.int .i64 x, .int .i64 y] 3)).trans hf⟩
theorem fqtry_walk (h : At B w p pm g r) (hO : Ok r) (hn : r.notes = []) (cls next : Int) (hl : r.f.line = 0 ∨ r.f.line = 1) : Calls Tryz.prog 120 #[.pointer (some ⟨p, 0, none⟩), .int .i64 cls, .int .i64 next] w fun e w' => e = .returned (.tuple #[]) ∧ At B w' p pm g (Fq.try_ r cls next) ∧ Fr B p g w w' := by
 have hM := mxtry_lines (tail := 0) (a := 0) h hO hn (by decide) (by omega)
 have hN : (Mx.try_ r 0 0).1.notes.length ≤ 1000 := by
  have e : (Mx.try_ r 0 0).1.notes = r.notes := by unfold Mx.try_; split <;> first | rfl | (split <;> rfl)
  rw [e, hn]; decide
 have hE : Fq.try_ r cls next = if (Mx.try_ r 0 0).2.1 = false then (Mx.try_ r 0 0).1 else if (Mx.try_ r 0 0).2.2 then ((Mx.try_ r 0 0).1.note 2 cls).go next else ((Mx.try_ r 0 0).1.note 5 0).fin false := rfl
 rw [hE]
 clear hE
 obtain ⟨t, ht⟩ : ∃ t, t = Mx.try_ r 0 0 := ⟨_, rfl⟩
 rw [← ht] at hM hN ⊢
 obtain ⟨r1, d, b⟩ := t
 clear ht
 replace hM := Lib.hid hM
 replace h := Lib.hid h
 replace hO := Lib.hid hO
 replace hn := Lib.hid hn
 replace hl := Lib.hid hl
 replace hN := Lib.hid hN
 cases d with
 | false =>
  show Calls _ _ _ w fun e w' => e = .returned (.tuple #[]) ∧ At B w' p pm g r1 ∧ Fr B p g w w'
  go_enter Tryz.func120, Tryz.ntmps120
  go_wp2_with (go_at_call 161; go_must (refine hM.out.mono ?_; rintro e w1 ⟨rfl, hA1, hF1⟩; replace hA1 := Lib.hid hA1; replace hF1 := Lib.hid hF1))
  first | go_end0 | ((try simp only [Exit.inBlock, Exit.then]); refine bodyPost_ret (results_none rfl _ _ _) rfl ?_)
  exact ⟨rfl, hA1.out, hF1.out⟩
 | true =>
  cases b with
  | true =>
   show Calls _ _ _ w fun e w' => e = .returned (.tuple #[]) ∧ At B w' p pm g ((r1.note 2 cls).go next) ∧ Fr B p g w w'
   go_enter Tryz.func120, Tryz.ntmps120
   go_wp2_with (first
    | (go_at_call 161; go_must (refine hM.out.mono ?_; rintro e w1 ⟨rfl, hA1, hF1⟩; replace hA1 := Lib.hid hA1; replace hF1 := Lib.hid hF1))
    | (go_at_call 105; go_must (refine (note_run hA1.out _ _ hN.out).mono ?_; rintro e w2 ⟨rfl, hA2, hF2⟩; replace hA2 := Lib.hid hA2; replace hF2 := Lib.hid hF2))
    | (go_at_call 102; go_must (refine (go_run hA2.out _).mono ?_; rintro e w3 ⟨rfl, hA3, hF3⟩; replace hA3 := Lib.hid hA3; replace hF3 := Lib.hid hF3)))
   first | go_end0 | ((try simp only [Exit.inBlock, Exit.then]); refine bodyPost_ret (results_none rfl _ _ _) rfl ?_)
   exact ⟨rfl, hA3.out, (hF1.out.trans hF2.out).trans hF3.out⟩
  | false =>
   show Calls _ _ _ w fun e w' => e = .returned (.tuple #[]) ∧ At B w' p pm g ((r1.note 5 0).fin false) ∧ Fr B p g w w'
   go_enter Tryz.func120, Tryz.ntmps120
   go_wp2_with (first
    | (go_at_call 161; go_must (refine hM.out.mono ?_; rintro e w1 ⟨rfl, hA1, hF1⟩; replace hA1 := Lib.hid hA1; replace hF1 := Lib.hid hF1))
    | (go_at_call 105; go_must (refine (note_run hA1.out _ _ hN.out).mono ?_; rintro e w2 ⟨rfl, hA2, hF2⟩; replace hA2 := Lib.hid hA2; replace hF2 := Lib.hid hF2))
    | (go_at_call 107; go_must (refine (end_run hA2.out _).mono ?_; rintro e w3 ⟨rfl, hA3, hF3⟩; replace hA3 := Lib.hid hA3; replace hF3 := Lib.hid hF3)))
   first | go_end0 | ((try simp only [Exit.inBlock, Exit.then]); refine bodyPost_ret (results_none rfl _ _ _) rfl ?_)
   exact ⟨rfl, hA3.out, (hF1.out.trans hF2.out).trans hF3.out⟩
theorem fqzero_walk (v : Int) (w : World) : Calls Tryz.prog 164 #[.int .u32 v] w fun e w' => e = .returned (.bool (v == 0)) ∧ w' = w := by
 go_enter Tryz.func164, Tryz.ntmps164
 go_wp2
 go_ret
 exact ⟨rfl, rfl⟩
theorem fqzero_tells : Tells B p pm g r false (fun v => v == 0) 164 #[] w :=
 ⟨⟨_, Tryz.func164, rfl, rfl⟩, fun w1 v hv hf ha => (fqzero_walk v w1).mono (by rintro e w2 ⟨rfl, rfl⟩; exact ⟨rfl, ha, Fr.refl _ _ _ _⟩)⟩
theorem fqr_give (h : At B w p pm g r) (hO : Ok r) (hn : r.notes = []) (hl : r.f.line = 6 ∨ r.f.line = 6 + 1 ∨ r.f.line = 6 + 2 ∨ r.f.line = 6 + 3) : Calls Tryz.prog 119 #[.pointer (some ⟨p, 0, none⟩)] w fun e w' => e = .returned (.tuple #[]) ∧ At B w' p pm g (Fq.reader r) ∧ Fr B p g w w' := by
 have hE : Fq.reader r = Fq.give r 6 true [4] := by unfold Fq.reader; rw [if_neg (by omega)]
 rw [hE]
 clear hE
 have b5 : (r.f.line == 5) = false := beq_eq_false_iff_ne.mpr (by omega)
 have hG := fqgive1_walk h hO hn (by decide) true 4 hl
 obtain ⟨hc, c4, c5, c6, c7⟩ := start h hO hn rfl rfl
 replace h := Lib.hid h
 replace hO := Lib.hid hO
 replace hn := Lib.hid hn
 replace hl := Lib.hid hl
 replace hG := Lib.hid hG
 go_enter Tryz.func119, Tryz.ntmps119
 exact e89
theorem fqo_give (h : At B w p pm g r) (hO : Ok r) (hn : r.notes = []) (hop : r.f.op = 8) (hl : r.f.line = 1 ∨ r.f.line = 1 + 1 ∨ r.f.line = 1 + 2 ∨ r.f.line = 1 + 3) : Calls Tryz.prog 124 #[.pointer (some ⟨p, 0, none⟩)] w fun e w' => e = .returned (.tuple #[]) ∧ At B w' p pm g (Fq.others r) ∧ Fr B p g w w' := by
 have n0 : ¬ r.f.line = 0 := by omega
 have hE : Fq.others r = Fq.give r 1 true [10] := by unfold Fq.others; simp only [hop, n0]; simp only [Int.reduceEq, and_true, true_and, and_self, and_false, false_and, if_true, if_false, or_false, false_or, or_true, true_or]
 rw [hE]
 clear hE
 have b0 : (r.f.line == 0) = false := beq_eq_false_iff_ne.mpr n0
 have hG := fqgive1_walk h hO hn (by decide) true 10 hl
 obtain ⟨hc, c4, c5, c6, c7⟩ := start h hO hn hop rfl
 replace h := Lib.hid h
 replace hO := Lib.hid hO
 replace hn := Lib.hid hn
 replace hop := Lib.hid hop
 replace hl := Lib.hid hl
 replace n0 := Lib.hid n0
 replace hG := Lib.hid hG
 go_enter Tryz.func124, Tryz.ntmps124
 exact e89
set_option maxHeartbeats 4000000 in
theorem fqr_5 (h : At B w p pm g r) (hO : Ok r) (hn : r.notes = []) (hln : r.f.line = 5) : Calls Tryz.prog 119 #[.pointer (some ⟨p, 0, none⟩)] w fun e w' => e = .returned (.tuple #[]) ∧ At B w' p pm g (Fq.reader r) ∧ Fr B p g w w' := by
 obtain ⟨hc, c4, c5, c6, c7⟩ := start h hO hn rfl hln
 replace h := Lib.hid h
 replace hO := Lib.hid hO
 replace hn := Lib.hid hn
 replace hln := Lib.hid hln
 go_enter Tryz.func119, Tryz.ntmps119
 go_wp2_with (first
  | (go_at_call 104; (try clear c6); (try clear c7); go_must (refine add_step hc _ _ (by first | decide | exact w32_u32 _ | exact w32_pres _) ?_; intro w1 f1 hc c6 c7; clear f1))
  | (go_at_call 102; (try clear c6); (try clear c7); go_must (refine go_step hc _ ?_; intro w1 f1 hc c6 c7; clear f1)))
 first | go_end0 | ((try simp only [Exit.inBlock, Exit.then]); refine bodyPost_ret (results_none rfl _ _ _) rfl ?_)
 refine ⟨rfl, ?_, hc.out.fr⟩
 unfold Fq.reader
 exact e90
set_option maxHeartbeats 4000000 in
theorem fqw_t_t (h : At B w p pm g r) (hO : Ok r) (hn : r.notes = []) (hln : r.f.line = 5) (hs : (r.waited 1 (fun v => v == 0)).seen = true) (hd : (r.waited 1 (fun v => v == 0)).done = true) : Calls Tryz.prog 121 #[.pointer (some ⟨p, 0, none⟩)] w fun e w' => e = .returned (.tuple #[]) ∧ At B w' p pm g (Fq.writer r) ∧ Fr B p g w w' := e91
set_option maxHeartbeats 4000000 in
theorem fqw_t_f (h : At B w p pm g r) (hO : Ok r) (hn : r.notes = []) (hln : r.f.line = 5) (hs : (r.waited 1 (fun v => v == 0)).seen = true) (hd : (r.waited 1 (fun v => v == 0)).done = false) : Calls Tryz.prog 121 #[.pointer (some ⟨p, 0, none⟩)] w fun e w' => e = .returned (.tuple #[]) ∧ At B w' p pm g (Fq.writer r) ∧ Fr B p g w w' := e91
set_option maxHeartbeats 4000000 in
theorem fqw_f_t (h : At B w p pm g r) (hO : Ok r) (hn : r.notes = []) (hln : r.f.line = 5) (hs : (r.waited 1 (fun v => v == 0)).seen = false) (hd : (r.waited 1 (fun v => v == 0)).done = true) : Calls Tryz.prog 121 #[.pointer (some ⟨p, 0, none⟩)] w fun e w' => e = .returned (.tuple #[]) ∧ At B w' p pm g (Fq.writer r) ∧ Fr B p g w w' := e91
set_option maxHeartbeats 4000000 in
theorem fqw_f_f (h : At B w p pm g r) (hO : Ok r) (hn : r.notes = []) (hln : r.f.line = 5) (hs : (r.waited 1 (fun v => v == 0)).seen = false) (hd : (r.waited 1 (fun v => v == 0)).done = false) : Calls Tryz.prog 121 #[.pointer (some ⟨p, 0, none⟩)] w fun e w' => e = .returned (.tuple #[]) ∧ At B w' p pm g (Fq.writer r) ∧ Fr B p g w w' := e91
set_option maxHeartbeats 4000000 in
theorem fqo_2_0 (h : At B w p pm g r) (hO : Ok r) (hn : r.notes = []) (hop : r.f.op = 2) (hln : r.f.line = 0) : Calls Tryz.prog 124 #[.pointer (some ⟨p, 0, none⟩)] w fun e w' => e = .returned (.tuple #[]) ∧ At B w' p pm g (Fq.others r) ∧ Fr B p g w w' := by
 obtain ⟨hc, c4, c5, c6, c7⟩ := start h hO hn hop hln
 replace h := Lib.hid h
 replace hO := Lib.hid hO
 replace hn := Lib.hid hn
 replace hop := Lib.hid hop
 replace hln := Lib.hid hln
 go_enter Tryz.func124, Tryz.ntmps124
 go_wp2_with (first
  | (go_at_call 104; (try clear c6); (try clear c7); go_must (refine add_step hc _ _ (by first | decide | exact w32_u32 _ | exact w32_pres _) ?_; intro w1 f1 hc c6 c7; clear f1))
  | (go_at_call 105; (try clear c6); (try clear c7); go_must (refine note_step hc _ _ (by decide) ?_; intro w1 f1 hc c6 c7; clear f1))
  | (go_at_call 106; (try clear c6); (try clear c7); go_must (refine wake_step hc _ ?_; intro w1 f1 hc c6 c7; clear f1))
  | (go_at_call 107; (try clear c6); (try clear c7); go_must (refine end_step hc _ ?_; intro w1 f1 hc c6 c7; clear f1)))
 exact e92
set_option maxHeartbeats 4000000 in
theorem fqo_8_0 (h : At B w p pm g r) (hO : Ok r) (hn : r.notes = []) (hop : r.f.op = 8) (hln : r.f.line = 0) : Calls Tryz.prog 124 #[.pointer (some ⟨p, 0, none⟩)] w fun e w' => e = .returned (.tuple #[]) ∧ At B w' p pm g (Fq.others r) ∧ Fr B p g w w' := by
 obtain ⟨hc, c4, c5, c6, c7⟩ := start h hO hn hop hln
 replace h := Lib.hid h
 replace hO := Lib.hid hO
 replace hn := Lib.hid hn
 replace hop := Lib.hid hop
 replace hln := Lib.hid hln
 go_enter Tryz.func124, Tryz.ntmps124
 go_wp2_with (first
  | (go_at_call 104; (try clear c6); (try clear c7); go_must (refine add_step hc _ _ (by first | decide | exact w32_u32 _ | exact w32_pres _) ?_; intro w1 f1 hc c6 c7; clear f1))
  | (go_at_call 102; (try clear c6); (try clear c7); go_must (refine go_step hc _ ?_; intro w1 f1 hc c6 c7; clear f1)))
 exact e92
set_option maxHeartbeats 4000000 in
theorem fqd_6_2_t (h : At B w p pm g r) (hO : Ok r) (hn : r.notes = []) (hop : r.f.op = 6) (hln : r.f.line = 2) (hz : ((r.load 1).old == 0) = true) : Calls Tryz.prog 123 #[.pointer (some ⟨p, 0, none⟩)] w fun e w' => e = .returned (.tuple #[]) ∧ At B w' p pm g (Fq.decide_ r) ∧ Fr B p g w w' := e93
set_option maxHeartbeats 4000000 in
theorem fqd_6_2_f (h : At B w p pm g r) (hO : Ok r) (hn : r.notes = []) (hop : r.f.op = 6) (hln : r.f.line = 2) (hz : ((r.load 1).old == 0) = false) : Calls Tryz.prog 123 #[.pointer (some ⟨p, 0, none⟩)] w fun e w' => e = .returned (.tuple #[]) ∧ At B w' p pm g (Fq.decide_ r) ∧ Fr B p g w w' := e94
set_option maxHeartbeats 4000000 in
theorem fqd_7_2_t (h : At B w p pm g r) (hO : Ok r) (hn : r.notes = []) (hop : r.f.op = 7) (hln : r.f.line = 2) (hz : ((r.load 1).old == 1) = true) : Calls Tryz.prog 123 #[.pointer (some ⟨p, 0, none⟩)] w fun e w' => e = .returned (.tuple #[]) ∧ At B w' p pm g (Fq.decide_ r) ∧ Fr B p g w w' := e93
set_option maxHeartbeats 4000000 in
theorem fqd_7_2_f (h : At B w p pm g r) (hO : Ok r) (hn : r.notes = []) (hop : r.f.op = 7) (hln : r.f.line = 2) (hz : ((r.load 1).old == 1) = false) : Calls Tryz.prog 123 #[.pointer (some ⟨p, 0, none⟩)] w fun e w' => e = .returned (.tuple #[]) ∧ At B w' p pm g (Fq.decide_ r) ∧ Fr B p g w w' := e94
set_option maxHeartbeats 4000000 in
theorem fqd_7_3 (h : At B w p pm g r) (hO : Ok r) (hn : r.notes = []) (hop : r.f.op = 7) (hln : r.f.line = 3) : Calls Tryz.prog 123 #[.pointer (some ⟨p, 0, none⟩)] w fun e w' => e = .returned (.tuple #[]) ∧ At B w' p pm g (Fq.decide_ r) ∧ Fr B p g w w' := by
 obtain ⟨hc, c4, c5, c6, c7⟩ := start h hO hn hop hln
 replace h := Lib.hid h
 replace hO := Lib.hid hO
 replace hn := Lib.hid hn
 replace hop := Lib.hid hop
 replace hln := Lib.hid hln
 go_enter Tryz.func123, Tryz.ntmps123
 go_upto_region 1 with (fail)
 go_quiet (fail)
 replace hc := Lib.hid (hc.out.drewN nq)
 have hcq := hc.out
 clear c4 c5 c6 c7
 generalize w.drewN nq = W0 at hcq ⊢
 replace hc := Lib.hid hcq
 clear hcq
 have c6 := hc.out.c6
 have c7 := hc.out.c7
 go_wp2_with (first
  | (go_at_call 104; (try clear c6); (try clear c7); go_must (refine add_step hc _ _ (by first | decide | exact w32_u32 _ | exact w32_pres _) ?_; intro w1 f1 hc c6 c7; clear f1))
  | (go_at_call 105; (try clear c6); (try clear c7); go_must (refine note_step hc _ _ (by decide) ?_; intro w1 f1 hc c6 c7; clear f1))
  | (go_at_call 107; (try clear c6); (try clear c7); go_must (refine end_step hc _ ?_; intro w1 f1 hc c6 c7; clear f1)))
 first | go_end0 | ((try simp only [Exit.inBlock, Exit.then]); refine bodyPost_ret (results_none rfl _ _ _) rfl ?_)
 refine ⟨rfl, ?_, hc.out.fr⟩
 unfold Fq.decide_
 exact e45
theorem fqd_give_6_6 (h : At B w p pm g r) (hO : Ok r) (hn : r.notes = []) (hop : r.f.op = 6) (hln : r.f.line = 6) : Calls Tryz.prog 123 #[.pointer (some ⟨p, 0, none⟩)] w fun e w' => e = .returned (.tuple #[]) ∧ At B w' p pm g (Fq.decide_ r) ∧ Fr B p g w w' := e95
theorem fqd_give_6_7 (h : At B w p pm g r) (hO : Ok r) (hn : r.notes = []) (hop : r.f.op = 6) (hln : r.f.line = 7) : Calls Tryz.prog 123 #[.pointer (some ⟨p, 0, none⟩)] w fun e w' => e = .returned (.tuple #[]) ∧ At B w' p pm g (Fq.decide_ r) ∧ Fr B p g w w' := e95
theorem fqd_give_6_8 (h : At B w p pm g r) (hO : Ok r) (hn : r.notes = []) (hop : r.f.op = 6) (hln : r.f.line = 8) : Calls Tryz.prog 123 #[.pointer (some ⟨p, 0, none⟩)] w fun e w' => e = .returned (.tuple #[]) ∧ At B w' p pm g (Fq.decide_ r) ∧ Fr B p g w w' := e95
theorem fqd_give_6_9 (h : At B w p pm g r) (hO : Ok r) (hn : r.notes = []) (hop : r.f.op = 6) (hln : r.f.line = 9) : Calls Tryz.prog 123 #[.pointer (some ⟨p, 0, none⟩)] w fun e w' => e = .returned (.tuple #[]) ∧ At B w' p pm g (Fq.decide_ r) ∧ Fr B p g w w' := e95
theorem fqd_give_7_6 (h : At B w p pm g r) (hO : Ok r) (hn : r.notes = []) (hop : r.f.op = 7) (hln : r.f.line = 6) : Calls Tryz.prog 123 #[.pointer (some ⟨p, 0, none⟩)] w fun e w' => e = .returned (.tuple #[]) ∧ At B w' p pm g (Fq.decide_ r) ∧ Fr B p g w w' := e95
theorem fqd_give_7_7 (h : At B w p pm g r) (hO : Ok r) (hn : r.notes = []) (hop : r.f.op = 7) (hln : r.f.line = 7) : Calls Tryz.prog 123 #[.pointer (some ⟨p, 0, none⟩)] w fun e w' => e = .returned (.tuple #[]) ∧ At B w' p pm g (Fq.decide_ r) ∧ Fr B p g w w' := e95
theorem fqd_give_7_8 (h : At B w p pm g r) (hO : Ok r) (hn : r.notes = []) (hop : r.f.op = 7) (hln : r.f.line = 8) : Calls Tryz.prog 123 #[.pointer (some ⟨p, 0, none⟩)] w fun e w' => e = .returned (.tuple #[]) ∧ At B w' p pm g (Fq.decide_ r) ∧ Fr B p g w w' := e95
theorem fqd_give_7_9 (h : At B w p pm g r) (hO : Ok r) (hn : r.notes = []) (hop : r.f.op = 7) (hln : r.f.line = 9) : Calls Tryz.prog 123 #[.pointer (some ⟨p, 0, none⟩)] w fun e w' => e = .returned (.tuple #[]) ∧ At B w' p pm g (Fq.decide_ r) ∧ Fr B p g w w' := e95
theorem fql_1e (h : At B w p pm g r) (hO : Ok r) (hn : r.notes = []) (hop : r.f.op = 1) (hb : r.f.line ≤ 4) (hL : ∀ W, At B W p pm g r → Calls Tryz.prog 118 #[.pointer (some ⟨p, 0, none⟩), .int .i64 1] W fun e w' => e = .returned (.tuple #[]) ∧ At B w' p pm g (Fq.enter r 1) ∧ Fr B p g W w') : Calls Tryz.prog 74 #[.pointer (some ⟨p, 0, none⟩)] w fun e w' => e = .returned (.tuple #[]) ∧ At B w' p pm g (Fq.lines r) ∧ Fr B p g w w' := by
 have hE : Fq.lines r = Fq.enter r 1 := by unfold Fq.lines; simp only [hop, hb]; simp only [Int.reduceEq, and_true, true_and, and_self, and_false, false_and, if_true, if_false, or_false, false_or, or_true, true_or]; try rfl
 exact e96
theorem fql_1r (h : At B w p pm g r) (hO : Ok r) (hn : r.notes = []) (hop : r.f.op = 1) (hb : ¬ r.f.line ≤ 4) (hL : ∀ W, At B W p pm g r → Calls Tryz.prog 119 #[.pointer (some ⟨p, 0, none⟩)] W fun e w' => e = .returned (.tuple #[]) ∧ At B w' p pm g (Fq.reader r) ∧ Fr B p g W w') : Calls Tryz.prog 74 #[.pointer (some ⟨p, 0, none⟩)] w fun e w' => e = .returned (.tuple #[]) ∧ At B w' p pm g (Fq.lines r) ∧ Fr B p g w w' := by
 have hE : Fq.lines r = Fq.reader r := by unfold Fq.lines; simp only [hop, hb]; simp only [Int.reduceEq, and_true, true_and, and_self, and_false, false_and, if_true, if_false, or_false, false_or, or_true, true_or]; try rfl
 rw [hE]
 clear hE
 obtain ⟨hc, c4, c5, c6, c7⟩ := start h hO hn hop rfl
 have bl : decide (r.f.line ≤ 4) = false := decide_eq_false hb
 exact e97
theorem fql_5t (h : At B w p pm g r) (hO : Ok r) (hn : r.notes = []) (hop : r.f.op = 5) (hb : r.f.line ≤ 1) (hL : ∀ W, At B W p pm g r → Calls Tryz.prog 120 #[.pointer (some ⟨p, 0, none⟩), .int .i64 1, .int .i64 5] W fun e w' => e = .returned (.tuple #[]) ∧ At B w' p pm g (Fq.try_ r 1 5) ∧ Fr B p g W w') : Calls Tryz.prog 74 #[.pointer (some ⟨p, 0, none⟩)] w fun e w' => e = .returned (.tuple #[]) ∧ At B w' p pm g (Fq.lines r) ∧ Fr B p g w w' := by
 have hE : Fq.lines r = Fq.try_ r 1 5 := by unfold Fq.lines; simp only [hop, hb]; simp only [Int.reduceEq, and_true, true_and, and_self, and_false, false_and, if_true, if_false, or_false, false_or, or_true, true_or]; try rfl
 exact e98
theorem fql_5r (h : At B w p pm g r) (hO : Ok r) (hn : r.notes = []) (hop : r.f.op = 5) (hb : ¬ r.f.line ≤ 1) (hL : ∀ W, At B W p pm g r → Calls Tryz.prog 119 #[.pointer (some ⟨p, 0, none⟩)] W fun e w' => e = .returned (.tuple #[]) ∧ At B w' p pm g (Fq.reader r) ∧ Fr B p g W w') : Calls Tryz.prog 74 #[.pointer (some ⟨p, 0, none⟩)] w fun e w' => e = .returned (.tuple #[]) ∧ At B w' p pm g (Fq.lines r) ∧ Fr B p g w w' := by
 have hE : Fq.lines r = Fq.reader r := by unfold Fq.lines; simp only [hop, hb]; simp only [Int.reduceEq, and_true, true_and, and_self, and_false, false_and, if_true, if_false, or_false, false_or, or_true, true_or]; try rfl
 rw [hE]
 clear hE
 obtain ⟨hc, c4, c5, c6, c7⟩ := start h hO hn hop rfl
 have bl : decide (r.f.line ≤ 1) = false := decide_eq_false hb
 exact e97
theorem fql_3e (h : At B w p pm g r) (hO : Ok r) (hn : r.notes = []) (hop : r.f.op = 3) (hb : r.f.line ≤ 4) (hL : ∀ W, At B W p pm g r → Calls Tryz.prog 118 #[.pointer (some ⟨p, 0, none⟩), .int .i64 2] W fun e w' => e = .returned (.tuple #[]) ∧ At B w' p pm g (Fq.enter r 2) ∧ Fr B p g W w') : Calls Tryz.prog 74 #[.pointer (some ⟨p, 0, none⟩)] w fun e w' => e = .returned (.tuple #[]) ∧ At B w' p pm g (Fq.lines r) ∧ Fr B p g w w' := by
 have hE : Fq.lines r = Fq.enter r 2 := by unfold Fq.lines; simp only [hop, hb]; simp only [Int.reduceEq, and_true, true_and, and_self, and_false, false_and, if_true, if_false, or_false, false_or, or_true, true_or]; try rfl
 exact e96
theorem fql_3w (h : At B w p pm g r) (hO : Ok r) (hn : r.notes = []) (hop : r.f.op = 3) (hb : ¬ r.f.line ≤ 4) (hL : ∀ W, At B W p pm g r → Calls Tryz.prog 121 #[.pointer (some ⟨p, 0, none⟩)] W fun e w' => e = .returned (.tuple #[]) ∧ At B w' p pm g (Fq.writer r) ∧ Fr B p g W w') : Calls Tryz.prog 74 #[.pointer (some ⟨p, 0, none⟩)] w fun e w' => e = .returned (.tuple #[]) ∧ At B w' p pm g (Fq.lines r) ∧ Fr B p g w w' := by
 have hE : Fq.lines r = Fq.writer r := by unfold Fq.lines; simp only [hop, hb]; simp only [Int.reduceEq, and_true, true_and, and_self, and_false, false_and, if_true, if_false, or_false, false_or, or_true, true_or]; try rfl
 rw [hE]
 clear hE
 obtain ⟨hc, c4, c5, c6, c7⟩ := start h hO hn hop rfl
 have bl : decide (r.f.line ≤ 4) = false := decide_eq_false hb
 replace hb := Lib.hid hb
 replace h := Lib.hid h
 replace hO := Lib.hid hO
 replace hn := Lib.hid hn
 replace hop := Lib.hid hop
 replace hL := Lib.hid hL
 go_enter Tryz.func74, Tryz.ntmps74
 go_wp2_with (go_at_call 121; go_must (refine (hL.out _ hc.out.at_).mono ?_; rintro e w1 ⟨rfl, hA1, hF1⟩; replace hA1 := Lib.hid hA1; replace hF1 := Lib.hid hF1))
 exact e99
theorem fql_6t (h : At B w p pm g r) (hO : Ok r) (hn : r.notes = []) (hop : r.f.op = 6) (hb : r.f.line ≤ 1) (hL : ∀ W, At B W p pm g r → Calls Tryz.prog 120 #[.pointer (some ⟨p, 0, none⟩), .int .i64 2, .int .i64 2] W fun e w' => e = .returned (.tuple #[]) ∧ At B w' p pm g (Fq.try_ r 2 2) ∧ Fr B p g W w') : Calls Tryz.prog 74 #[.pointer (some ⟨p, 0, none⟩)] w fun e w' => e = .returned (.tuple #[]) ∧ At B w' p pm g (Fq.lines r) ∧ Fr B p g w w' := e100
theorem fql_6d (h : At B w p pm g r) (hO : Ok r) (hn : r.notes = []) (hop : r.f.op = 6) (hb : ¬ r.f.line ≤ 1) (hL : ∀ W, At B W p pm g r → Calls Tryz.prog 123 #[.pointer (some ⟨p, 0, none⟩)] W fun e w' => e = .returned (.tuple #[]) ∧ At B w' p pm g (Fq.decide_ r) ∧ Fr B p g W w') : Calls Tryz.prog 74 #[.pointer (some ⟨p, 0, none⟩)] w fun e w' => e = .returned (.tuple #[]) ∧ At B w' p pm g (Fq.lines r) ∧ Fr B p g w w' := e101
theorem fql_7t (h : At B w p pm g r) (hO : Ok r) (hn : r.notes = []) (hop : r.f.op = 7) (hb : r.f.line ≤ 1) (hL : ∀ W, At B W p pm g r → Calls Tryz.prog 120 #[.pointer (some ⟨p, 0, none⟩), .int .i64 2, .int .i64 2] W fun e w' => e = .returned (.tuple #[]) ∧ At B w' p pm g (Fq.try_ r 2 2) ∧ Fr B p g W w') : Calls Tryz.prog 74 #[.pointer (some ⟨p, 0, none⟩)] w fun e w' => e = .returned (.tuple #[]) ∧ At B w' p pm g (Fq.lines r) ∧ Fr B p g w w' := e100
theorem fql_7d (h : At B w p pm g r) (hO : Ok r) (hn : r.notes = []) (hop : r.f.op = 7) (hb : ¬ r.f.line ≤ 1) (hL : ∀ W, At B W p pm g r → Calls Tryz.prog 123 #[.pointer (some ⟨p, 0, none⟩)] W fun e w' => e = .returned (.tuple #[]) ∧ At B w' p pm g (Fq.decide_ r) ∧ Fr B p g W w') : Calls Tryz.prog 74 #[.pointer (some ⟨p, 0, none⟩)] w fun e w' => e = .returned (.tuple #[]) ∧ At B w' p pm g (Fq.lines r) ∧ Fr B p g w w' := e101
theorem fql_2 (h : At B w p pm g r) (hO : Ok r) (hn : r.notes = []) (hop : r.f.op = 2) (hL : ∀ W, At B W p pm g r → Calls Tryz.prog 124 #[.pointer (some ⟨p, 0, none⟩)] W fun e w' => e = .returned (.tuple #[]) ∧ At B w' p pm g (Fq.others r) ∧ Fr B p g W w') : Calls Tryz.prog 74 #[.pointer (some ⟨p, 0, none⟩)] w fun e w' => e = .returned (.tuple #[]) ∧ At B w' p pm g (Fq.lines r) ∧ Fr B p g w w' := e102
theorem fql_8 (h : At B w p pm g r) (hO : Ok r) (hn : r.notes = []) (hop : r.f.op = 8) (hL : ∀ W, At B W p pm g r → Calls Tryz.prog 124 #[.pointer (some ⟨p, 0, none⟩)] W fun e w' => e = .returned (.tuple #[]) ∧ At B w' p pm g (Fq.others r) ∧ Fr B p g W w') : Calls Tryz.prog 74 #[.pointer (some ⟨p, 0, none⟩)] w fun e w' => e = .returned (.tuple #[]) ∧ At B w' p pm g (Fq.lines r) ∧ Fr B p g w w' := e102
theorem fql_4 (h : At B w p pm g r) (hO : Ok r) (hn : r.notes = []) (hop : r.f.op = 4) (hl : r.f.line = 0 ∨ r.f.line = 0 + 1 ∨ r.f.line = 0 + 2 ∨ r.f.line = 0 + 3) : Calls Tryz.prog 74 #[.pointer (some ⟨p, 0, none⟩)] w fun e w' => e = .returned (.tuple #[]) ∧ At B w' p pm g (Fq.lines r) ∧ Fr B p g w w' := by
 have hE : Fq.lines r = Fq.give r 0 true [7, 8] := by unfold Fq.lines; simp only [hop]; simp only [Int.reduceEq, and_true, true_and, and_self, and_false, false_and, if_true, if_false, or_false, false_or, or_true, true_or]; try rfl
 rw [hE]
 clear hE
 have hG := fun W (hA : At B W p pm g r) => fqgive2_walk hA hO hn (by decide) true 7 8 hl
 obtain ⟨hc, c4, c5, c6, c7⟩ := start h hO hn hop rfl
 replace h := Lib.hid h
 replace hO := Lib.hid hO
 replace hn := Lib.hid hn
 replace hop := Lib.hid hop
 replace hl := Lib.hid hl
 replace hG := Lib.hid hG
 go_enter Tryz.func74, Tryz.ntmps74
 go_wp2_with (go_at_call 122; go_must (refine (hG.out _ hc.out.at_).mono ?_; rintro e w1 ⟨rfl, hA1, hF1⟩; replace hA1 := Lib.hid hA1; replace hF1 := Lib.hid hF1))
 exact e99
theorem fq_lines (h : At B w p pm g r) (hO : Ok r) (hn : r.notes = []) (hv : Fq.Valid r.f.op r.f.line) : Calls Tryz.prog 74 #[.pointer (some ⟨p, 0, none⟩)] w fun e w' => e = .returned (.tuple #[]) ∧ At B w' p pm g (Fq.lines r) ∧ Fr B p g w w' := by
 rcases hv with ⟨hop, hln⟩ | ⟨hop, hln⟩ | ⟨hop, hln⟩ | ⟨hop, hln⟩ | ⟨hop, hln⟩ | ⟨hop, hln⟩ | ⟨hop, hln⟩ | ⟨hop, hln⟩ | ⟨hop, hln⟩ | ⟨hop, hln⟩ | ⟨hop, hln⟩ | ⟨hop, hln⟩ | ⟨hop, hln⟩ | ⟨hop, hln⟩ | ⟨hop, hln⟩ | ⟨hop, hln⟩ | ⟨hop, hln⟩ | ⟨hop, hln⟩ | ⟨hop, hln⟩ | ⟨hop, hln⟩ | ⟨hop, hln⟩ | ⟨hop, hln⟩ | ⟨hop, hln⟩ | ⟨hop, hln⟩ | ⟨hop, hln⟩ | ⟨hop, hln⟩ | ⟨hop, hln⟩ | ⟨hop, hln⟩ | ⟨hop, hln⟩ | ⟨hop, hln⟩ | ⟨hop, hln⟩ | ⟨hop, hln⟩ | ⟨hop, hln⟩ | ⟨hop, hln⟩ | ⟨hop, hln⟩ | ⟨hop, hln⟩ | ⟨hop, hln⟩ | ⟨hop, hln⟩ | ⟨hop, hln⟩ | ⟨hop, hln⟩ | ⟨hop, hln⟩ | ⟨hop, hln⟩ | ⟨hop, hln⟩ | ⟨hop, hln⟩ | ⟨hop, hln⟩ | ⟨hop, hln⟩ | ⟨hop, hln⟩ | ⟨hop, hln⟩
 ·exact e103
 ·exact e103
 ·exact e103
 ·exact e103
 ·exact e103
 ·exact fql_1r h hO hn hop (by omega) (fun W hA => fqr_5 hA hO hn hln)
 ·exact e104
 ·exact e104
 ·exact e104
 ·exact e104
 ·exact e105
 ·exact e105
 ·exact fql_5r h hO hn hop (by omega) (fun W hA => fqr_5 hA hO hn hln)
 ·exact e106
 ·exact e106
 ·exact e106
 ·exact e106
 ·exact e107
 ·exact e107
 ·exact e107
 ·exact e107
 ·exact e107
 ·refine fql_3w h hO hn hop (by omega) (fun W hA => ?_)
  cases hs : (r.waited 1 (fun v => v == 0)).seen <;> cases hd : (r.waited 1 (fun v => v == 0)).done
  ·exact fqw_f_f hA hO hn hln hs hd
  ·exact fqw_f_t hA hO hn hln hs hd
  ·exact fqw_t_f hA hO hn hln hs hd
  ·exact fqw_t_t hA hO hn hln hs hd
 ·exact fql_4 h hO hn hop (by omega)
 ·exact fql_4 h hO hn hop (by omega)
 ·exact fql_4 h hO hn hop (by omega)
 ·exact fql_4 h hO hn hop (by omega)
 ·exact e108
 ·exact e108
 ·refine fql_6d h hO hn hop (by omega) (fun W hA => ?_)
  cases hz : ((r.load 1).old == 0)
  ·exact fqd_6_2_f hA hO hn hop hln hz
  ·exact fqd_6_2_t hA hO hn hop hln hz
 ·exact fql_6d h hO hn hop (by omega) (fun W hA => fqd_give_6_6 hA hO hn hop hln)
 ·exact fql_6d h hO hn hop (by omega) (fun W hA => fqd_give_6_7 hA hO hn hop hln)
 ·exact fql_6d h hO hn hop (by omega) (fun W hA => fqd_give_6_8 hA hO hn hop hln)
 ·exact fql_6d h hO hn hop (by omega) (fun W hA => fqd_give_6_9 hA hO hn hop hln)
 ·exact e109
 ·exact e109
 ·refine fql_7d h hO hn hop (by omega) (fun W hA => ?_)
  cases hz : ((r.load 1).old == 1)
  ·exact fqd_7_2_f hA hO hn hop hln hz
  ·exact fqd_7_2_t hA hO hn hop hln hz
 ·exact fql_7d h hO hn hop (by omega) (fun W hA => fqd_7_3 hA hO hn hop hln)
 ·exact fql_7d h hO hn hop (by omega) (fun W hA => fqd_give_7_6 hA hO hn hop hln)
 ·exact fql_7d h hO hn hop (by omega) (fun W hA => fqd_give_7_7 hA hO hn hop hln)
 ·exact fql_7d h hO hn hop (by omega) (fun W hA => fqd_give_7_8 hA hO hn hop hln)
 ·exact fql_7d h hO hn hop (by omega) (fun W hA => fqd_give_7_9 hA hO hn hop hln)
 ·exact fql_2 h hO hn hop (fun W hA => fqo_2_0 hA hO hn hop hln)
 ·exact fql_8 h hO hn hop (fun W hA => fqo_8_0 hA hO hn hop hln)
 ·exact e110
 ·exact e110
 ·exact e110
 ·exact e110
end Go.Proofs.YtkmlefbdhdlfmaaGreat.Wo
