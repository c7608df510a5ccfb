/- Steps of regions whose side goals prove themselves; ends of proofs that several proofs share. -/
import Derived.BigQuiet
import Derived.Deep.DeepMust
import Derived.Deep.QuietTactic
import Derived.Deep.RegionHeld3
import Derived.Laws.CopyRow
import Derived.Lib.AppendZerosOnto
import Derived.Lib.Hide
import Derived.Lib.Overlaps
import Derived.LoopTactic
import Derived.StillTailTactics
import Derived.WalkSpells
import Derived.Test.YtkmlefbdhdlfmaaGreatProg
import Derived.Test.YtkmlefbdhdlfmaaGreatWMore
import Derived.Test.YtkmlefbdhdlfmaaGreatWLast
namespace Go.Proofs.YtkmlefbdhdlfmaaGreat.Wo
open Go.RowKit Go.Proofs.YtkmlefbdhdlfmaaGreatW.PrintWords Go.Proofs.YtkmlefbdhdlfmaaGreatW.PrintMore Go.Proofs.YtkmlefbdhdlfmaaGreatW.PrintLast
set_option linter.unusedSimpArgs false
set_option linter.unusedVariables false
set_option maxRecDepth 100000
def mk (n m : Nat) : Array Bool := ((List.range n).map (fun i => m.testBit i)).toArray
theorem pu_ {P : Program} {ops : Array Oper} {Q : Exit → Act → World → Prop} {md : Region.Mode} {S : World → Prop} {ds : List Nat} {oi : Oper} {v : Value} {fuel : Nat} {l : Array Bool} {a a' : Act} {w : World} (i N : Nat) (l' : Array Bool) (hi : ops[i]? = some oi) (hN : oi.dst = some N) (h : wpAnyLast P md ops Q S ds fuel l' a' w) (hc : anyB md ops l l' i = true := by kernel_rfl) (hQ : ∀ c a w, Q (.panic c) (a.put oi.dst v) w → Q (.panic c) a w := by exact fun _ _ _ h => h)
  (hy : Yields P ops oi v a := by refine Or.inl ⟨by rfl, ?_⟩; intro w'; go_simp; with_reducible rfl)
  (ha : a.put (some N) v = a' := by simp only [Act.put, List.setIfInBounds_toArray, List.set_cons_zero, List.set_cons_succ, i64_w, i32_w]; rfl) : wpAnyLast P md ops Q S ds (fuel + 1) l a w := pure_ l' hi hN hc hQ hy ha h
theorem tk2_ {P : Program} {ops : Array Oper} {Q : Exit → Act → World → Prop} {md : Region.Mode} {S : World → Prop} {ds : List Nat} {oi : Oper} {v : Value} {fuel : Nat} {l : Array Bool} {a a' : Act} {w : World} (i N : Nat) (l' : Array Bool) (hi : ops[i]? = some oi) (hN : oi.dst = some N) (hS : S w) (h : wpAnyLast P md ops Q S ds fuel l' a' w) (hc : takeB md ops ds l l' i = true := by kernel_rfl) (hQ : ∀ c a w, Q (.panic c) (a.put oi.dst v) w → Q (.panic c) a w := by exact fun _ _ _ h => h)
  (hy : YieldsIf P ops S oi v a := by refine Or.inl ⟨by rfl, ?_⟩; rintro w' ⟨s0, s1⟩; go_simp; with_reducible rfl)
  (ha : a.put (some N) v = a' := by simp only [Act.put, List.setIfInBounds_toArray, List.set_cons_zero, List.set_cons_succ, i64_w, i32_w]; rfl) : wpAnyLast P md ops Q S ds (fuel + 1) l a w := take_ l' hi hN hc hQ hy hS ha h
theorem tk3_ {P : Program} {ops : Array Oper} {Q : Exit → Act → World → Prop} {md : Region.Mode} {S : World → Prop} {ds : List Nat} {oi : Oper} {v : Value} {fuel : Nat} {l : Array Bool} {a a' : Act} {w : World} (i N : Nat) (l' : Array Bool) (hi : ops[i]? = some oi) (hN : oi.dst = some N) (hS : S w) (h : wpAnyLast P md ops Q S ds fuel l' a' w) (hc : takeB md ops ds l l' i = true := by kernel_rfl) (hQ : ∀ c a w, Q (.panic c) (a.put oi.dst v) w → Q (.panic c) a w := by exact fun _ _ _ h => h)
  (hy : YieldsIf P ops S oi v a := by refine Or.inl ⟨by rfl, ?_⟩; rintro w' ⟨s0, s1, s2⟩; go_simp; with_reducible rfl)
  (ha : a.put (some N) v = a' := by simp only [Act.put, List.setIfInBounds_toArray, List.set_cons_zero, List.set_cons_succ, i64_w, i32_w]; rfl) : wpAnyLast P md ops Q S ds (fuel + 1) l a w := take_ l' hi hN hc hQ hy hS ha h
theorem tk5_ {P : Program} {ops : Array Oper} {Q : Exit → Act → World → Prop} {md : Region.Mode} {S : World → Prop} {ds : List Nat} {oi : Oper} {v : Value} {fuel : Nat} {l : Array Bool} {a a' : Act} {w : World} (i N : Nat) (l' : Array Bool) (hi : ops[i]? = some oi) (hN : oi.dst = some N) (hS : S w) (h : wpAnyLast P md ops Q S ds fuel l' a' w) (hc : takeB md ops ds l l' i = true := by kernel_rfl) (hQ : ∀ c a w, Q (.panic c) (a.put oi.dst v) w → Q (.panic c) a w := by exact fun _ _ _ h => h)
  (hy : YieldsIf P ops S oi v a := by refine Or.inl ⟨by rfl, ?_⟩; rintro w' ⟨s0, s1, s2, s3, s4⟩; go_simp; with_reducible rfl)
  (ha : a.put (some N) v = a' := by simp only [Act.put, List.setIfInBounds_toArray, List.set_cons_zero, List.set_cons_succ, i64_w, i32_w]; rfl) : wpAnyLast P md ops Q S ds (fuel + 1) l a w := take_ l' hi hN hc hQ hy hS ha h
theorem nm_ {P : Program} {ops : Array Oper} {Q : Exit → Act → World → Prop} {md : Region.Mode} {S : World → Prop} {ds : List Nat} {fuel : Nat} {l : Array Bool} {a : Act} {N : Tmp} {v : Value} {a' : Act} {w : World} (h : wpAnyLast P md ops Q S ds fuel l a' w) (ha : Act.put a (some N) v = a' := by simp only [Act.put, List.setIfInBounds_toArray, List.set_cons_zero, List.set_cons_succ, i64_w, i32_w]; rfl) : wpAnyLast P md ops Q S ds fuel l (Act.put a (some N) v) w := norm_ ha h
theorem e1 {P : Prop} (h : P := by
 go_enter Tryz.func139, Tryz.ntmps139
 go_wp2
 go_ret
 exact ⟨by simp [h1], rfl⟩) : P := h
theorem e2 {P : Prop} (h : P := by
 go_enter Tryz.func203, Tryz.ntmps203
 go_wp2_with (go_at_call 139; refine (hw _).mono ?_; rintro e w1 ⟨rfl, rfl⟩)
 go_ret
 exact ⟨rfl, below_alloc (Below.refl _ _) _⟩) : P := h
theorem e3 {P : Prop} (h : P := by
 go_wp2_with (go_at_call 203; refine (h _).mono ?_; rintro e w1 ⟨rfl, hb1⟩; have hb2 := below_then (below_alloc (Below.refl w.heap.size w) (.cells #[.int .i64 n] 94)) (by simp) hb1; clear hb1)
 go_ret
 exact ⟨rfl, hb2⟩) : P := h
theorem e4 {P : Prop} (h : P := by
 simp only [Act.put, List.setIfInBounds_toArray, List.set_cons_zero, List.set_cons_succ, i64_w, i32_w]
 rfl) : P := h
theorem e5 {P : Prop} (h : P := by
 go_wp2_with (go_at_call 149; refine hd.mono ?_; rintro e w1 ⟨rfl, hA1, hF1⟩; replace hA1 := Lib.hid hA1; replace hF1 := Lib.hid hF1)
 go_ret
 exact ⟨rfl, hA1.out, hF1.out⟩) : P := h
theorem e6 {P : Prop} (h : P := by
 exact ⟨rfl, b4.os, b4.tape, b4.output, b4.size, fun k hk => b4.block k hk (Nat.ne_of_lt hk)⟩) : P := h
theorem e7 {P : Prop} (h : P := by
 replace hm := Lib.hid hm
 replace h0 := Lib.hid h0
 replace h4 := Lib.hid h4
 exact e8) : P := h
theorem e8 {P : Prop} (h : P := by
 go_enter Tryz.func140, Tryz.ntmps140
 go_wp2
 go_ret
 exact ⟨rfl, below_alloc (Below.refl _ _) _⟩) : P := h
theorem e12 {P : Prop} (h : P := by
 rw [e]
 simp only [IntKind.wrap, IntKind.signed, IntKind.bits, Bool.false_and, Bool.false_eq_true, if_false]
 omega) : P := h
theorem e13 {P : Prop} (h : P := by
 first | go_end0 | ((try simp only [Exit.inBlock, Exit.then]); refine bodyPost_ret (results_none rfl _ _ _) rfl ?_)
 exact ⟨rfl, hc.out⟩) : P := h
theorem e14 {P : Prop} (h : P := by
 go_wp2_with (first
  | (go_at_call 104; (try clear c6); (try clear c7); go_must (refine add_step hc _ _ (by first | decide | exact w32_u32 _ | exact w32_pres _) ?_; intro w1 f1 hc c6 c7; clear f1))
  | (go_at_call 105; (try clear c6); (try clear c7); go_must (refine note_step hc _ _ hm'.out ?_; intro w1 f1 hc c6 c7; clear f1))
  | (go_at_call 106; (try clear c6); (try clear c7); go_must (refine wake_step hc _ ?_; intro w1 f1 hc c6 c7; clear f1))
  | (go_at_call 107; (try clear c6); (try clear c7); go_must (refine end_step hc _ ?_; intro w1 f1 hc c6 c7; clear f1)))
 exact e13) : P := h
theorem e15 {P : Prop} (h : P := by
 first | go_end0 | ((try simp only [Exit.inBlock, Exit.then]); refine bodyPost_ret (results_none rfl _ _ _) rfl ?_)
 refine ⟨rfl, ?_⟩
 rw [← hrr.out, if_pos hgt.out]
 exact hc.out) : P := h
theorem e16 {P : Prop} (h : P := by
 exact ⟨hc.out.at_, hc.out.fr, hc.out.ok, Nat.le_succ_of_le hc.out.few⟩) : P := h
theorem e35 {P : Prop} (h : P := by
 simp only [hop.out, hln.out]
 exact e80) : P := h
theorem e36 {P : Prop} (h : P := by
 simp only [hop.out, hln.out]
 exact e81) : P := h
theorem e37 {P : Prop} (h : P := by
 simp only [hop.out, hln.out]
 exact e167) : P := h
theorem e38 {P : Prop} (h : P := by
 simp only [hop.out, hln.out]
 exact e168) : P := h
theorem e45 {P : Prop} (h : P := by
 simp only [hop.out, hln.out]
 exact e87) : P := h
theorem e47 {P : Prop} (h : P := by
 replace hc := Lib.hid (hc.out.drewN nq)
 go_wp2_with (first
   | (go_at_call 105; (try clear c6); (try clear c7); go_must (refine note_step hc _ _ hm'.out ?_; intro w1 f1 hc c6 c7; clear f1))
   | (go_at_call 102; (try clear c6); (try clear c7); go_must (refine go_step hc _ ?_; intro w1 f1 hc c6 c7; clear f1)))
 exact e15) : P := h
theorem e48 {P : Prop} (h : P := by
 replace hc := Lib.hid (hc.out.drewN nq)
 go_wp2_with (first
   | (go_at_call 105; (try clear c6); (try clear c7); go_must (refine note_step hc _ _ hm'.out ?_; intro w1 f1 hc c6 c7; clear f1))
   | (go_at_call 102; (try clear c6); (try clear c7); go_must (refine go_step hc _ ?_; intro w1 f1 hc c6 c7; clear f1)))
 first | go_end0 | ((try simp only [Exit.inBlock, Exit.then]); refine bodyPost_ret (results_none rfl _ _ _) rfl ?_)
 refine ⟨rfl, ?_⟩
 rw [← hrr.out, if_neg (by have := hgt.out; omega)]
 exact e16) : P := h
theorem e50 {P : Prop} (h : P := by
 simp only [putAll, Act.put, List.setIfInBounds_toArray, List.set_cons_zero, List.set_cons_succ]
 rfl) : P := h
theorem e67 {P : Prop} (h : P := by
 go_wp2_with (go_at_call 109; go_must (refine hR.mono ?_; rintro e w1 ⟨rfl, hA1, hF1⟩; replace hA1 := Lib.hid hA1; replace hF1 := Lib.hid hF1))
 exact e73) : P := h
theorem e73 {P : Prop} (h : P := by
 first | go_end0 | ((try simp only [Exit.inBlock, Exit.then]); refine bodyPost_ret (results_none rfl _ _ _) rfl ?_)
 exact ⟨rfl, hA1.out, hF1.out⟩) : P := h
theorem e75 {P : Prop} (h : P := by
 cases hz : (Pf.bitsOf (r.add 0 256).old == 0) with
 | true => exact pfr_1_0_t h hO hn hop hln hz
 | false => exact pfr_1_0_f h hO hn hop hln hz) : P := h
theorem e76 {P : Prop} (h : P := by
 cases hs : (r.waited 0 (fun v => Pf.bitsOf v != Pf.bitsOf r.f.a)).seen <;> cases hd : (r.waited 0 (fun v => Pf.bitsOf v != Pf.bitsOf r.f.a)).done
 ·exact pfr_1_1_f_f h hO hn hop hln hs hd
 ·exact pfr_1_1_f_t h hO hn hop hln hs hd
 ·exact pfr_1_1_t_f h hO hn hop hln hs hd
 ·exact pfr_1_1_t_t h hO hn hop hln hs hd) : P := h
theorem e77 {P : Prop} (h : P := by
 cases hz : (Pf.bitsOf (r.load 0).old != 0) with
 | true => exact pfr_5_0_t h hO hn hop hln hz
 | false => exact pfr_5_0_f h hO hn hop hln hz) : P := h
theorem e78 {P : Prop} (h : P := by
 cases hc : (r.cas 0 r.f.a (u32 (r.f.a + 256))).hitCas r.f.a with
 | true => exact pfr_5_1_t h hO hn hop hln hc
 | false => exact pfr_5_1_f h hO hn hop hln hc) : P := h
theorem e80 {P : Prop} (h : P := by
 simp only [Int.reduceEq, and_true, true_and, and_self, and_false, false_and, if_true, if_false, or_false, false_or, or_true, true_or]
 rw [if_pos (by exact beq_iff_eq.mp hz)]
 exact hc.out.at_) : P := h
theorem e81 {P : Prop} (h : P := by
 simp only [Int.reduceEq, and_true, true_and, and_self, and_false, false_and, if_true, if_false, or_false, false_or, or_true, true_or]
 rw [if_neg (by exact beq_eq_false_iff_ne.mp hz)]
 exact hc.out.at_) : P := h
theorem e87 {P : Prop} (h : P := by
 simp only [Int.reduceEq, and_true, true_and, and_self, and_false, false_and, if_true, if_false, or_false, false_or, or_true, true_or]
 exact hc.out.at_) : P := h
theorem e88 {P : Prop} (h : P := by
 rintro e w1 ⟨rfl, ha, hf⟩
 exact ⟨rfl, ha, ((Fr.refl B p g w).alloc (.cells #[.int .i64 x] 3)).trans hf⟩) : P := h
theorem e90 {P : Prop} (h : P := by
 simp only [hln.out]
 exact e87) : P := h
theorem e165 {P : Prop} (h : P := by
 simp only [hop.out, hln.out]
 exact e174) : P := h
theorem e166 {P : Prop} (h : P := by
 simp only [hop.out, hln.out]
 simp only [Int.reduceEq, and_true, true_and, and_self, and_false, false_and, if_true, if_false, or_false, false_or, or_true, true_or]
 exact hA1) : P := h
theorem e167 {P : Prop} (h : P := by
 simp only [Int.reduceEq, and_true, true_and, and_self, and_false, false_and, if_true, if_false, or_false, false_or, or_true, true_or]
 rw [if_pos (by exact hcs.out)]
 exact hc.out.at_) : P := h
theorem e168 {P : Prop} (h : P := by
 simp only [Int.reduceEq, and_true, true_and, and_self, and_false, false_and, if_true, if_false, or_false, false_or, or_true, true_or]
 rw [if_neg (by intro k; exact absurd (hcs.out.symm.trans k) (by decide))]
 exact hc.out.at_) : P := h
theorem e174 {P : Prop} (h : P := by
 simp only [Int.reduceEq, and_true, true_and, and_self, and_false, false_and, if_true, if_false, or_false, false_or, or_true, true_or]
 first | rw [if_pos (by exact hd.out)] | rw [if_neg (by intro k; exact absurd (hd.out.symm.trans k) (by decide))]
 exact hc.out.at_) : P := h
theorem e176 {P : Prop} (h : P := by
 simp only [hs.out, hd.out, if_true, Bool.false_eq_true, if_false]
 exact hc.out.at_) : P := h
theorem e181 {P : Prop} (h : P := by
 rintro e w2 ⟨rfl, rfl⟩
 refine ⟨_, rfl, ?_⟩
 refine hK.out _ _ (hc.out.drew.c6) (fun hHeld => ?_)
 clear hK K
 refine nm_ ?_
 refine pu_ 6 16 (mk 10 127) rfl rfl ?_
 refine one_ (i := 7) (N := some 3) (mk 10 255) rfl rfl (by kernel_rfl) (by decide) (fun K hK => ?_)
 refine value_ (w1 := ?_) (v := ?_) (by rfl) rfl ?_ ?_
 rotate_left 2
 ·go_simp
  constructor
  ·rfl
  ·rfl
 refine hK.out _ _ ((hc.out.alloc (.cells #[.int .u32 0] 22)).drew.c6) (fun hHeld => ?_)
 exact e184) : P := h
theorem e182 {P : Prop} (h : P := by
 rintro e w2 ⟨rfl, rfl⟩
 refine ⟨_, rfl, ?_⟩
 refine hK.out _ _ ((hc.out.alloc (.cells #[.int .u32 0] 22)).drew.c6) (fun hHeld => ?_)
 clear hK K
 refine nm_ ?_
 refine pu_ 6 16 (mk 10 255) rfl rfl ?_
 exact e185) : P := h
theorem e184 {P : Prop} (h : P := by
 clear hK K
 refine nm_ ?_
 exact e185) : P := h
theorem e185 {P : Prop} (h : P := by
 exact norm_ (by simp only [putAll, Act.put, List.setIfInBounds_toArray, List.set_cons_zero, List.set_cons_succ]) (hCont () _ rfl)) : P := h
end Go.Proofs.YtkmlefbdhdlfmaaGreat.Wo
