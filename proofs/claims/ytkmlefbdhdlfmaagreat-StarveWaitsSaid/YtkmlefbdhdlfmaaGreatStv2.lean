/- slices.Repeat over rows of picks: the walk. -/
import Derived.Test.YtkmlefbdhdlfmaaGreatStv1
namespace Go.Proofs.YtkmlefbdhdlfmaaGreat.Stv
open Go.RowKit Go.Proofs.YtkmlefbdhdlfmaaGreatW.PrintWords Go.Proofs.YtkmlefbdhdlfmaaGreatW.PrintMore Go.Proofs.YtkmlefbdhdlfmaaGreatW.PrintLast Go.Proofs.YtkmlefbdhdlfmaaGreat.Pr
variable {w w1 : World} {B g n cap : Nat} {v : Value} {ys : List Pk}
theorem grown_setRow (w : World) (g : Nat) (cs : Array Value) : w.grownBy (w.setRow g cs) (some g) :=
 ⟨rfl, rfl, rfl, by simp [World.setRow], fun k _ hk => setRow_other w g k cs (fun e => hk (by rw [e]))⟩
theorem copy_exec {P : Program} {oi : Oper} {a : Act} {x y : Operand} {t t' : TypeId} {xv yv v : Value} (hop : oi.op = .call { callee := .builtin .copy, args := #[x, y], argTypes := #[t, t'] }) (hx : a.eval x = xv) (hy : a.eval y = yv) (h : (Builtin.copy_ #[t, t'] oi.type #[xv, yv]).run P w = .ok v w1) : (execOp a.eval oi).run P w = .ok (.value v) w1 := by
 unfold execOp
 simp [hop, hx, hy, resolve, invoke, Go.builtin, h]
theorem wp_value {P : Program} {oi : Oper} {a : Act} {ops : Array Oper} {rest : List Oper} {Q : Exit → Act → World → Prop} {v : Value} (N : Option Tmp) (hN : oi.dst = N) (hg : oi.guard = none) (hrun : (execOp a.eval oi).run P w = .ok (.value v) w1)
  (h : wpList P ops Q rest (a.put N v) w1) : wpList P ops Q (oi :: rest) a w := by
 subst hN
 refine wpList_plain hg fun K hK => ?_
 unfold Oper.wp
 rw [hrun]
 exact hK _ _ h
theorem cell_keep {w w1 : World} {a : Addr} {v : Value} (hb : Below w.heap.size w w1) (h : w.cell? a = some v) : w1.cell? a = some v := by
 have hlt : a.block < w.heap.size := by
  cases hx : w.heap[a.block]? with
  | none => simp [World.cell?, hx] at h
  | some o => exact (Array.getElem?_eq_some_iff.1 hx).1
 exact (hb.cell hlt).trans h
theorem sizePick : (Tryz.prog.info? 30).map (·.size) = some 2 := by kernel_rfl
theorem infoPick : (Tryz.prog.info? 30).map (fun i => (i.zero, i.size, i.bytes)) = some (some (.agg #[.int .i64 0, .int .i64 0]), 2, 16) := by kernel_rfl
theorem flat_get : ∀ (l : List Pk) (j : Nat) (v : Value), (flat l)[j]? = some v → ∃ x, l[j / 2]? = some x ∧ (pc x)[j % 2]? = some v
 | [], j, v, h => by simp [flat] at h
 | x :: l, 0, v, h => ⟨x, rfl, by simpa [flat] using h⟩
 | x :: l, 1, v, h => ⟨x, rfl, by simpa [flat] using h⟩
 | x :: l, j + 2, v, h => by
  have h' : (flat l)[j]? = some v := by simpa [flat] using h
  obtain ⟨y, h1, h2⟩ := flat_get l j v h'
  refine ⟨y, ?_, ?_⟩
  ·have e : (j + 2) / 2 = j / 2 + 1 := by omega
   rw [e, List.getElem?_cons_succ]
   exact h1
  ·have e : (j + 2) % 2 = j % 2 := by omega
   rw [e]
   exact h2
theorem C_flat {A : Option Addr} {xs : List Pk} (h : Kd.C k2 w A xs.length xs) (hp : 0 < xs.length) : ∃ ad, A = some ad ∧ ∀ j v, (flat xs)[j]? = some v → w.cell? (ad.add j) = some v := by
 obtain ⟨ad, e, hc⟩ := h.2.2 hp
 refine ⟨ad, e, fun j v hj => ?_⟩
 obtain ⟨x, h1, h2⟩ := flat_get xs j v hj
 obtain ⟨c, _, hK, hcell⟩ := hc (j / 2) x h1
 obtain rfl := k2_openK hK
 have e2 : j / 2 * 2 + j % 2 = j := by omega
 have := hcell (j % 2) v h2
 rw [show k2.sz = 2 from rfl, e2] at this
 exact this
theorem R_copyN (h : Kd.R k2 30 w B T (.slice (some ⟨g, 0, none⟩) n cap) ys) (i : Nat) (zs : List Pk) (a : Addr) (dLen dCap sLen sCap : Nat) (hi : i + zs.length ≤ n) (hz : zs.length = Nat.min sLen dLen) (hsrc : ∀ j v, (flat zs)[j]? = some v → w.cell? (a.add j) = some v) :
  ∃ w1, (∀ ty, (Builtin.copy_ #[23, 23] ty #[.slice (some ⟨g, i * 2, none⟩) dLen dCap, .slice (some a) sLen sCap]).run Tryz.prog w = .ok (goInt ((Nat.min sLen dLen : Nat) : Int)) w1) ∧ Kd.R k2 30 w1 B T (.slice (some ⟨g, 0, none⟩) n cap) (ys.take i ++ zs ++ ys.drop (i + zs.length)) ∧ w.grownBy w1 (some g) := by
 obtain ⟨cur, hc, hfit, hR⟩ := R_splice h i zs hi
 exact ⟨_, fun ty => run_copyN w 23 23 ty 30 g (i * 2) dLen dCap 2 a sLen sCap cur 30 (flat zs) Tryz.underlying23 sizePick hc (by rw [flat_length, hz]) hsrc hfit (flat_one zs), hR, grown_setRow w g _⟩
theorem R_cells (h : Kd.R k2 30 w B T (.slice (some ⟨g, 0, none⟩) n cap) ys) (m : Nat) (hm : m ≤ n) : ∀ j v, (flat (ys.take m))[j]? = some v → w.cell? ((⟨g, 0, none⟩ : Addr).add j) = some v := by
 intro j v hj
 have hn := (Kd.R_reads' h).1
 rcases Nat.eq_zero_or_pos m with rfl | hp
 ·simp [flat] at hj
 ·have h2 := Kd.R_take h (m := m) (by omega)
  have hC := (Kd.R_reads' h2).2.2
  obtain ⟨ad, e, hc⟩ := C_flat hC (by rw [List.length_take]; omega)
  cases e
  exact hc j v hj
def rep (xs : List Pk) : Nat → List Pk
 | 0 => []
 | k + 1 => xs ++ rep xs k
theorem rep_length (xs : List Pk) : ∀ k, (rep xs k).length = xs.length * k
 | 0 => rfl
 | k + 1 => by simp only [rep, List.length_append, rep_length xs k, Nat.mul_succ]; omega
theorem rep_add (xs : List Pk) : ∀ j k, rep xs (j + k) = rep xs j ++ rep xs k
 | 0, k => by rw [Nat.zero_add]; rfl
 | j + 1, k => by
  have e : j + 1 + k = (j + k) + 1 := by omega
  rw [e]
  simp only [rep, rep_add xs j k, List.append_assoc]
theorem mul_u64 (a b : Nat) (ha : a < 2147483648) (hb : b < 2147483648) : bits_Mul.f (a : Int) (b : Int) = some (0, ((a * b : Nat) : Int)) := by
 have hab : a * b < 4611686018427387904 := by
  have := Nat.mul_le_mul (show a ≤ 2147483648 by omega) (show b ≤ 2147483648 by omega)
  rcases Nat.lt_or_ge (a * b) 4611686018427387904 with h | h
  ·exact h
  ·have h1 : a * b ≤ 2147483647 * 2147483647 := Nat.mul_le_mul (by omega) (by omega)
   omega
 have hm : ∀ c : Nat, c < 4294967296 → Go.bits .and .u64 (c : Int) 4294967295 = (c : Int) := by
  intro c hc
  have := u64_and_nat c 4294967295 (by omega) (by omega)
  rw [show ((4294967295 : Nat) : Int) = 4294967295 from rfl] at this
  rw [this]
  congr 1
  have e : (4294967295 : Nat) = 2 ^ 32 - 1 := rfl
  rw [e, Nat.and_two_pow_sub_one_eq_mod]
  exact Nat.mod_eq_of_lt hc
 unfold bits_Mul.f bits_Mul64.f
 rw [Option.bind_some]
 have ea : (a : Int) / 4294967296 = 0 := by omega
 have eb : (b : Int) / 4294967296 = 0 := by omega
 rw [ea, eb, hm a (by omega), hm b (by omega)]
 have hw : ∀ x : Int, 0 ≤ x → x < 18446744073709551616 → IntKind.u64.wrap x = x := fun x h0 h1 => by rw [IntKind.wrap_u64]; omega
 have hab' : ((a : Int) * b) = ((a * b : Nat) : Int) := (Int.natCast_mul a b).symm
 simp only [Int.zero_mul, Int.mul_zero, hw 0 (by omega) (by omega), Int.zero_add, Int.add_zero]
 rw [hab', hw ((a * b : Nat) : Int) (by omega) (by omega)]
 have hq : ((a * b : Nat) : Int) / 4294967296 = ((a * b / 4294967296 : Nat) : Int) := by omega
 have hql : a * b / 4294967296 < 4294967296 := by omega
 have hq2 : IntKind.u64.wrap ((a * b / 4294967296 : Nat) : Int) = ((a * b / 4294967296 : Nat) : Int) := hw _ (by omega) (by omega)
 have hq0 : ((a * b / 4294967296 : Nat) : Int) / 4294967296 = 0 := by omega
 rw [hq, hq2, hm _ hql, hq2, hq0, hw 0 (by omega) (by omega)]
 rfl
theorem own_form (h : Kd.R k2 30 w B T v ys) (hat : ∃ b, v.ownBlock = some b) : ∃ g cap, v = .slice (some ⟨g, 0, none⟩) ys.length cap := by
 obtain ⟨b, hb⟩ := hat
 rcases (R_flat.1 h).2 with ⟨hv, _⟩ | ⟨g', cap', cur, hv, _⟩
 ·subst hv
  cases hb
 ·exact ⟨g', cap', hv⟩
theorem wrap_sum (q m nn : Nat) (h : nn ≤ 1000000) (h2 : q + m ≤ nn) : wrap64 ((q : Int) + m) = ((q + m : Nat) : Int) := by unfold wrap64; omega
theorem rep_take (xs : List Pk) (j' j : Nat) (h : j' ≤ j) : (rep xs j).take (xs.length * j') = rep xs j' := by
 obtain ⟨d, rfl⟩ := Nat.exists_eq_add_of_le h
 rw [rep_add, List.take_append_of_le_length (by rw [rep_length]; exact Nat.le_refl _), List.take_of_length_le (by rw [rep_length]; exact Nat.le_refl _)]
set_option linter.unusedSimpArgs false
set_option maxRecDepth 100000 in
set_option maxHeartbeats 4000000 in
theorem repeat_walk (A : Option Addr) (c : Nat) (xs : List Pk) (k : Nat) (w : World) (hC : Kd.C k2 w A xs.length xs) (hp : 0 < xs.length) (hb1 : xs.length ≤ 1000000) (hb2 : k ≤ 1000000) (hb : xs.length * k ≤ 1000000) :
  Calls Tryz.prog 66 #[.slice A xs.length c, .int .i64 (k : Int)] w fun e w' => ∃ v, e = .returned v ∧ Kd.R k2 30 w' w.heap.size T v (rep xs k) ∧ Below w.heap.size w w' := by
 obtain ⟨ad, rfl, hcells⟩ := C_flat hC hp
 have hmul := Lib.hid (mul_u64 xs.length k (by omega) (by omega))
 obtain ⟨ln, hln⟩ : ∃ ln, ln = xs.length := ⟨_, rfl⟩
 obtain ⟨nn, hnn⟩ : ∃ nn, nn = xs.length * k := ⟨_, rfl⟩
 rw [← hnn] at hmul hb
 rw [← hln] at hmul hp hb1 ⊢
 have hu1 : IntKind.u64.wrap (ln : Int) = ln := by rw [IntKind.wrap_u64]; omega
 have hu2 : IntKind.u64.wrap (k : Int) = k := by rw [IntKind.wrap_u64]; omega
 have hu3 : wrap64 (nn : Int) = nn := by unfold wrap64; omega
 have hu4 : IntKind.i64.wrap (nn : Int) = nn := by rw [IntKind.wrap_i64]; omega
 obtain ⟨m0, hm0, hm1, hm2⟩ : ∃ m0, Nat.min ln nn = m0 ∧ m0 ≤ ln ∧ m0 ≤ nn := ⟨_, rfl, Nat.min_le_left .., Nat.min_le_right ..⟩
 have hzl : (xs.take m0).length = m0 := by rw [List.length_take, ← hln]; omega
 have HZ : Hid (∀ w', Below w.heap.size w w' → ∀ j v, (flat (xs.take m0))[j]? = some v → w'.cell? (ad.add j) = some v) := Lib.hid fun w' hb j v hj => by
  rw [flat_take, List.getElem?_take] at hj
  split at hj
  ·exact cell_keep hb (hcells j v hj)
  ·cases hj
 replace hln := Lib.hid hln
 replace hnn := Lib.hid hnn
 replace hm0 := Lib.hid hm0
 replace hzl := Lib.hid hzl
 clear hC hcells
 go_enter Tryz.func66, Tryz.ntmps66
 go_wp2_with (first
  | (go_at_call 94; refine (bits_Mul.calls (ln : Int) (k : Int) 0 (nn : Int) _ hmul.out).mono ?_; rintro e w1 ⟨rfl, hbm⟩; replace hbm := Lib.hid hbm.below)
  | ((with_reducible refine gate_ (.makeSlice 23 (.tmp 29) (.tmp 29)) rfl ?_); go_must (
    refine Kd.R_make k2 (w0 := w) (W := w1) w.heap.size 30 rfl rfl 23 (.tmp 29) (.tmp 29) rfl (nn : Int) rfl rfl Tryz.underlying23 (.agg #[.int .i64 0, .int .i64 0]) 16 infoPick rfl (by decide) (by decide) (0, 0) (ok := T) (okp := fun _ => False) (k2_M (0, 0)) (fun _ hk => hk.elim) trivial (by omega) (by omega) hbm.out hbm.out.size ?_;
    intro v2 w2 hR hB2 hg2 hat;
    (obtain ⟨b2, hb2, _⟩ := hat);
    (obtain ⟨g, cap, rfl⟩ := own_form hR ⟨b2, hb2⟩);
    (simp only [List.length_replicate, Int.toNat_natCast] at hR ⊢);
    (obtain ⟨w3, hcp, hR3, hg3⟩ := R_copyN hR 0 (xs.take m0) ad nn cap ln c (by rw [hzl.out]; omega) (by rw [hzl.out, hm0.out]) (HZ.out w2 hB2));
    (rw [hm0.out] at hcp); (rw [hzl.out, List.take_zero, List.nil_append, Nat.zero_add] at hR3);
    (have hB3 := hB2.grown hg3 hB2.size (fun k hk => by cases hk; exact Kd.R_base hR g rfl));
    replace hcp := Lib.hid hcp; replace hR3 := Lib.hid hR3; replace hB3 := Lib.hid hB3; clear hR hB2 hg2 hb2 hg3))
  | ((with_reducible refine gate_builtin (b := .copy) (xs := #[.tmp 31, .tmp 32]) rfl ?_); go_must (refine wp_value (some 33) rfl rfl (copy_exec rfl (xv := .slice (some ⟨g, 0, none⟩) nn cap) (yv := .slice (some ad) ln c) rfl rfl (hcp.out _)) ?_; clear hcp)))
 have hstart : ∃ j ys, j ≤ k ∧ (k = 0 ∨ 1 ≤ j) ∧ m0 = ln * j ∧ Kd.R k2 30 w3 w.heap.size T (.slice (some ⟨g, 0, none⟩) nn cap) ys ∧ ys.take (ln * j) = rep xs j := by
  rcases Nat.eq_zero_or_pos k with rfl | hk
  ·refine ⟨0, _, Nat.le_refl _, .inl rfl, ?_, hR3.out, rfl⟩
   have := hnn.out
   rw [Nat.mul_zero] at this
   omega
  ·have h1 : ln ≤ nn := by rw [hnn.out, ← hln.out]; exact Nat.le_mul_of_pos_right _ hk
   have h2 : m0 = ln := by rw [← hm0.out]; exact Nat.min_eq_left h1
   refine ⟨1, _, hk, .inr (Nat.le_refl _), by rw [h2, Nat.mul_one], hR3.out, ?_⟩
   rw [Nat.mul_one, h2, List.take_of_length_le (l := xs) (by rw [hln.out]; exact Nat.le_refl _), List.take_append_of_le_length (by rw [hln.out]; exact Nat.le_refl _), List.take_of_length_le (by rw [hln.out]; exact Nat.le_refl _)]
   simp [rep]
 obtain ⟨j0, ys0, hj0, hk0, hmj, hR0, hy0⟩ := hstart
 replace hk0 := Lib.hid hk0
 replace hmj := Lib.hid hmj
 replace hR0 := Lib.hid hR0
 replace hy0 := Lib.hid hy0
 clear hR3
 go_loopw [8] (fun i wr => ∃ (q j : Nat) (ys : List Pk), q ≤ nn ∧ i = .int .i64 q ∧ Hid (j ≤ k ∧ (k = 0 ∨ 1 ≤ j) ∧ q = ln * j) ∧ Hid (Kd.R k2 30 wr w.heap.size T (.slice (some ⟨g, 0, none⟩) nn cap) ys) ∧ Hid (Below w.heap.size w wr) ∧ Hid (ys.take q = rep xs j)) (fun i _ => nn - (intOf i).toNat)
 case atStart => exact ⟨m0, j0, ys0, hm2, rfl, Lib.hid ⟨hj0, hk0.out, hmj.out⟩, hR0, hB3, Lib.hid (by rw [hmj.out]; exact hy0.out)⟩
 case round =>
  clear hR0 hB3 hy0 hmj hk0
  obtain ⟨q, j, ys, hq, rfl, hj, hR, hB, hy⟩ := hrel
  by_cases hlt : q < nn
  ·obtain ⟨m, hm, hm3, hm4⟩ : ∃ m, Nat.min q (nn - q) = m ∧ m ≤ q ∧ m ≤ nn - q := ⟨_, rfl, Nat.min_le_left .., Nat.min_le_right ..⟩
   have hRd := Kd.R_drew hR.out
   have hyl : ys.length = nn := (Kd.R_reads' hRd).1.symm
   have hnc : nn ≤ cap := (Kd.R_reads' hRd).2.1
   have hml : (ys.take m).length = m := by rw [List.length_take]; omega
   obtain ⟨w2, hcp, hR2, hg2⟩ := R_copyN hRd q (ys.take m) ⟨g, 0, none⟩ (nn - q) (cap - q) q cap (by rw [hml]; omega) (by rw [hml, hm]) (R_cells hRd m (by omega))
   have hB2 := (below_drew hB.out).grown hg2 hB.out.size (fun k hk => by cases hk; exact Kd.R_base hRd g rfl)
   rw [hm] at hcp
   rw [hml] at hR2
   replace hR2 := Lib.hid hR2
   replace hB2 := Lib.hid hB2
   replace hyl := Lib.hid hyl
   replace hml := Lib.hid hml
   replace hm := Lib.hid hm
   clear hRd hg2
   have hqi : (q : Int) < nn := by omega
   have hqc : q ≤ cap := by omega
   have hqe : ¬ (cap = q) := by omega
   have hqc2 : q + m ≤ nn := by omega
   go_upto_region 9 with (fail)
   refine start_ (n := 10) (S := fun w' => True) (ds := [7]) #[false, false, false, false, false, false, false, false, false, false] (by kernel_rfl) rfl rfl trivial (fun hHeld => ?_)
   refine pure_ (i := 0) (N := some 38) (v := ?_) (a' := ?_) (mk 10 1) rfl rfl (by kernel_rfl) (fun _ _ _ h => h) (Or.inl ⟨by rfl, ?_⟩) ?_ ?_
   rotate_left
   ·intro w'
    go_simp
    with_reducible rfl
   rotate_left
   ·simp only [Act.put, List.setIfInBounds_toArray, List.set_cons_zero, List.set_cons_succ, i64_w, i32_w]
    rfl
   refine pure_ (i := 1) (N := some 39) (v := ?_) (a' := ?_) (mk 10 3) rfl rfl (by kernel_rfl) (fun _ _ _ h => h) (Or.inl ⟨by rfl, ?_⟩) ?_ ?_
   rotate_left
   ·intro w'
    go_simp
    with_reducible rfl
   rotate_left
   ·simp only [Act.put, List.setIfInBounds_toArray, List.set_cons_zero, List.set_cons_succ, i64_w, i32_w]
    rfl
   refine pure_ (i := 2) (N := some 40) (v := ?_) (a' := ?_) (mk 10 7) rfl rfl (by kernel_rfl) (fun _ _ _ h => h) (Or.inl ⟨by rfl, ?_⟩) ?_ ?_
   rotate_left
   ·intro w'
    go_simp
    with_reducible rfl
   rotate_left
   ·simp only [Act.put, List.setIfInBounds_toArray, List.set_cons_zero, List.set_cons_succ, i64_w, i32_w]
    rfl
   refine pure_ (i := 3) (N := some 41) (v := ?_) (a' := ?_) (mk 10 15) rfl rfl (by kernel_rfl) (fun _ _ _ h => h) (Or.inl ⟨by rfl, ?_⟩) ?_ ?_
   rotate_left
   ·intro w'
    go_simp
    with_reducible rfl
   rotate_left
   ·simp only [Act.put, List.setIfInBounds_toArray, List.set_cons_zero, List.set_cons_succ, i64_w, i32_w]
    rfl
   refine pure_ (i := 4) (N := some 42) (v := ?_) (a' := ?_) (mk 10 31) rfl rfl (by kernel_rfl) (fun _ _ _ h => h) (Or.inl ⟨by rfl, ?_⟩) ?_ ?_
   rotate_left
   ·intro w'
    go_simp
    with_reducible rfl
   rotate_left
   ·simp only [Act.put, List.setIfInBounds_toArray, List.set_cons_zero, List.set_cons_succ, i64_w, i32_w]
    rfl
   refine pure_ (i := 5) (N := some 43) (v := ?_) (a' := ?_) (mk 10 63) rfl rfl (by kernel_rfl) (fun _ _ _ h => h) (Or.inl ⟨by rfl, ?_⟩) ?_ ?_
   rotate_left
   ·intro w'
    go_simp
    with_reducible rfl
   rotate_left
   ·simp only [Act.put, List.setIfInBounds_toArray, List.set_cons_zero, List.set_cons_succ, i64_w, i32_w]
    rfl
   refine pure_ (i := 6) (N := some 44) (v := ?_) (a' := ?_) (mk 10 127) rfl rfl (by kernel_rfl) (fun _ _ _ h => h) (Or.inl ⟨by rfl, ?_⟩) ?_ ?_
   rotate_left
   ·intro w'
    go_simp
    with_reducible rfl
   rotate_left
   ·simp only [Act.put, List.setIfInBounds_toArray, List.set_cons_zero, List.set_cons_succ, i64_w, i32_w]
    rfl
   refine last_ (i := 7) (N := some 45) (mk 10 255) rfl rfl (by kernel_rfl) (by decide) (fun K hK => ?_)
   refine value_ (w1 := w2) (v := goInt (m : Int)) (by rfl) rfl (copy_exec rfl ?hx9 ?hy9 (hcp _)) ?_
   case hx9 => rfl
   case hy9 => rfl
   refine hK.out _ _ ?_
   clear hK K
   refine norm_ (a' := ?_) ?_ ?_
   rotate_left
   ·show Act.put _ (some 45) _ = _
    simp only [Act.put, List.setIfInBounds_toArray, List.set_cons_zero, List.set_cons_succ, i64_w, i32_w]
    rfl
   refine pure_ (i := 8) (N := some 46) (v := ?_) (a' := ?_) (mk 10 511) rfl rfl (by kernel_rfl) (fun _ _ _ h => h) (Or.inl ⟨by rfl, ?_⟩) ?_ ?_
   rotate_left
   ·intro w'
    go_simp
    with_reducible rfl
   rotate_left
   ·simp only [Act.put, List.setIfInBounds_toArray, List.set_cons_zero, List.set_cons_succ, i64_w, i32_w]
    rfl
   refine pure_ (i := 9) (N := some 8) (v := ?_) (a' := ?_) (mk 10 1023) rfl rfl (by kernel_rfl) (fun _ _ _ h => h) (Or.inl ⟨by rfl, ?_⟩) ?_ ?_
   rotate_left
   ·intro w'
    go_simp
    with_reducible rfl
   rotate_left
   ·simp only [Act.put, List.setIfInBounds_toArray, List.set_cons_zero, List.set_cons_succ, i64_w, i32_w]
    rfl
   refine done_ (by kernel_rfl) ?_
   clear hcp
   go_wp2
   rw [wrap_sum q m nn hb hqc2]
   have hB3 : q + m ≤ nn := hqc2
   have hyl' := hyl.out
   have hA : (ys.take q ++ ys.take m).length = q + m := by rw [List.length_append, List.length_take, hml.out, hyl']; omega
   have hyq := hy.out
   obtain ⟨hjk, hk1, hqj⟩ := hj.out
   have hkn : nn = ln * k := by rw [hnn.out, ← hln.out]
   have hk0 : 0 < k := by
    rcases Nat.eq_zero_or_pos k with h | h
    ·rw [h, Nat.mul_zero] at hkn; omega
    ·exact h
   have hj1 : 1 ≤ j := by rcases hk1 with h | h <;> omega
   have hq1 : 1 ≤ q := by rw [hqj]; exact Nat.mul_pos hp hj1
   have hmo := hm.out
   have hm1' : 1 ≤ m := by rw [← hmo]; exact Nat.le_min.2 ⟨hq1, by omega⟩
   have hmj : ∃ j', m = ln * j' ∧ j' ≤ j ∧ j + j' ≤ k := by
    have hsub : nn - q = ln * (k - j) := by rw [hkn, hqj, Nat.mul_sub]
    rcases Nat.le_total j (k - j) with h | h
    ·refine ⟨j, ?_, Nat.le_refl _, by omega⟩
     rw [← hmo, hsub, hqj]
     exact Nat.min_eq_left (Nat.mul_le_mul_left _ h)
    ·refine ⟨k - j, ?_, h, by omega⟩
     rw [← hmo, hsub, hqj]
     exact Nat.min_eq_right (Nat.mul_le_mul_left _ h)
   obtain ⟨j', hmj, hjj, hjk'⟩ := hmj
   have hB0 : (ys.take q ++ ys.take m ++ ys.drop (q + m)).take (q + m) = rep xs (j + j') := by
    rw [List.take_append_of_le_length (by rw [hA]; exact Nat.le_refl _), List.take_of_length_le (by rw [hA]; exact Nat.le_refl _), hyq, rep_add]
    congr 1
    have e1 : ys.take m = (ys.take q).take m := by rw [List.take_take, Nat.min_eq_left hm3]
    rw [e1, hyq, hmj, hln.out]
    exact rep_take xs j' j hjj
   have hB1 : q + m = ln * (j + j') := by rw [Nat.mul_add, ← hqj, ← hmj]
   have hB4 : nn - (q + m) < nn - q := by omega
   exact ⟨⟨q + m, j + j', _, hB3, rfl, Lib.hid ⟨hjk', .inr (by omega), hB1⟩, hR2, hB2, Lib.hid hB0⟩, hB4⟩
  ·have hqn : nn = q := by omega
   subst hqn
   have hfin : Hid (ys = rep xs k) := Lib.hid (by
    obtain ⟨hjk, hk1, hqj⟩ := hj.out
    have hkn : nn = ln * k := by rw [hnn.out, ← hln.out]
    have hjk2 : j = k := Nat.eq_of_mul_eq_mul_left hp (hqj.symm.trans hkn)
    have hyl : ys.length = nn := (Kd.R_reads' hR.out).1.symm
    have hyq := hy.out
    rw [List.take_of_length_le (by omega), hjk2] at hyq
    exact hyq)
   go_wp2
   go_ret
   rw [hfin.out] at hR
   exact ⟨_, rfl, hR.out, hB.out⟩
end Go.Proofs.YtkmlefbdhdlfmaaGreat.Stv
