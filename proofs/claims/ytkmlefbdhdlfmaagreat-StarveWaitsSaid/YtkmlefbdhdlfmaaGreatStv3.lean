/- slices.Concat over rows of picks. -/
import Derived.Test.YtkmlefbdhdlfmaaGreatStv2
namespace Go.Proofs.YtkmlefbdhdlfmaaGreat.Stv
open Go.RowKit Go.Proofs.YtkmlefbdhdlfmaaGreatW.PrintWords Go.Proofs.YtkmlefbdhdlfmaaGreatW.PrintMore Go.Proofs.YtkmlefbdhdlfmaaGreatW.PrintLast Go.Proofs.YtkmlefbdhdlfmaaGreat.Pr
set_option linter.unusedSimpArgs false
set_option maxRecDepth 100000
variable {w w1 : World} {B : Nat} {v : Value} {ys : List Pk}
set_option maxHeartbeats 1000000 in
theorem grow_nil (n : Nat) (hn : n ≤ 1000000) (w : World) : Calls Tryz.prog 92 #[.slice none 0 0, .int .i64 (n : Int)] w fun e w' => ∃ v, e = .returned v ∧ Kd.R k2 30 w' w.heap.size T v [] ∧ Below w.heap.size w w' := by
 rcases Nat.eq_zero_or_pos n with rfl | hp
 ·go_enter Tryz.func92, Tryz.ntmps92
  go_wp2
  go_ret
  exact ⟨_, rfl, Kd.R_nil .., Below.refl _ _⟩
 ·have hni : (n : Int) > 0 := by omega
  have hw0 : wrap64 ((n : Int)) = n := by unfold wrap64; omega
  have hw1 : IntKind.i64.wrap ((n : Int)) = n := by rw [IntKind.wrap_i64]; omega
  go_enter Tryz.func92, Tryz.ntmps92
  go_wp2_with ((with_reducible refine gate_builtin (b := .append) (xs := #[.tmp 20, .tmp 21]) rfl ?_); at_builtin; go_must (
   refine Kd.R_append_zeros k2 (w0 := w) (W := w) w.heap.size rfl (.tmp 20) (.tmp 21) 23 3 30 (.agg #[.int .i64 0, .int .i64 0]) 16 rfl Tryz.underlying23 Tryz.underlying3 infoPick rfl (by decide) (by decide) (.slice none 0 0) [] (0, 0) (n : Int) T rfl rfl (k2_M (0, 0)) (fun _ _ => trivial) (Kd.R_nil ..) (by omega) (Below.refl _ _) (Nat.le_refl _) (by simp; omega) ?_;
   intro v1 w1 hR hB _ _;
   (simp only [List.nil_append, Int.toNat_natCast] at hR);
   (obtain ⟨g, cap, rfl, _⟩ := Kd.R_form hR (by simp; omega));
   (simp only [List.length_replicate] at hR ⊢);
   have hz := Kd.R_take hR (m := 0) (Nat.zero_le _);
   (rw [List.take_zero] at hz);
   have hcap := (Kd.R_reads' hR).2.1;
   replace hz := Lib.hid hz; replace hB := Lib.hid hB; clear hR))
  go_ret
  exact ⟨_, rfl, hz.out, hB.out⟩
theorem at_sl {A : Option Addr} {n : Nat} {xss : List (List Pk)} (h : Kd.C (Kd.slice 30 k2) w A n xss) (i : Nat) (h1 : i < n) : ∃ ad A0 c0 l, A = some ad ∧ xss[i]? = some l ∧ w.cell? (ad.add i) = some (.slice A0 l.length c0) ∧ Kd.C k2 w A0 l.length l ∧ l.length ≤ c0 := by
 have hn := h.1
 obtain ⟨ad, c, e, _, hK, hc0⟩ := Kd.C_get h ([] : List Pk) (i : Int) (by omega) (by omega)
 have hc : ∀ j u, c[j]? = some u → w.cell? (ad.add (i * 1 + j)) = some u := hc0
 obtain ⟨A0, c0, rfl, hmc, hC⟩ := hK
 have hx : xss[i]? = some (xss.getD (i : Int).toNat []) := by
  rw [Int.toNat_natCast, List.getD_eq_getElem?_getD, List.getElem?_eq_getElem (by omega)]
  rfl
 refine ⟨ad, A0, c0, _, e, hx, ?_, hC, hmc⟩
 have := hc 0 _ rfl
 rwa [Nat.mul_one, Nat.add_zero] at this
theorem total_next (xss : List (List Pk)) (k : Nat) (l : List Pk) (h : xss[k]? = some l) : (xss.take (k + 1)).flatten = (xss.take k).flatten ++ l := by
 rw [List.take_add_one, h, List.flatten_append]
 simp
theorem total_le (xss : List (List Pk)) (k : Nat) : (xss.take k).flatten.length ≤ xss.flatten.length := by
 have : xss.flatten = (xss.take k).flatten ++ (xss.drop k).flatten := by rw [← List.flatten_append, List.take_append_drop]
 rw [this, List.length_append]
 omega
set_option maxHeartbeats 4000000 in
theorem concat_walk (A : Option Addr) (c m : Nat) (xss : List (List Pk)) (w : World) (hm : xss.length = m) (hC : Kd.C (Kd.slice 30 k2) w A m xss) (hm1 : m ≤ 1000000) (ht : xss.flatten.length ≤ 1000000) :
  Calls Tryz.prog 62 #[.slice A m c] w fun e w' => ∃ v, e = .returned v ∧ Kd.R k2 30 w' w.heap.size T v xss.flatten ∧ Below w.heap.size w w' := by
 have HC := Lib.hid hC
 replace hm := Lib.hid hm
 replace ht := Lib.hid ht
 clear hC
 go_enter Tryz.func62, Tryz.ntmps62
 go_wp2
 go_loopw [11, 3] (fun i sz wr => ∃ (k z : Nat), k ≤ m ∧ i = .int .i64 k ∧ sz = .int .i64 z ∧ z ≤ 1000000 ∧ wr = w ∧ Hid (z = (xss.take k).flatten.length)) (fun i _ _ => m - (intOf i).toNat)
 case atStart => exact ⟨0, 0, Nat.zero_le _, rfl, rfl, by omega, rfl, rfl⟩
 case round =>
  obtain ⟨k, z, hk, rfl, rfl, hz, rfl, hzz⟩ := hrel
  by_cases hlt : k < m
  ·obtain ⟨ad, A0, c0, l, rfl, hl, hcell, _⟩ := at_sl HC.out k hlt
   have hzn := congrArg List.length (total_next xss k l hl)
   have hle := total_le xss (k + 1)
   rw [List.length_append, ← hzz.out] at hzn
   have hle2 : z + l.length ≤ 1000000 := by rw [← hzn]; exact Nat.le_trans hle ht.out
   obtain ⟨n0, hn0⟩ : ∃ n0, n0 = l.length := ⟨_, rfl⟩
   rw [← hn0] at hcell hle2 hzn
   replace hzn := Lib.hid hzn
   have hwz : wrap64 ((z : Int) + n0) = ((z + n0 : Nat) : Int) := wrap_sum z n0 1000000 (by omega) hle2
   have hwz2 : ¬ (((z + n0 : Nat) : Int) < 0) := by omega
   replace hn0 := Lib.hid hn0
   clear hl hle
   go_wp2
   go_roundw
   case rel => exact ⟨k + 1, z + n0, by omega, by go_num, rfl, hle2, by first | rfl | trivial, Lib.hid hzn.out.symm⟩
   case measure => simp [intOf]; omega
  ·have hkm : m = k := by omega
   subst hkm
   obtain ⟨B0, hB0⟩ : ∃ b, b = wr.heap.size := ⟨_, rfl⟩
   obtain ⟨w0, hw0⟩ : ∃ w', w' = wr := ⟨_, rfl⟩
   replace hB0 := Lib.hid hB0
   replace hw0 := Lib.hid hw0
   go_wp2_with (go_at_call 92; refine (grow_nil z hz _).mono ?_; rintro e w1 ⟨v0, rfl, hR, hB⟩; replace hR := Lib.hid hR; replace hB := Lib.hid hB)
   go_loopw [27, 6] (fun i v wq => ∃ k : Nat, k ≤ m ∧ i = .int .i64 k ∧ Hid (Kd.R k2 30 wq B0 T v (xss.take k).flatten) ∧ Hid (Below B0 w0 wq)) (fun i _ _ => m - (intOf i).toNat)
   case atStart => exact ⟨0, Nat.zero_le _, rfl, Lib.hid (by rw [hB0.out]; exact hR.out), Lib.hid (by rw [hB0.out, hw0.out]; exact hB.out)⟩
   case round =>
    clear hR hB hzz hz
    obtain ⟨k, hk, rfl, hR, hB⟩ := hrel
    by_cases hlt2 : k < m
    ·have hbw : Below w0.heap.size w0 wr := by have := hB.out; rw [hB0.out, ← hw0.out] at this; exact this
     obtain ⟨ad, A0, c0, l, rfl, hl, hcell, hCl, _⟩ := at_sl HC.out k hlt2
     rw [← hw0.out] at hcell hCl
     have hcell2 := cell_keep hbw hcell
     have hCl2 := Kd.C_below hCl hbw
     have hzn := total_next xss k l hl
     have hle := total_le xss (k + 1)
     rw [hzn] at hle
     have hle2 : ((xss.take k).flatten ++ l).length ≤ 1000000 := Nat.le_trans hle ht.out
     rw [List.length_append] at hle2
     obtain ⟨n0, hn0⟩ : ∃ n0, n0 = l.length := ⟨_, rfl⟩
     rw [← hn0] at hcell2 hCl2 hle2
     replace hzn := Lib.hid hzn
     replace hCl2 := Lib.hid hCl2
     replace hle2 := Lib.hid hle2
     replace hn0 := Lib.hid hn0
     have hbs : B0 ≤ wr.heap.size := by
      have := hB.out.size
      rw [hw0.out] at this
      rw [hB0.out]
      exact this
     replace hbs := Lib.hid hbs
     clear hl hle hcell hCl hbw
     go_wp2_with ((with_reducible refine gate_builtin (b := .append) (xs := #[.tmp 31, .tmp 32]) rfl ?_); at_builtin; go_must (
      refine Kd.R_append_rows k2 (Rr := fun x cs => cs = pc x) (w0 := w0) (W := wr) B0 rfl (.tmp 31) (.tmp 32) 23 30 (.agg #[.int .i64 0, .int .i64 0]) 16 rfl Tryz.underlying23 infoPick rfl (by decide) (by decide) u6 (xss.take k).flatten l A0 n0 c0 T (fun _ => False) rfl rfl hR.out ?aC (fun x cs h => by subst h; exact k2_M x) (fun _ hk => hk.elim) (fun _ _ => trivial) hB.out hbs.out ?aL ?_;
      (case aC => exact ReadsRow.imp_ hCl2.out (Below.refl _ _) (fun x cs h => k2_openK h));
      (case aL => have := hle2.out; omega);
      intro v1 w1 hr1 hB1 _ _;
      (rw [← hzn.out] at hr1);
      replace hr1 := Lib.hid hr1; replace hB1 := Lib.hid hB1; clear hR hB))
     go_roundw
     case rel => exact ⟨k + 1, by omega, by go_num, hr1, hB1⟩
     case measure => simp [intOf]; omega
    ·have hkm : m = k := by omega
     subst hkm
     have hfin : Hid (Kd.R k2 30 wr B0 T u6 xss.flatten) := Lib.hid (by have := hR.out; rw [← hm.out, List.take_length] at this; exact this)
     go_wp2
     go_ret
     refine ⟨_, rfl, ?_, ?_⟩
     ·have := hfin.out
      rw [hB0.out] at this
      exact this
     ·have := hB.out
      rw [hB0.out, hw0.out] at this
      exact this
end Go.Proofs.YtkmlefbdhdlfmaaGreat.Stv
