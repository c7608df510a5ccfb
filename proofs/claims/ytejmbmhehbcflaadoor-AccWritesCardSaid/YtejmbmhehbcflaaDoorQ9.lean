/- Printed contracts (print.sh), gathered: stilemanref01_There, stilemanref01_Do, acc_Writes. -/
import Derived.Test.YtejmbmhehbcflaaDoorQ0
namespace Go.Proofs.YtejmbmhehbcflaaDoor.Pr
open Go.RowKit Go.Proofs.YtejmbmhehbcflaaDoorW.PrintWords Go.Proofs.YtejmbmhehbcflaaDoorW.PrintLast Go.Proofs.YtejmbmhehbcflaaDoorW.PrintMore
attribute [local go_sem] max2_int min2_int max_two min_two max_three min_three max_four min_four   -- for this text's walks alone
set_option linter.unusedVariables false
set_option linter.unusedSimpArgs false

/-! ### stilemanref01_There: function 75 -/
def stilemanref01_There.f (l0 : List Int) (a1 : Int) : Option (Bool) := if a1 ≥ 0 then (some (decide (a1 < (l0.length : Int)))) else (some false)
set_option maxHeartbeats 8000000 in
set_option maxRecDepth 100000 in
theorem stilemanref01_There.calls (A0 : Option Addr) (c0 : Nat) (l0 : List Int) (a1 : Int) (r : Bool) (w : World) (hr0 : Kd.C (Kd.int .u32) w A0 l0.length l0) (hc0 : l0.length ≤ c0) (h : stilemanref01_There.f l0 a1 = some r) :
    Calls Tryd.prog 75 #[.slice A0 l0.length c0, .int .i64 a1] w fun e w' => e = .returned (.bool r) ∧ Drawn0 w w' := by
  have HR0 := Aside0.mk hr0
  have HC0 := Aside0.mk hc0
  clear hr0 hc0
  have H : (if a1 ≥ 0 then (some (decide (a1 < (l0.length : Int)))) else (some false)) = some r := h
  clear h
  by_cases c3 : a1 ≥ 0
  · rw [if_pos c3] at H
    have c3b0 : decide (0 ≤ a1) = true := decide_eq_true c3
    clear c3
    obtain rfl := Option.some.inj H
    go_enter Tryd.func75, Tryd.ntmps75
    go_wp2
    go_ret
    exact ⟨by first | rfl | (simp; done) | (simp [*]; done), by repeat (first | exact Drawn0.refl _ | apply Drawn0.step)⟩
  · rw [if_neg c3] at H
    have c3b0 : decide (0 ≤ a1) = false := decide_eq_false c3
    clear c3
    obtain rfl := Option.some.inj H
    go_enter Tryd.func75, Tryd.ntmps75
    go_wp2
    go_ret
    exact ⟨by first | rfl | (simp; done) | (simp [*]; done), by repeat (first | exact Drawn0.refl _ | apply Drawn0.step)⟩

/-! ### stilemanref01_Do: function 35 -/
mutual
def stilemanref01_Do.j0 : Nat → List Int → Bool → Int → Int → Int → Int → Int → Option (Int × Int × Int × Int × Int × Bool × List Int)
  | 0, _, _, _, _, _, _, _ => none
  | k + 1, x0, x20, x136000, x136001, x136002, x136003, x136004 => if x20 = true then (some (0, 0, 0, 0, 0, false, x0)) else (if 0 ≤ x136001 then (if x136001 < (x0.length : Int) then (if x136000 = 2 then (stilemanref01_Do.j1 k x0 true x136000 x136001 x136002 x136003 (rd x0 x136001)) else (stilemanref01_Do.j1 k x0 (x136000 == 4) x136000 x136001 x136002 x136003 (rd x0 x136001))) else (none)) else (none))
def stilemanref01_Do.j1 : Nat → List Int → Bool → Int → Int → Int → Int → Int → Option (Int × Int × Int × Int × Int × Bool × List Int)
  | 0, _, _, _, _, _, _, _ => none
  | k + 1, x0, x35, x136000, x136001, x136002, x136003, x136004 => if x35 = true then (if 0 ≤ x136001 then (if x136001 < (x0.length : Int) then (stilemanref01_Do.j2 k (x0.set (x136001 : Int).toNat x136002) x136000 x136001 x136002 x136003 x136004) else (none)) else (none)) else (stilemanref01_Do.j2 k x0 x136000 x136001 x136002 x136003 x136004)
def stilemanref01_Do.j2 : Nat → List Int → Int → Int → Int → Int → Int → Option (Int × Int × Int × Int × Int × Bool × List Int)
  | 0, _, _, _, _, _, _ => none
  | k + 1, x0, x136000, x136001, x136002, x136003, x136004 => if x136000 = 3 then (if 0 ≤ x136001 then (if x136001 < (x0.length : Int) then ((some (x0.set (x136001 : Int).toNat ((x136004 + x136002) % 4294967296) : List Int)).bind fun y140 => (if x136000 = 5 then (if x136004 = x136002 then (some (x136000, x136001, x136002, x136003, x136004, true, (y140.set (x136001 : Int).toNat x136003))) else (some (x136000, x136001, x136002, x136003, x136004, true, y140))) else (some (x136000, x136001, x136002, x136003, x136004, true, y140)))) else (none)) else (none)) else (if x136000 = 5 then (if x136004 = x136002 then (if 0 ≤ x136001 then (if x136001 < (x0.length : Int) then (some (x136000, x136001, x136002, x136003, x136004, true, (x0.set (x136001 : Int).toNat x136003))) else (none)) else (none)) else (some (x136000, x136001, x136002, x136003, x136004, true, x0))) else (some (x136000, x136001, x136002, x136003, x136004, true, x0)))
end
def stilemanref01_Do.f (k : Nat) (l0 : List Int) (a1_0 : Int) (a1_1 : Int) (a1_2 : Int) (a1_3 : Int) (a1_4 : Int) : Option (Int × Int × Int × Int × Int × Bool × List Int) := (stilemanref01_There.f l0 a1_1).bind fun t137 => (if t137 = true then (if a1_0 < 1 then (stilemanref01_Do.j0 k l0 true a1_0 a1_1 a1_2 a1_3 a1_4) else (stilemanref01_Do.j0 k l0 (decide (a1_0 > 5)) a1_0 a1_1 a1_2 a1_3 a1_4)) else (stilemanref01_Do.j0 k l0 true a1_0 a1_1 a1_2 a1_3 a1_4))
theorem stilemanref01_Do.mono_l : ∀ k, (∀ y0 y1 y2 y3 y4 y5 y6, LeO (stilemanref01_Do.j0 k y0 y1 y2 y3 y4 y5 y6) (stilemanref01_Do.j0 (k + 1) y0 y1 y2 y3 y4 y5 y6)) ∧ (∀ y0 y1 y2 y3 y4 y5 y6, LeO (stilemanref01_Do.j1 k y0 y1 y2 y3 y4 y5 y6) (stilemanref01_Do.j1 (k + 1) y0 y1 y2 y3 y4 y5 y6)) ∧ (∀ y0 y1 y2 y3 y4 y5, LeO (stilemanref01_Do.j2 k y0 y1 y2 y3 y4 y5) (stilemanref01_Do.j2 (k + 1) y0 y1 y2 y3 y4 y5))
  | 0 => ⟨fun _ _ _ _ _ _ _ r h => by simp [stilemanref01_Do.j0] at h, fun _ _ _ _ _ _ _ r h => by simp [stilemanref01_Do.j1] at h, fun _ _ _ _ _ _ r h => by simp [stilemanref01_Do.j2] at h⟩
  | k + 1 => by
    obtain ⟨ih0, ih1, ih2⟩ := stilemanref01_Do.mono_l k
    refine ⟨?_, ?_, ?_⟩
    · intro y0 y1 y2 y3 y4 y5 y6
      unfold stilemanref01_Do.j0
      repeat' first
      | (with_reducible exact ih0 _ _ _ _ _ _ _)
      | (with_reducible exact ih1 _ _ _ _ _ _ _)
      | (with_reducible exact ih2 _ _ _ _ _ _)
      | (with_reducible exact LeO.refl _)
      | (with_reducible exact LeO.none _)
      | (with_reducible refine LeO.ite ?_ ?_)
      | (with_reducible refine LeO.bind ?_ (fun _ => ?_))
      | exact ih0 _ _ _ _ _ _ _
      | exact ih1 _ _ _ _ _ _ _
      | exact ih2 _ _ _ _ _ _
      | exact LeO.none _
      | refine LeO.ite ?_ ?_
      | refine LeO.bind ?_ (fun _ => ?_)
    · intro y0 y1 y2 y3 y4 y5 y6
      unfold stilemanref01_Do.j1
      repeat' first
      | (with_reducible exact ih0 _ _ _ _ _ _ _)
      | (with_reducible exact ih1 _ _ _ _ _ _ _)
      | (with_reducible exact ih2 _ _ _ _ _ _)
      | (with_reducible exact LeO.refl _)
      | (with_reducible exact LeO.none _)
      | (with_reducible refine LeO.ite ?_ ?_)
      | (with_reducible refine LeO.bind ?_ (fun _ => ?_))
      | exact ih0 _ _ _ _ _ _ _
      | exact ih1 _ _ _ _ _ _ _
      | exact ih2 _ _ _ _ _ _
      | exact LeO.none _
      | refine LeO.ite ?_ ?_
      | refine LeO.bind ?_ (fun _ => ?_)
    · intro y0 y1 y2 y3 y4 y5
      unfold stilemanref01_Do.j2
      repeat' first
      | (with_reducible exact ih0 _ _ _ _ _ _ _)
      | (with_reducible exact ih1 _ _ _ _ _ _ _)
      | (with_reducible exact ih2 _ _ _ _ _ _)
      | (with_reducible exact LeO.refl _)
      | (with_reducible exact LeO.none _)
      | (with_reducible refine LeO.ite ?_ ?_)
      | (with_reducible refine LeO.bind ?_ (fun _ => ?_))
      | exact ih0 _ _ _ _ _ _ _
      | exact ih1 _ _ _ _ _ _ _
      | exact ih2 _ _ _ _ _ _
      | exact LeO.none _
      | refine LeO.ite ?_ ?_
      | refine LeO.bind ?_ (fun _ => ?_)
theorem stilemanref01_Do.mono : ∀ a0 a1 a2 a3 a4 a5 k, LeO (stilemanref01_Do.f k a0 a1 a2 a3 a4 a5) (stilemanref01_Do.f (k + 1) a0 a1 a2 a3 a4 a5) := by
  intro a0 a1 a2 a3 a4 a5 k
  obtain ⟨ih0, ih1, ih2⟩ := stilemanref01_Do.mono_l k
  unfold stilemanref01_Do.f
  repeat' first
      | (with_reducible exact ih0 _ _ _ _ _ _ _)
      | (with_reducible exact ih1 _ _ _ _ _ _ _)
      | (with_reducible exact ih2 _ _ _ _ _ _)
      | (with_reducible exact LeO.refl _)
      | (with_reducible exact LeO.none _)
      | (with_reducible refine LeO.ite ?_ ?_)
      | (with_reducible refine LeO.bind ?_ (fun _ => ?_))
      | exact ih0 _ _ _ _ _ _ _
      | exact ih1 _ _ _ _ _ _ _
      | exact ih2 _ _ _ _ _ _
      | exact LeO.none _
      | refine LeO.ite ?_ ?_
      | refine LeO.bind ?_ (fun _ => ?_)
set_option maxHeartbeats 8000000 in
set_option maxRecDepth 100000 in
theorem stilemanref01_Do.calls (k : Nat) (P0_ : Nat → Prop) (u9000_ : Value) (l0 : List Int) (a1_0 : Int) (a1_1 : Int) (a1_2 : Int) (a1_3 : Int) (a1_4 : Int) (r1 : Int) (r2 : Int) (r3 : Int) (r4 : Int) (r5 : Int) (r6 : Bool) (r7 : List Int) (w0 w : World) (hB : Below w0.heap.size w0 w) (ho0 : Kd.R (Kd.int .u32) 46 w w0.heap.size P0_ u9000_ l0) (h : stilemanref01_Do.f k l0 a1_0 a1_1 a1_2 a1_3 a1_4 = some (r1, r2, r3, r4, r5, r6, r7)) :
    Calls Tryd.prog 35 #[u9000_, .agg #[.int .i64 a1_0, .int .i64 a1_1, .int .u32 a1_2, .int .u32 a1_3, .int .u32 a1_4]] w fun e w' => e = .returned (.tuple #[.agg #[.int .i64 r1, .int .i64 r2, .int .u32 r3, .int .u32 r4, .int .u32 r5], .bool r6]) ∧ Kd.R (Kd.int .u32) 46 w' w0.heap.size (fun k_ => (P0_ k_ ∨ w.heap.size ≤ k_)) u9000_ r7 ∧ Below w0.heap.size w0 w' ∧ Kept w w' (fun k_ => P0_ k_) := by
  have hu48 := Tryd.underlying48
  have HO0 := Aside0.mk (show Kd.R (Kd.int .u32) 46 w w0.heap.size (fun k_ => (P0_ k_ ∨ w.heap.size ≤ k_)) u9000_ l0 from Kd.R_mono ho0 (fun k_ hk => (.inl hk)))
  have HK := Aside0.mk (Kept.refl w (fun k_ => P0_ k_))
  have HW0 := Aside0.mk hB.size
  have HB := Aside0.mk hB
  clear hB
  have H : ((stilemanref01_There.f l0 a1_1).bind fun t137 => (if t137 = true then (if a1_0 < 1 then (stilemanref01_Do.j0 k l0 true a1_0 a1_1 a1_2 a1_3 a1_4) else (stilemanref01_Do.j0 k l0 (decide (a1_0 > 5)) a1_0 a1_1 a1_2 a1_3 a1_4)) else (stilemanref01_Do.j0 k l0 true a1_0 a1_1 a1_2 a1_3 a1_4))) = some (r1, r2, r3, r4, r5, r6, r7) := h
  clear h
  have HC3 := Aside0.mk H
  clear H
  go_enter Tryd.func35, Tryd.ntmps35
  go_upto_region 1 with (first | ((with_reducible refine gate_dst (N := 3) rfl ?_); refine box_event ?hg (N := 3) ?hd (cs := #[.int .i64 a1_0, .int .i64 a1_1, .int .u32 a1_2, .int .u32 a1_3, .int .u32 a1_4]) (t := 48) ?hr ?_; (case hd => rfl); (case hg => rfl); (case hr => first | (go_simp; done) | (go_simp; rfl)); intro gb135 hg w4 hbox hb; have n0_ := Aside0.mk (Kd.R_below (by (with_reducible repeat (first | apply Kd.R_alloc | apply Kd.R_drewN | apply Kd.R_drew)); exact HO0.out) hb); have n1_ := Aside0.mk (Kept.below (S := (fun k_ => P0_ k_)) (by repeat (first | (with_reducible first | exact HK.out | apply Kept.alloc | apply Kept.drewN | apply Kept.drew) | exact HK.out)) hb); have n2_ := Aside0.mk (below_step (by repeat (first | (with_reducible first | exact HB.out | apply below_alloc | apply pw_below_drewN | apply below_drew1) | exact HB.out)) hb); have n3_ := Aside0.mk (hbox); have n4_ := Aside0.mk ((by rw [hg]; exact (by first | exact HK.out.1 | exact (show Kept w _ (fun k_ => P0_ k_) from by repeat (first | (with_reducible first | exact HK.out | apply Kept.alloc | apply Kept.drewN | apply Kept.drew) | exact HK.out)).1) : w.heap.size ≤ gb135)); have n5_ := Aside0.mk ((by rw [hg]; exact (below_size (by repeat (first | (with_reducible first | exact HB.out | apply below_alloc | apply pw_below_drewN | apply below_drew1) | exact HB.out))) : w0.heap.size ≤ gb135)); clear HO0; clear HK; clear HB; have HO0 := n0_; have HK := n1_; have HB := n2_; have BK135 := n3_; have GW135 := n4_; have GE135 := n5_; clear n0_ n1_ n2_ n3_ n4_ n5_; clear hb hbox hg) | ((with_reducible refine gate_dst (N := 4) rfl ?_); refine box_event ?hg (N := 4) ?hd (cs := #[.int .i64 0, .int .i64 0, .int .u32 0, .int .u32 0, .int .u32 0]) (t := 48) ?hr ?_; (case hd => rfl); (case hg => rfl); (case hr => first | (go_simp; done) | (go_simp; rfl)); intro gb136 hg w5 hbox hb; have n0_ := Aside0.mk (Kd.R_below (by (with_reducible repeat (first | apply Kd.R_alloc | apply Kd.R_drewN | apply Kd.R_drew)); exact HO0.out) hb); have n1_ := Aside0.mk (blk_below (g := gb135) (o := .cells #[.int .i64 a1_0, .int .i64 a1_1, .int .u32 a1_2, .int .u32 a1_3, .int .u32 a1_4] 48 (0, 0)) (by (with_reducible repeat (first | refine blk_drewN ?_ _ | refine blk_drew ?_ | refine blk_alloc ?_ _)); exact BK135.out) hb); have n2_ := Aside0.mk (Kept.below (S := (fun k_ => P0_ k_)) (by repeat (first | (with_reducible first | exact HK.out | apply Kept.alloc | apply Kept.drewN | apply Kept.drew | refine Kept.setCell ?_ (.inr GW135.out) _) | exact HK.out)) hb); have n3_ := Aside0.mk (below_step (by repeat (first | (with_reducible first | exact HB.out | apply below_alloc | apply pw_below_drewN | apply below_drew1 | refine below_set ?_ GE135.out) | exact HB.out)) hb); have n4_ := Aside0.mk (hbox); have n5_ := Aside0.mk ((by rw [hg]; exact (by first | exact HK.out.1 | exact (show Kept w _ (fun k_ => P0_ k_) from by repeat (first | (with_reducible first | exact HK.out | apply Kept.alloc | apply Kept.drewN | apply Kept.drew | refine Kept.setCell ?_ (.inr GW135.out) _) | exact HK.out)).1) : w.heap.size ≤ gb136)); have n6_ := Aside0.mk ((by rw [hg]; exact (below_size (by repeat (first | (with_reducible first | exact HB.out | apply below_alloc | apply pw_below_drewN | apply below_drew1 | refine below_set ?_ GE135.out) | exact HB.out))) : w0.heap.size ≤ gb136)); have n7_ := Aside0.mk ((by rw [hg]; exact Nat.ne_of_lt (blk_lt (g := gb135) (o := .cells #[.int .i64 a1_0, .int .i64 a1_1, .int .u32 a1_2, .int .u32 a1_3, .int .u32 a1_4] 48 (0, 0)) (by (with_reducible repeat (first | refine blk_drewN ?_ _ | refine blk_drew ?_ | refine blk_alloc ?_ _)); exact BK135.out)) : gb135 ≠ gb136)); have n8_ := Aside0.mk ((by rw [hg]; exact Nat.ne_of_gt (blk_lt (g := gb135) (o := .cells #[.int .i64 a1_0, .int .i64 a1_1, .int .u32 a1_2, .int .u32 a1_3, .int .u32 a1_4] 48 (0, 0)) (by (with_reducible repeat (first | refine blk_drewN ?_ _ | refine blk_drew ?_ | refine blk_alloc ?_ _)); exact BK135.out)) : gb136 ≠ gb135)); clear HO0; clear BK135; clear HK; clear HB; have HO0 := n0_; have BK135 := n1_; have HK := n2_; have HB := n3_; have BK136 := n4_; have GW136 := n5_; have GE136 := n6_; have NB135_136 := n7_; have NB136_135 := n8_; clear n0_ n1_ n2_ n3_ n4_ n5_ n6_ n7_ n8_; clear hb hbox hg))
  (try simp only [Act.put, List.setIfInBounds_toArray, List.set_cons_zero, List.set_cons_succ])
  go_cut [20] (fun v20 wc => ∃ (kq : Nat) (x20_2 : Bool), v20 = .bool x20_2 ∧ Aside0 (stilemanref01_Do.j0 kq l0 x20_2 a1_0 a1_1 a1_2 a1_3 a1_4 = some (r1, r2, r3, r4, r5, r6, r7)) ∧ Aside0 (kq ≤ k) ∧ Aside0 (Kd.R (Kd.int .u32) 46 wc w0.heap.size (fun k_ => (P0_ k_ ∨ w.heap.size ≤ k_)) u9000_ l0) ∧ Aside0 (wc.heap[gb135]? = some (.cells #[.int .i64 a1_0, .int .i64 a1_1, .int .u32 a1_2, .int .u32 a1_3, .int .u32 a1_4] 48 (0, 0))) ∧ Aside0 (wc.heap[gb136]? = some (.cells #[.int .i64 0, .int .i64 0, .int .u32 0, .int .u32 0, .int .u32 0] 48 (0, 0))) ∧ Aside0 (Kept w wc (fun k_ => P0_ k_)) ∧ Aside0 (Below w0.heap.size w0 wc))
  case first =>
    have H := HC3.out
    clear HC3
    replace H := Option.bind_eq_some_iff.mp H
    obtain ⟨t137, A60, H⟩ := H
    replace H : (if t137 = true then (if a1_0 < 1 then (stilemanref01_Do.j0 k l0 true a1_0 a1_1 a1_2 a1_3 a1_4) else (stilemanref01_Do.j0 k l0 (decide (a1_0 > 5)) a1_0 a1_1 a1_2 a1_3 a1_4)) else (stilemanref01_Do.j0 k l0 true a1_0 a1_1 a1_2 a1_3 a1_4)) = some (r1, r2, r3, r4, r5, r6, r7) := H
    have A6 := Aside0.mk A60
    clear A60
    by_cases c7 : t137 = true
    · subst c7
      have H1 : (if a1_0 < 1 then (stilemanref01_Do.j0 k l0 true a1_0 a1_1 a1_2 a1_3 a1_4) else (stilemanref01_Do.j0 k l0 (decide (a1_0 > 5)) a1_0 a1_1 a1_2 a1_3 a1_4)) = some (r1, r2, r3, r4, r5, r6, r7) := by rw [if_pos rfl] at H; exact H
      clear H
      have H := H1
      clear H1
      by_cases c8 : a1_0 < 1
      · rw [if_pos c8] at H
        have c8b0 : decide (a1_0 < 1) = true := decide_eq_true c8
        clear c8
        (first | rw [c8b0] | (simp only [i64_w, i32_w]; rw [c8b0]) | skip)
        have H' := Aside0.mk H
        clear H
        have hnb9 := NB135_136.out
        have hnc9 := NB136_135.out
        have hcz10_0 : w5.cell? ⟨gb135, 0, none⟩ = some (.int .i64 a1_0) := (blk_cell BK135.out 0).trans rfl
        have hcz10_1 : w5.cell? ⟨gb135, 1, none⟩ = some (.int .i64 a1_1) := (blk_cell BK135.out 1).trans rfl
        have hcz10_2 : w5.cell? ⟨gb135, 2, none⟩ = some (.int .u32 a1_2) := (blk_cell BK135.out 2).trans rfl
        have hcz10_3 : w5.cell? ⟨gb135, 3, none⟩ = some (.int .u32 a1_3) := (blk_cell BK135.out 3).trans rfl
        have hcz10_4 : w5.cell? ⟨gb135, 4, none⟩ = some (.int .u32 a1_4) := (blk_cell BK135.out 4).trans rfl
        have hfz10_0 := blk_frozen BK135.out 0
        have hfz10_1 := blk_frozen BK135.out 1
        have hfz10_2 := blk_frozen BK135.out 2
        have hfz10_3 := blk_frozen BK135.out 3
        have hfz10_4 := blk_frozen BK135.out 4
        obtain ⟨Ao11, co11, eo11⟩ := Kd.R_slice HO0.out
        subst eo11
        go_wp2_with (first | ((with_reducible refine gate_callee (f := 75) rfl ?_); refine goesL_ (some 9) rfl rfl Tryd.func75 (by kernel_rfl) rfl #[.slice Ao11 l0.length co11, .int .i64 a1_1] rfl (by (try simp only [List.map_toArray, List.map_cons, List.map_nil]); first | done | rfl | (simp only [List.length_drop, List.length_take]; rfl)) ?_; (with_reducible refine (stilemanref01_There.calls _ _ l0 a1_1 true _ ?side1 ?side2 A6.out).mono ?_); (case side1 => repeat (first | exact (Kd.R_reads' HO0.out).2.2 | (with_reducible refine Kd.C_alloc ?_ _) | (with_reducible refine Kd.C_drewN ?_ _) | (with_reducible refine Kd.C_drew ?_))); (case side2 => exact (Kd.R_reads' HO0.out).2.1); rintro e w' ⟨rfl, ⟨nd, rfl⟩⟩; refine ⟨_, rfl, ?_⟩))
        go_meet
        case rel => exact ⟨_, (true), (by first | rfl | (simp; done) | (simp [*]; done)), H', ⟨by first | omega | exact Nat.le_refl _⟩, ⟨by (with_reducible repeat (first | apply Kd.R_alloc | apply Kd.R_drewN | apply Kd.R_drew)); exact HO0.out⟩, ⟨by (with_reducible repeat (first | refine blk_drewN ?_ _ | refine blk_drew ?_ | refine blk_alloc ?_ _)); exact BK135.out⟩, ⟨by (with_reducible repeat (first | refine blk_drewN ?_ _ | refine blk_drew ?_ | refine blk_alloc ?_ _)); exact BK136.out⟩, ⟨by repeat (first | (with_reducible first | exact HK.out | apply Kept.alloc | apply Kept.drewN | apply Kept.drew | refine Kept.setCell ?_ (.inr GW135.out) _ | refine Kept.setCell ?_ (.inr GW136.out) _) | exact HK.out)⟩, ⟨by repeat (first | (with_reducible first | exact HB.out | apply below_alloc | apply pw_below_drewN | apply below_drew1 | refine below_set ?_ GE135.out | refine below_set ?_ GE136.out) | exact HB.out)⟩⟩
      · rw [if_neg c8] at H
        have c8b0 : decide (a1_0 < 1) = false := decide_eq_false c8
        clear c8
        (first | rw [c8b0] | (simp only [i64_w, i32_w]; rw [c8b0]) | skip)
        have H' := Aside0.mk H
        clear H
        have hnb12 := NB135_136.out
        have hnc12 := NB136_135.out
        have hcz13_0 : w5.cell? ⟨gb135, 0, none⟩ = some (.int .i64 a1_0) := (blk_cell BK135.out 0).trans rfl
        have hcz13_1 : w5.cell? ⟨gb135, 1, none⟩ = some (.int .i64 a1_1) := (blk_cell BK135.out 1).trans rfl
        have hcz13_2 : w5.cell? ⟨gb135, 2, none⟩ = some (.int .u32 a1_2) := (blk_cell BK135.out 2).trans rfl
        have hcz13_3 : w5.cell? ⟨gb135, 3, none⟩ = some (.int .u32 a1_3) := (blk_cell BK135.out 3).trans rfl
        have hcz13_4 : w5.cell? ⟨gb135, 4, none⟩ = some (.int .u32 a1_4) := (blk_cell BK135.out 4).trans rfl
        have hfz13_0 := blk_frozen BK135.out 0
        have hfz13_1 := blk_frozen BK135.out 1
        have hfz13_2 := blk_frozen BK135.out 2
        have hfz13_3 := blk_frozen BK135.out 3
        have hfz13_4 := blk_frozen BK135.out 4
        obtain ⟨Ao14, co14, eo14⟩ := Kd.R_slice HO0.out
        subst eo14
        go_wp2_with (first | ((with_reducible refine gate_callee (f := 75) rfl ?_); refine goesL_ (some 9) rfl rfl Tryd.func75 (by kernel_rfl) rfl #[.slice Ao14 l0.length co14, .int .i64 a1_1] rfl (by (try simp only [List.map_toArray, List.map_cons, List.map_nil]); first | done | rfl | (simp only [List.length_drop, List.length_take]; rfl)) ?_; (with_reducible refine (stilemanref01_There.calls _ _ l0 a1_1 true _ ?side1 ?side2 A6.out).mono ?_); (case side1 => repeat (first | exact (Kd.R_reads' HO0.out).2.2 | (with_reducible refine Kd.C_alloc ?_ _) | (with_reducible refine Kd.C_drewN ?_ _) | (with_reducible refine Kd.C_drew ?_))); (case side2 => exact (Kd.R_reads' HO0.out).2.1); rintro e w' ⟨rfl, ⟨nd, rfl⟩⟩; refine ⟨_, rfl, ?_⟩))
        go_meet
        case rel => exact ⟨_, (decide (a1_0 > 5)), (by first | rfl | (simp; done) | (simp [*]; done)), H', ⟨by first | omega | exact Nat.le_refl _⟩, ⟨by (with_reducible repeat (first | apply Kd.R_alloc | apply Kd.R_drewN | apply Kd.R_drew)); exact HO0.out⟩, ⟨by (with_reducible repeat (first | refine blk_drewN ?_ _ | refine blk_drew ?_ | refine blk_alloc ?_ _)); exact BK135.out⟩, ⟨by (with_reducible repeat (first | refine blk_drewN ?_ _ | refine blk_drew ?_ | refine blk_alloc ?_ _)); exact BK136.out⟩, ⟨by repeat (first | (with_reducible first | exact HK.out | apply Kept.alloc | apply Kept.drewN | apply Kept.drew | refine Kept.setCell ?_ (.inr GW135.out) _ | refine Kept.setCell ?_ (.inr GW136.out) _) | exact HK.out)⟩, ⟨by repeat (first | (with_reducible first | exact HB.out | apply below_alloc | apply pw_below_drewN | apply below_drew1 | refine below_set ?_ GE135.out | refine below_set ?_ GE136.out) | exact HB.out)⟩⟩
    · replace c7 := Bool.eq_false_iff.mpr c7
      subst c7
      have H1 : (stilemanref01_Do.j0 k l0 true a1_0 a1_1 a1_2 a1_3 a1_4) = some (r1, r2, r3, r4, r5, r6, r7) := by rw [if_neg (show ¬ (false = true) by decide)] at H; exact H
      clear H
      have H := H1
      clear H1
      have H' := Aside0.mk H
      clear H
      have hnb15 := NB135_136.out
      have hnc15 := NB136_135.out
      have hcz16_0 : w5.cell? ⟨gb135, 0, none⟩ = some (.int .i64 a1_0) := (blk_cell BK135.out 0).trans rfl
      have hcz16_1 : w5.cell? ⟨gb135, 1, none⟩ = some (.int .i64 a1_1) := (blk_cell BK135.out 1).trans rfl
      have hcz16_2 : w5.cell? ⟨gb135, 2, none⟩ = some (.int .u32 a1_2) := (blk_cell BK135.out 2).trans rfl
      have hcz16_3 : w5.cell? ⟨gb135, 3, none⟩ = some (.int .u32 a1_3) := (blk_cell BK135.out 3).trans rfl
      have hcz16_4 : w5.cell? ⟨gb135, 4, none⟩ = some (.int .u32 a1_4) := (blk_cell BK135.out 4).trans rfl
      have hfz16_0 := blk_frozen BK135.out 0
      have hfz16_1 := blk_frozen BK135.out 1
      have hfz16_2 := blk_frozen BK135.out 2
      have hfz16_3 := blk_frozen BK135.out 3
      have hfz16_4 := blk_frozen BK135.out 4
      obtain ⟨Ao17, co17, eo17⟩ := Kd.R_slice HO0.out
      subst eo17
      go_wp2_with (first | ((with_reducible refine gate_callee (f := 75) rfl ?_); refine goesL_ (some 9) rfl rfl Tryd.func75 (by kernel_rfl) rfl #[.slice Ao17 l0.length co17, .int .i64 a1_1] rfl (by (try simp only [List.map_toArray, List.map_cons, List.map_nil]); first | done | rfl | (simp only [List.length_drop, List.length_take]; rfl)) ?_; (with_reducible refine (stilemanref01_There.calls _ _ l0 a1_1 false _ ?side1 ?side2 A6.out).mono ?_); (case side1 => repeat (first | exact (Kd.R_reads' HO0.out).2.2 | (with_reducible refine Kd.C_alloc ?_ _) | (with_reducible refine Kd.C_drewN ?_ _) | (with_reducible refine Kd.C_drew ?_))); (case side2 => exact (Kd.R_reads' HO0.out).2.1); rintro e w' ⟨rfl, ⟨nd, rfl⟩⟩; refine ⟨_, rfl, ?_⟩))
      go_meet
      case rel => exact ⟨_, (true), (by first | rfl | (simp; done) | (simp [*]; done)), H', ⟨by first | omega | exact Nat.le_refl _⟩, ⟨by (with_reducible repeat (first | apply Kd.R_alloc | apply Kd.R_drewN | apply Kd.R_drew)); exact HO0.out⟩, ⟨by (with_reducible repeat (first | refine blk_drewN ?_ _ | refine blk_drew ?_ | refine blk_alloc ?_ _)); exact BK135.out⟩, ⟨by (with_reducible repeat (first | refine blk_drewN ?_ _ | refine blk_drew ?_ | refine blk_alloc ?_ _)); exact BK136.out⟩, ⟨by repeat (first | (with_reducible first | exact HK.out | apply Kept.alloc | apply Kept.drewN | apply Kept.drew | refine Kept.setCell ?_ (.inr GW135.out) _ | refine Kept.setCell ?_ (.inr GW136.out) _) | exact HK.out)⟩, ⟨by repeat (first | (with_reducible first | exact HB.out | apply below_alloc | apply pw_below_drewN | apply below_drew1 | refine below_set ?_ GE135.out | refine below_set ?_ GE136.out) | exact HB.out)⟩⟩
  case rest =>
    clear HC3
    try clear c1
    try clear p2
    try clear c3
    try clear c7
    try clear c8
    try clear c8b0
    try clear c9
    try clear c12
    try clear c15
    try clear hcz10_0
    try clear hcz10_1
    try clear hcz10_2
    try clear hcz10_3
    try clear hcz10_4
    try clear hcz13_0
    try clear hcz13_1
    try clear hcz13_2
    try clear hcz13_3
    try clear hcz13_4
    try clear hcz16_0
    try clear hcz16_1
    try clear hcz16_2
    try clear hcz16_3
    try clear hcz16_4
    try clear hfz10_0
    try clear hfz10_1
    try clear hfz10_2
    try clear hfz10_3
    try clear hfz10_4
    try clear hfz13_0
    try clear hfz13_1
    try clear hfz13_2
    try clear hfz13_3
    try clear hfz13_4
    try clear hfz16_0
    try clear hfz16_1
    try clear hfz16_2
    try clear hfz16_3
    try clear hfz16_4
    obtain ⟨kq, x20_2, rfl, HA, HJ2, HO_0, BK135, BK136, HK, HB⟩ := hcut
    cases kq with
    | zero => exact absurd HA.out (by simp [stilemanref01_Do.j0])
    | succ kj2 =>
      have H := HA.out
      clear HA
      simp only [stilemanref01_Do.j0] at H
      by_cases c18 : x20_2 = true
      · subst c18
        have H1 : (some (0, 0, 0, 0, 0, false, l0)) = some (r1, r2, r3, r4, r5, r6, r7) := by rw [if_pos rfl] at H; exact H
        clear H
        have H := H1
        clear H1
        simp only [Option.some.injEq, Prod.mk.injEq] at H
        obtain ⟨rfl, rfl, rfl, rfl, rfl, rfl, rfl⟩ := H
        have hnb19 := NB136_135.out
        have hnc19 := NB135_136.out
        have hcz20_0 : wc.cell? ⟨gb136, 0, none⟩ = some (.int .i64 0) := (blk_cell BK136.out 0).trans rfl
        have hcz20_1 : wc.cell? ⟨gb136, 1, none⟩ = some (.int .i64 0) := (blk_cell BK136.out 1).trans rfl
        have hcz20_2 : wc.cell? ⟨gb136, 2, none⟩ = some (.int .u32 0) := (blk_cell BK136.out 2).trans rfl
        have hcz20_3 : wc.cell? ⟨gb136, 3, none⟩ = some (.int .u32 0) := (blk_cell BK136.out 3).trans rfl
        have hcz20_4 : wc.cell? ⟨gb136, 4, none⟩ = some (.int .u32 0) := (blk_cell BK136.out 4).trans rfl
        have hfz20_0 := blk_frozen BK136.out 0
        have hfz20_1 := blk_frozen BK136.out 1
        have hfz20_2 := blk_frozen BK136.out 2
        have hfz20_3 := blk_frozen BK136.out 3
        have hfz20_4 := blk_frozen BK136.out 4
        go_wp2
        refine bodyPost_ret (results_ct rfl _ _ gb136 48 #[.int .i64 0, .int .i64 0, .int .u32 0, .int .u32 0, .int .u32 0] (0, 0) _ rfl (by (with_reducible repeat (first | refine blk_drewN ?_ _ | refine blk_drew ?_ | refine blk_alloc ?_ _)); refine blk_put (cs := #[.int .i64 0, .int .i64 0, .int .u32 0, .int .u32 0, .int .u32 0]) ?_ 4 _ rfl; (with_reducible repeat (first | refine blk_drewN ?_ _ | refine blk_drew ?_ | refine blk_alloc ?_ _)); refine blk_put (cs := #[.int .i64 0, .int .i64 0, .int .u32 0, .int .u32 0, .int .u32 0]) ?_ 3 _ rfl; (with_reducible repeat (first | refine blk_drewN ?_ _ | refine blk_drew ?_ | refine blk_alloc ?_ _)); refine blk_put (cs := #[.int .i64 0, .int .i64 0, .int .u32 0, .int .u32 0, .int .u32 0]) ?_ 2 _ rfl; (with_reducible repeat (first | refine blk_drewN ?_ _ | refine blk_drew ?_ | refine blk_alloc ?_ _)); refine blk_put (cs := #[.int .i64 0, .int .i64 0, .int .u32 0, .int .u32 0, .int .u32 0]) ?_ 1 _ rfl; (with_reducible repeat (first | refine blk_drewN ?_ _ | refine blk_drew ?_ | refine blk_alloc ?_ _)); refine blk_put (cs := #[.int .i64 0, .int .i64 0, .int .u32 0, .int .u32 0, .int .u32 0]) ?_ 0 _ rfl; (with_reducible repeat (first | refine blk_drewN ?_ _ | refine blk_drew ?_ | refine blk_alloc ?_ _)); exact BK136.out) Tryd.underlying48 rfl (by kernel_rfl)) rfl ?_
        exact ⟨by first | rfl | (simp [errW_none, errW_some] <;> rfl) | (simp [*, errW_none, errW_some] <;> rfl), by (with_reducible repeat (first | apply Kd.R_alloc | apply Kd.R_drewN | apply Kd.R_drew)); exact Kd.R_mono (Kd.R_far (p := ⟨gb136, 4, none⟩) (Kd.R_far (p := ⟨gb136, 3, none⟩) (Kd.R_far (p := ⟨gb136, 2, none⟩) (Kd.R_far (p := ⟨gb136, 1, none⟩) (Kd.R_far (p := ⟨gb136, 0, none⟩) (Kd.R_types HO_0.out BK136.out (by decide)) (fun _ hk => hk.2) (.int .i64 0)) (fun _ hk => hk.2) (.int .i64 0)) (fun _ hk => hk.2) (.int .u32 0)) (fun _ hk => hk.2) (.int .u32 0)) (fun _ hk => hk.2) (.int .u32 0)) (fun _ hk => hk.1), by repeat (first | (with_reducible first | exact HB.out | apply below_alloc | apply pw_below_drewN | apply below_drew1 | refine below_set ?_ GE135.out | refine below_set ?_ GE136.out) | exact HB.out), by repeat (first | (with_reducible first | exact HK.out | apply Kept.alloc | apply Kept.drewN | apply Kept.drew | refine Kept.setCell ?_ (.inr GW135.out) _ | refine Kept.setCell ?_ (.inr GW136.out) _) | exact HK.out)⟩
      · replace c18 := Bool.eq_false_iff.mpr c18
        subst c18
        have H1 : (if 0 ≤ a1_1 then (if a1_1 < (l0.length : Int) then (if a1_0 = 2 then (stilemanref01_Do.j1 kj2 l0 true a1_0 a1_1 a1_2 a1_3 (rd l0 a1_1)) else (stilemanref01_Do.j1 kj2 l0 (a1_0 == 4) a1_0 a1_1 a1_2 a1_3 (rd l0 a1_1))) else (none)) else (none)) = some (r1, r2, r3, r4, r5, r6, r7) := by rw [if_neg (show ¬ (false = true) by decide)] at H; exact H
        clear H
        have H := H1
        clear H1
        by_cases c21 : 0 ≤ a1_1
        · rw [if_pos c21] at H
          have c21b0 : decide (0 ≤ a1_1) = true := decide_eq_true c21
          clear c21
          by_cases c22 : a1_1 < (l0.length : Int)
          · rw [if_pos c22] at H
            have c22b0 : decide (a1_1 < (l0.length : Int)) = true := decide_eq_true c22
            clear c22
            have HC23 := Aside0.mk H
            clear H
            have hnb24 := NB135_136.out
            have hnc24 := NB136_135.out
            have hcz25_0 : wc.cell? ⟨gb135, 0, none⟩ = some (.int .i64 a1_0) := (blk_cell BK135.out 0).trans rfl
            have hcz25_1 : wc.cell? ⟨gb135, 1, none⟩ = some (.int .i64 a1_1) := (blk_cell BK135.out 1).trans rfl
            have hcz25_2 : wc.cell? ⟨gb135, 2, none⟩ = some (.int .u32 a1_2) := (blk_cell BK135.out 2).trans rfl
            have hcz25_3 : wc.cell? ⟨gb135, 3, none⟩ = some (.int .u32 a1_3) := (blk_cell BK135.out 3).trans rfl
            have hcz25_4 : wc.cell? ⟨gb135, 4, none⟩ = some (.int .u32 a1_4) := (blk_cell BK135.out 4).trans rfl
            have hfz25_0 := blk_frozen BK135.out 0
            have hfz25_1 := blk_frozen BK135.out 1
            have hfz25_2 := blk_frozen BK135.out 2
            have hfz25_3 := blk_frozen BK135.out 3
            have hfz25_4 := blk_frozen BK135.out 4
            obtain ⟨Ao26, co26, eo26⟩ := Kd.R_slice HO_0.out
            subst eo26
            have p138 : 0 ≤ (a1_1 : Int) := of_decide_eq_true (by first | (with_reducible assumption) | assumption)
            have q138 : a1_1 < (l0.length : Int) := of_decide_eq_true (by first | (with_reducible assumption) | assumption)
            obtain ⟨ad138, e138, hx138_0⟩ := Kd.at_int (Kd.R_reads' HO_0.out).2.2 a1_1 p138 q138
            cases e138
            replace p138 := eq_true p138
            replace q138 := eq_true q138
            go_upto_region 4 with (fail)
            go_cut [35] (fun v35 wc => ∃ (kq : Nat) (x35_22 : Bool), v35 = .bool x35_22 ∧ Aside0 (stilemanref01_Do.j1 kq l0 x35_22 a1_0 a1_1 a1_2 a1_3 (rd l0 a1_1) = some (r1, r2, r3, r4, r5, r6, r7)) ∧ Aside0 (kq ≤ kj2) ∧ Aside0 (Kd.R (Kd.int .u32) 46 wc w0.heap.size (fun k_ => (P0_ k_ ∨ w.heap.size ≤ k_)) (.slice (some ad138) l0.length co26) l0) ∧ Aside0 (wc.heap[gb135]? = some (.cells #[.int .i64 a1_0, .int .i64 a1_1, .int .u32 a1_2, .int .u32 a1_3, .int .u32 (rd l0 a1_1)] 48 (0, 0))) ∧ Aside0 (wc.heap[gb136]? = some (.cells #[.int .i64 0, .int .i64 0, .int .u32 0, .int .u32 0, .int .u32 0] 48 (0, 0))) ∧ Aside0 (Kept w wc (fun k_ => P0_ k_)) ∧ Aside0 (Below w0.heap.size w0 wc))
            case first =>
              have H := HC23.out
              clear HC23
              by_cases c27 : a1_0 = 2
              · rw [if_pos c27] at H
                have c27b0 : (a1_0 == 2) = true := beq_iff_eq.mpr c27
                have c27b1 : (a1_0 != 2) = false := bne_eq_false_iff_eq.mpr c27
                clear c27
                (first | rw [c27b0] | (simp only [i64_w, i32_w]; rw [c27b0]) | skip)
                have H' := Aside0.mk H
                clear H
                have hnb28 := NB135_136.out
                have hnc28 := NB136_135.out
                have hcz29_0 : wc.cell? ⟨gb135, 0, none⟩ = some (.int .i64 a1_0) := (blk_cell BK135.out 0).trans rfl
                have hcz29_1 : wc.cell? ⟨gb135, 1, none⟩ = some (.int .i64 a1_1) := (blk_cell BK135.out 1).trans rfl
                have hcz29_2 : wc.cell? ⟨gb135, 2, none⟩ = some (.int .u32 a1_2) := (blk_cell BK135.out 2).trans rfl
                have hcz29_3 : wc.cell? ⟨gb135, 3, none⟩ = some (.int .u32 a1_3) := (blk_cell BK135.out 3).trans rfl
                have hcz29_4 : wc.cell? ⟨gb135, 4, none⟩ = some (.int .u32 a1_4) := (blk_cell BK135.out 4).trans rfl
                have hfz29_0 := blk_frozen BK135.out 0
                have hfz29_1 := blk_frozen BK135.out 1
                have hfz29_2 := blk_frozen BK135.out 2
                have hfz29_3 := blk_frozen BK135.out 3
                have hfz29_4 := blk_frozen BK135.out 4
                go_wp2
                go_meet
                case rel => exact ⟨_, (true), (by first | rfl | (simp; done) | (simp [*]; done)), H', ⟨by have := HJ2.out; first | omega | exact Nat.le_refl _⟩, ⟨by (with_reducible repeat (first | apply Kd.R_alloc | apply Kd.R_drewN | apply Kd.R_drew)); exact Kd.R_mono (Kd.R_far (p := ⟨gb135, 4, none⟩) (Kd.R_types HO_0.out BK135.out (by decide)) (fun _ hk => hk.2) (.int .u32 (rd l0 a1_1))) (fun _ hk => hk.1)⟩, ⟨by (with_reducible repeat (first | refine blk_drewN ?_ _ | refine blk_drew ?_ | refine blk_alloc ?_ _)); refine blk_put (cs := #[.int .i64 a1_0, .int .i64 a1_1, .int .u32 a1_2, .int .u32 a1_3, .int .u32 a1_4]) ?_ 4 _ rfl; (with_reducible repeat (first | refine blk_drewN ?_ _ | refine blk_drew ?_ | refine blk_alloc ?_ _)); exact BK135.out⟩, ⟨by (with_reducible repeat (first | refine blk_drewN ?_ _ | refine blk_drew ?_ | refine blk_alloc ?_ _)); refine blk_far ?_ NB136_135.out _; (with_reducible repeat (first | refine blk_drewN ?_ _ | refine blk_drew ?_ | refine blk_alloc ?_ _)); exact BK136.out⟩, ⟨by repeat (first | (with_reducible first | exact HK.out | apply Kept.alloc | apply Kept.drewN | apply Kept.drew | refine Kept.setCell ?_ (.inr GW135.out) _ | refine Kept.setCell ?_ (.inr GW136.out) _) | exact HK.out)⟩, ⟨by repeat (first | (with_reducible first | exact HB.out | apply below_alloc | apply pw_below_drewN | apply below_drew1 | refine below_set ?_ GE135.out | refine below_set ?_ GE136.out) | exact HB.out)⟩⟩
              · rw [if_neg c27] at H
                have c27b0 : (a1_0 == 2) = false := beq_eq_false_iff_ne.mpr c27
                have c27b1 : (a1_0 != 2) = true := bne_iff_ne.mpr c27
                (first | rw [c27b0] | (simp only [i64_w, i32_w]; rw [c27b0]) | skip)
                have H' := Aside0.mk H
                clear H
                have hnb30 := NB135_136.out
                have hnc30 := NB136_135.out
                have hcz31_0 : wc.cell? ⟨gb135, 0, none⟩ = some (.int .i64 a1_0) := (blk_cell BK135.out 0).trans rfl
                have hcz31_1 : wc.cell? ⟨gb135, 1, none⟩ = some (.int .i64 a1_1) := (blk_cell BK135.out 1).trans rfl
                have hcz31_2 : wc.cell? ⟨gb135, 2, none⟩ = some (.int .u32 a1_2) := (blk_cell BK135.out 2).trans rfl
                have hcz31_3 : wc.cell? ⟨gb135, 3, none⟩ = some (.int .u32 a1_3) := (blk_cell BK135.out 3).trans rfl
                have hcz31_4 : wc.cell? ⟨gb135, 4, none⟩ = some (.int .u32 a1_4) := (blk_cell BK135.out 4).trans rfl
                have hfz31_0 := blk_frozen BK135.out 0
                have hfz31_1 := blk_frozen BK135.out 1
                have hfz31_2 := blk_frozen BK135.out 2
                have hfz31_3 := blk_frozen BK135.out 3
                have hfz31_4 := blk_frozen BK135.out 4
                go_wp2
                go_meet
                case rel => exact ⟨_, ((a1_0 == 4)), (by first | rfl | (simp; done) | (simp [*]; done)), H', ⟨by have := HJ2.out; first | omega | exact Nat.le_refl _⟩, ⟨by (with_reducible repeat (first | apply Kd.R_alloc | apply Kd.R_drewN | apply Kd.R_drew)); exact Kd.R_mono (Kd.R_far (p := ⟨gb135, 4, none⟩) (Kd.R_types HO_0.out BK135.out (by decide)) (fun _ hk => hk.2) (.int .u32 (rd l0 a1_1))) (fun _ hk => hk.1)⟩, ⟨by (with_reducible repeat (first | refine blk_drewN ?_ _ | refine blk_drew ?_ | refine blk_alloc ?_ _)); refine blk_put (cs := #[.int .i64 a1_0, .int .i64 a1_1, .int .u32 a1_2, .int .u32 a1_3, .int .u32 a1_4]) ?_ 4 _ rfl; (with_reducible repeat (first | refine blk_drewN ?_ _ | refine blk_drew ?_ | refine blk_alloc ?_ _)); exact BK135.out⟩, ⟨by (with_reducible repeat (first | refine blk_drewN ?_ _ | refine blk_drew ?_ | refine blk_alloc ?_ _)); refine blk_far ?_ NB136_135.out _; (with_reducible repeat (first | refine blk_drewN ?_ _ | refine blk_drew ?_ | refine blk_alloc ?_ _)); exact BK136.out⟩, ⟨by repeat (first | (with_reducible first | exact HK.out | apply Kept.alloc | apply Kept.drewN | apply Kept.drew | refine Kept.setCell ?_ (.inr GW135.out) _ | refine Kept.setCell ?_ (.inr GW136.out) _) | exact HK.out)⟩, ⟨by repeat (first | (with_reducible first | exact HB.out | apply below_alloc | apply pw_below_drewN | apply below_drew1 | refine below_set ?_ GE135.out | refine below_set ?_ GE136.out) | exact HB.out)⟩⟩
            case rest =>
              clear HC23
              try clear c1
              try clear p1
              try clear q1
              try clear hx1
              try clear c2
              try clear p2
              try clear c3
              try clear c7
              try clear c8
              try clear c8b0
              try clear c9
              try clear c12
              try clear p13
              try clear q13
              try clear hx13
              try clear c15
              try clear c18
              try clear c19
              try clear c21
              try clear c21b0
              try clear c22
              try clear c22b0
              try clear c24
              try clear c27
              try clear c27b0
              try clear c27b1
              try clear c28
              try clear c30
              try clear hcz10_0
              try clear hcz10_1
              try clear hcz10_2
              try clear hcz10_3
              try clear hcz10_4
              try clear hcz13_0
              try clear hcz13_1
              try clear hcz13_2
              try clear hcz13_3
              try clear hcz13_4
              try clear hcz16_0
              try clear hcz16_1
              try clear hcz16_2
              try clear hcz16_3
              try clear hcz16_4
              try clear hcz20_0
              try clear hcz20_1
              try clear hcz20_2
              try clear hcz20_3
              try clear hcz20_4
              try clear hcz25_0
              try clear hcz25_1
              try clear hcz25_2
              try clear hcz25_3
              try clear hcz25_4
              try clear hcz29_0
              try clear hcz29_1
              try clear hcz29_2
              try clear hcz29_3
              try clear hcz29_4
              try clear hcz31_0
              try clear hcz31_1
              try clear hcz31_2
              try clear hcz31_3
              try clear hcz31_4
              try clear hfz10_0
              try clear hfz10_1
              try clear hfz10_2
              try clear hfz10_3
              try clear hfz10_4
              try clear hfz13_0
              try clear hfz13_1
              try clear hfz13_2
              try clear hfz13_3
              try clear hfz13_4
              try clear hfz16_0
              try clear hfz16_1
              try clear hfz16_2
              try clear hfz16_3
              try clear hfz16_4
              try clear hfz20_0
              try clear hfz20_1
              try clear hfz20_2
              try clear hfz20_3
              try clear hfz20_4
              try clear hfz25_0
              try clear hfz25_1
              try clear hfz25_2
              try clear hfz25_3
              try clear hfz25_4
              try clear hfz29_0
              try clear hfz29_1
              try clear hfz29_2
              try clear hfz29_3
              try clear hfz29_4
              try clear hfz31_0
              try clear hfz31_1
              try clear hfz31_2
              try clear hfz31_3
              try clear hfz31_4
              try clear hx138_0
              try clear p138
              try clear p2
              try clear q138
              obtain ⟨kq, x35_22, rfl, HA, HJ22, HO_0, BK135, BK136, HK, HB⟩ := hcut
              cases kq with
              | zero => exact absurd HA.out (by simp [stilemanref01_Do.j1])
              | succ kj22 =>
                have H := HA.out
                clear HA
                simp only [stilemanref01_Do.j1] at H
                have HC32 := Aside0.mk H
                clear H
                go_upto_if 35 with (fail)
                go_cut [] (fun wc => ∃ (kq : Nat) (x0_31 : List Int), Aside0 (stilemanref01_Do.j2 kq x0_31 a1_0 a1_1 a1_2 a1_3 (rd l0 a1_1) = some (r1, r2, r3, r4, r5, r6, r7)) ∧ Aside0 (kq ≤ kj22) ∧ Aside0 (Kd.R (Kd.int .u32) 46 wc w0.heap.size (fun k_ => (P0_ k_ ∨ w.heap.size ≤ k_)) (.slice (some ad138) l0.length co26) x0_31) ∧ Aside0 (wc.heap[gb135]? = some (.cells #[.int .i64 a1_0, .int .i64 a1_1, .int .u32 a1_2, .int .u32 a1_3, .int .u32 (rd l0 a1_1)] 48 (0, 0))) ∧ Aside0 (wc.heap[gb136]? = some (.cells #[.int .i64 0, .int .i64 0, .int .u32 0, .int .u32 0, .int .u32 0] 48 (0, 0))) ∧ Aside0 (Kept w wc (fun k_ => P0_ k_)) ∧ Aside0 (Below w0.heap.size w0 wc))
                case first =>
                  have H := HC32.out
                  clear HC32
                  by_cases c33 : x35_22 = true
                  · subst c33
                    have H1 : (if 0 ≤ a1_1 then (if a1_1 < (l0.length : Int) then (stilemanref01_Do.j2 kj22 (l0.set (a1_1 : Int).toNat a1_2) a1_0 a1_1 a1_2 a1_3 (rd l0 a1_1)) else (none)) else (none)) = some (r1, r2, r3, r4, r5, r6, r7) := by rw [if_pos rfl] at H; exact H
                    clear H
                    have H := H1
                    clear H1
                    by_cases c34 : 0 ≤ a1_1
                    · rw [if_pos c34] at H
                      have c34b0 : decide (0 ≤ a1_1) = true := decide_eq_true c34
                      clear c34
                      (first | rw [c34b0] | (simp only [i64_w, i32_w]; rw [c34b0]) | skip)
                      by_cases c35 : a1_1 < (l0.length : Int)
                      · rw [if_pos c35] at H
                        have c35b0 : decide (a1_1 < (l0.length : Int)) = true := decide_eq_true c35
                        clear c35
                        obtain ⟨y139, hy139⟩ : ∃ y_ : List Int, y_ = (l0.set (a1_1 : Int).toNat a1_2) := ⟨_, rfl⟩
                        replace H : (stilemanref01_Do.j2 kj22 y139 a1_0 a1_1 a1_2 a1_3 (rd l0 a1_1)) = some (r1, r2, r3, r4, r5, r6, r7) := by first | (rw [hy139]; with_reducible exact H) | (have H2_ := (Option.bind_some _ _).symm.trans H; rw [hy139]; with_reducible exact H2_) | (have H2_ := (Option.bind_some _ _).symm.trans H; with_reducible exact H2_) | with_reducible exact H | (rw [hy139]; exact H) | exact H
                        have Ny139 := Aside0.mk hy139
                        clear hy139
                        have H' := Aside0.mk H
                        clear H
                        have hnb37 := NB135_136.out
                        have hnc37 := NB136_135.out
                        have hcz38_0 : wc.cell? ⟨gb135, 0, none⟩ = some (.int .i64 a1_0) := (blk_cell BK135.out 0).trans rfl
                        have hcz38_1 : wc.cell? ⟨gb135, 1, none⟩ = some (.int .i64 a1_1) := (blk_cell BK135.out 1).trans rfl
                        have hcz38_2 : wc.cell? ⟨gb135, 2, none⟩ = some (.int .u32 a1_2) := (blk_cell BK135.out 2).trans rfl
                        have hcz38_3 : wc.cell? ⟨gb135, 3, none⟩ = some (.int .u32 a1_3) := (blk_cell BK135.out 3).trans rfl
                        have hcz38_4 : wc.cell? ⟨gb135, 4, none⟩ = some (.int .u32 (rd l0 a1_1)) := (blk_cell BK135.out 4).trans rfl
                        have hfz38_0 := blk_frozen BK135.out 0
                        have hfz38_1 := blk_frozen BK135.out 1
                        have hfz38_2 := blk_frozen BK135.out 2
                        have hfz38_3 := blk_frozen BK135.out 3
                        have hfz38_4 := blk_frozen BK135.out 4
                        have p36 : 0 ≤ (a1_1 : Int) := of_decide_eq_true (by first | (with_reducible assumption) | assumption)
                        have q36 : (a1_1 : Int) < ((l0.length : Int) : Int) := of_decide_eq_true (by first | (with_reducible assumption) | assumption)
                        obtain ⟨go36, co36, eo36, gb36, gl36, cl36, HG36⟩ := Kd.R_form HO_0.out (by omega)
                        (first | cases eo36 | (injection eo36 with ea_ en_ ec_; (first | subst ea_ | (injection ea_ with ea_; subst ea_)); subst ec_; clear en_))
                        have GB36 := Aside0.mk gb36
                        have GG36 := Aside0.mk HG36
                        clear gb36 gl36 HG36
                        have HMgo36 := Aside0.mk (show (P0_ go36 ∨ w.heap.size ≤ go36) from (HO_0.out.1 _ rfl))
                        (first | simp only [add_plain] at hx138_0 | skip)
                        obtain ⟨hx36_0, hf36_0⟩ := Kd.R_celln 0 HO_0.out (a1_1 : Int) p36 q36
                        replace p36 := eq_true p36
                        replace q36 := eq_true q36
                        have HP39 := Kd.R_putg HO_0.out (a1_1 : Int) a1_2
                        go_wp2_with (first | ((with_reducible refine gate_store (t := 46) (p := 41) rfl ?_); refine store_event (t := 46) (p := 41) (v := ?vo_w40) (w1 := (wc.setCell ⟨go36, (a1_1 : Int).toNat, none⟩ (.int .u32 a1_2))) ?hg ?ho ?hn ?hr ?_; (case ho => rfl); (case hg => rfl); (case hn => rfl); (case hr => first | (go_simp; done) | (go_simp; rfl)); intro w40 hw; have hg : wc.grownBy w40 (some go36) := (by rw [hw]; exact HP39.2); have hp_ : Kd.R (Kd.int .u32) 46 w40 w0.heap.size (fun k_ => (P0_ k_ ∨ w.heap.size ≤ k_)) (.slice (some ⟨go36, 0, none⟩) l0.length co26) y139 := (by rw [hw, Ny139.out]; exact HP39.1); clear HP39; have n0_ := Aside0.mk (hp_); have n1_ := Aside0.mk (blk_grown (g := gb135) (o := .cells #[.int .i64 a1_0, .int .i64 a1_1, .int .u32 a1_2, .int .u32 a1_3, .int .u32 (rd l0 a1_1)] 48 (0, 0)) (by (with_reducible repeat (first | refine blk_drewN ?_ _ | refine blk_drew ?_ | refine blk_alloc ?_ _)); exact BK135.out) hg (Kd.R_ne HO_0.out BK135.out (by decide))); have n2_ := Aside0.mk (blk_grown (g := gb136) (o := .cells #[.int .i64 0, .int .i64 0, .int .u32 0, .int .u32 0, .int .u32 0] 48 (0, 0)) (by (with_reducible repeat (first | refine blk_drewN ?_ _ | refine blk_drew ?_ | refine blk_alloc ?_ _)); exact BK136.out) hg (Kd.R_ne HO_0.out BK136.out (by decide))); have n3_ := Aside0.mk ((by rw [hw]; exact below_set (HB.out) GB36.out : Below w0.heap.size w0 w40)); have n4_ := Aside0.mk (Kept.of_grown (S := (fun k_ => P0_ k_)) hg (by repeat (first | (with_reducible first | exact HK.out | apply Kept.alloc | apply Kept.drewN | apply Kept.drew | refine Kept.setCell ?_ (.inr GW135.out) _ | refine Kept.setCell ?_ (.inr GW136.out) _) | exact HK.out)) (fun k_ e_ => (HO_0.out.1 k_ e_))); clear HO_0; clear BK135; clear BK136; clear HB; clear HK; have HO_0 := n0_; have BK135 := n1_; have BK136 := n2_; have HB := n3_; have HK := n4_; clear n0_ n1_ n2_ n3_ n4_; clear hg hw hp_))
                        go_meet
                        case rel => exact ⟨_, (y139), H', ⟨by have := HJ2.out; have := HJ22.out; first | omega | exact Nat.le_refl _⟩, ⟨by (with_reducible repeat (first | apply Kd.R_alloc | apply Kd.R_drewN | apply Kd.R_drew)); exact HO_0.out⟩, ⟨by (with_reducible repeat (first | refine blk_drewN ?_ _ | refine blk_drew ?_ | refine blk_alloc ?_ _)); exact BK135.out⟩, ⟨by (with_reducible repeat (first | refine blk_drewN ?_ _ | refine blk_drew ?_ | refine blk_alloc ?_ _)); exact BK136.out⟩, ⟨by repeat (first | (with_reducible first | exact HK.out | apply Kept.alloc | apply Kept.drewN | apply Kept.drew | refine Kept.setCell ?_ (.inr GW135.out) _ | refine Kept.setCell ?_ (.inr GW136.out) _) | exact HK.out)⟩, ⟨by repeat (first | (with_reducible first | exact HB.out | apply below_alloc | apply pw_below_drewN | apply below_drew1 | refine below_set ?_ GE135.out | refine below_set ?_ GE136.out) | exact HB.out)⟩⟩
                      · rw [if_neg c35] at H
                        exact absurd H (by simp)
                    · rw [if_neg c34] at H
                      exact absurd H (by simp)
                  · replace c33 := Bool.eq_false_iff.mpr c33
                    subst c33
                    have H1 : (stilemanref01_Do.j2 kj22 l0 a1_0 a1_1 a1_2 a1_3 (rd l0 a1_1)) = some (r1, r2, r3, r4, r5, r6, r7) := by rw [if_neg (show ¬ (false = true) by decide)] at H; exact H
                    clear H
                    have H := H1
                    clear H1
                    have H' := Aside0.mk H
                    clear H
                    go_wp2
                    go_meet
                    case rel => exact ⟨_, (l0), H', ⟨by have := HJ2.out; have := HJ22.out; first | omega | exact Nat.le_refl _⟩, ⟨by (with_reducible repeat (first | apply Kd.R_alloc | apply Kd.R_drewN | apply Kd.R_drew)); exact HO_0.out⟩, ⟨by (with_reducible repeat (first | refine blk_drewN ?_ _ | refine blk_drew ?_ | refine blk_alloc ?_ _)); exact BK135.out⟩, ⟨by (with_reducible repeat (first | refine blk_drewN ?_ _ | refine blk_drew ?_ | refine blk_alloc ?_ _)); exact BK136.out⟩, ⟨by repeat (first | (with_reducible first | exact HK.out | apply Kept.alloc | apply Kept.drewN | apply Kept.drew | refine Kept.setCell ?_ (.inr GW135.out) _ | refine Kept.setCell ?_ (.inr GW136.out) _) | exact HK.out)⟩, ⟨by repeat (first | (with_reducible first | exact HB.out | apply below_alloc | apply pw_below_drewN | apply below_drew1 | refine below_set ?_ GE135.out | refine below_set ?_ GE136.out) | exact HB.out)⟩⟩
                case rest =>
                  clear HC32
                  try clear c1
                  try clear p1
                  try clear q1
                  try clear hx1
                  try clear c2
                  try clear p2
                  try clear c3
                  try clear p3
                  try clear q3
                  try clear hx3
                  try clear hf3
                  try clear c7
                  try clear c8
                  try clear c8b0
                  try clear c9
                  try clear c12
                  try clear p13
                  try clear q13
                  try clear hx13
                  try clear c15
                  try clear c18
                  try clear c19
                  try clear c21
                  try clear c21b0
                  try clear c22
                  try clear c22b0
                  try clear c24
                  try clear c27
                  try clear c27b0
                  try clear c27b1
                  try clear c28
                  try clear c30
                  try clear c33
                  try clear c34
                  try clear c34b0
                  try clear c35
                  try clear c35b0
                  try clear p36
                  try clear q36
                  try clear hx36
                  try clear hf36
                  try clear c37
                  try clear hcz10_0
                  try clear hcz10_1
                  try clear hcz10_2
                  try clear hcz10_3
                  try clear hcz10_4
                  try clear hcz13_0
                  try clear hcz13_1
                  try clear hcz13_2
                  try clear hcz13_3
                  try clear hcz13_4
                  try clear hcz16_0
                  try clear hcz16_1
                  try clear hcz16_2
                  try clear hcz16_3
                  try clear hcz16_4
                  try clear hcz20_0
                  try clear hcz20_1
                  try clear hcz20_2
                  try clear hcz20_3
                  try clear hcz20_4
                  try clear hcz25_0
                  try clear hcz25_1
                  try clear hcz25_2
                  try clear hcz25_3
                  try clear hcz25_4
                  try clear hcz29_0
                  try clear hcz29_1
                  try clear hcz29_2
                  try clear hcz29_3
                  try clear hcz29_4
                  try clear hcz31_0
                  try clear hcz31_1
                  try clear hcz31_2
                  try clear hcz31_3
                  try clear hcz31_4
                  try clear hcz38_0
                  try clear hcz38_1
                  try clear hcz38_2
                  try clear hcz38_3
                  try clear hcz38_4
                  try clear hfz10_0
                  try clear hfz10_1
                  try clear hfz10_2
                  try clear hfz10_3
                  try clear hfz10_4
                  try clear hfz13_0
                  try clear hfz13_1
                  try clear hfz13_2
                  try clear hfz13_3
                  try clear hfz13_4
                  try clear hfz16_0
                  try clear hfz16_1
                  try clear hfz16_2
                  try clear hfz16_3
                  try clear hfz16_4
                  try clear hfz20_0
                  try clear hfz20_1
                  try clear hfz20_2
                  try clear hfz20_3
                  try clear hfz20_4
                  try clear hfz25_0
                  try clear hfz25_1
                  try clear hfz25_2
                  try clear hfz25_3
                  try clear hfz25_4
                  try clear hfz29_0
                  try clear hfz29_1
                  try clear hfz29_2
                  try clear hfz29_3
                  try clear hfz29_4
                  try clear hfz31_0
                  try clear hfz31_1
                  try clear hfz31_2
                  try clear hfz31_3
                  try clear hfz31_4
                  try clear hfz38_0
                  try clear hfz38_1
                  try clear hfz38_2
                  try clear hfz38_3
                  try clear hfz38_4
                  try clear hx138_0
                  try clear hx36_0
                  try clear p1
                  try clear p13
                  try clear p138
                  try clear p2
                  try clear p36
                  try clear q1
                  try clear q13
                  try clear q138
                  try clear q36
                  obtain ⟨kq, x0_31, HA, HJ31, HO_0, BK135, BK136, HK, HB⟩ := hcut
                  have hl0_31 := (Kd.R_reads' HO_0.out).1
                  rw [hl0_31] at HO_0
                  (try simp only [hl0_31])
                  (try simp only [hl0_31] at BK135)
                  (try simp only [hl0_31] at BK136)
                  cases kq with
                  | zero => exact absurd HA.out (by simp [stilemanref01_Do.j2])
                  | succ kj31 =>
                    have H := HA.out
                    clear HA
                    simp only [stilemanref01_Do.j2] at H
                    by_cases c41 : a1_0 = 3
                    · rw [if_pos c41] at H
                      have c41b0 : (a1_0 == 3) = true := beq_iff_eq.mpr c41
                      have c41b1 : (a1_0 != 3) = false := bne_eq_false_iff_eq.mpr c41
                      clear c41
                      by_cases c42 : 0 ≤ a1_1
                      · rw [if_pos c42] at H
                        have c42b0 : decide (0 ≤ a1_1) = true := decide_eq_true c42
                        clear c42
                        by_cases c43 : a1_1 < (x0_31.length : Int)
                        · rw [if_pos c43] at H
                          have c43b0 : decide (a1_1 < (x0_31.length : Int)) = true := decide_eq_true c43
                          clear c43
                          obtain ⟨y140, hy140⟩ : ∃ y_ : List Int, y_ = (x0_31.set (a1_1 : Int).toNat (((rd l0 a1_1) + a1_2) % 4294967296)) := ⟨_, rfl⟩
                          replace H : (if a1_0 = 5 then (if (rd l0 a1_1) = a1_2 then (some (a1_0, a1_1, a1_2, a1_3, (rd l0 a1_1), true, (y140.set (a1_1 : Int).toNat a1_3))) else (some (a1_0, a1_1, a1_2, a1_3, (rd l0 a1_1), true, y140))) else (some (a1_0, a1_1, a1_2, a1_3, (rd l0 a1_1), true, y140))) = some (r1, r2, r3, r4, r5, r6, r7) := by first | (rw [hy140]; with_reducible exact H) | (have H2_ := (Option.bind_some _ _).symm.trans H; rw [hy140]; with_reducible exact H2_) | (have H2_ := (Option.bind_some _ _).symm.trans H; with_reducible exact H2_) | with_reducible exact H | (rw [hy140]; exact H) | exact H
                          have Ny140 := Aside0.mk hy140
                          clear hy140
                          by_cases c45 : a1_0 = 5
                          · rw [if_pos c45] at H
                            have c45b0 : (a1_0 == 5) = true := beq_iff_eq.mpr c45
                            have c45b1 : (a1_0 != 5) = false := bne_eq_false_iff_eq.mpr c45
                            clear c45
                            by_cases c46 : (rd l0 a1_1) = a1_2
                            · rw [if_pos c46] at H
                              have c46b0 : ((rd l0 a1_1) == a1_2) = true := beq_iff_eq.mpr c46
                              have c46b1 : ((rd l0 a1_1) != a1_2) = false := bne_eq_false_iff_eq.mpr c46
                              clear c46
                              obtain ⟨y141, hy141⟩ : ∃ y_ : List Int, y_ = (y140.set (a1_1 : Int).toNat a1_3) := ⟨_, rfl⟩
                              replace H : (some (a1_0, a1_1, a1_2, a1_3, (rd l0 a1_1), true, y141)) = some (r1, r2, r3, r4, r5, r6, r7) := by first | (rw [hy141]; with_reducible exact H) | (have H2_ := (Option.bind_some _ _).symm.trans H; rw [hy141]; with_reducible exact H2_) | (have H2_ := (Option.bind_some _ _).symm.trans H; with_reducible exact H2_) | with_reducible exact H | (rw [hy141]; exact H) | exact H
                              have Ny141 := Aside0.mk hy141
                              clear hy141
                              simp only [Option.some.injEq, Prod.mk.injEq] at H
                              obtain ⟨rfl, rfl, rfl, rfl, rfl, rfl, rfl⟩ := H
                              have hnb48 := NB135_136.out
                              have hnc48 := NB136_135.out
                              have hcz49_0 : wc.cell? ⟨gb135, 0, none⟩ = some (.int .i64 a1_0) := (blk_cell BK135.out 0).trans rfl
                              have hcz49_1 : wc.cell? ⟨gb135, 1, none⟩ = some (.int .i64 a1_1) := (blk_cell BK135.out 1).trans rfl
                              have hcz49_2 : wc.cell? ⟨gb135, 2, none⟩ = some (.int .u32 a1_2) := (blk_cell BK135.out 2).trans rfl
                              have hcz49_3 : wc.cell? ⟨gb135, 3, none⟩ = some (.int .u32 a1_3) := (blk_cell BK135.out 3).trans rfl
                              have hcz49_4 : wc.cell? ⟨gb135, 4, none⟩ = some (.int .u32 (rd l0 a1_1)) := (blk_cell BK135.out 4).trans rfl
                              have hfz49_0 := blk_frozen BK135.out 0
                              have hfz49_1 := blk_frozen BK135.out 1
                              have hfz49_2 := blk_frozen BK135.out 2
                              have hfz49_3 := blk_frozen BK135.out 3
                              have hfz49_4 := blk_frozen BK135.out 4
                              have p44 : 0 ≤ (a1_1 : Int) := of_decide_eq_true (by first | (with_reducible assumption) | assumption)
                              have q44 : (a1_1 : Int) < ((x0_31.length : Int) : Int) := of_decide_eq_true (by first | (with_reducible assumption) | assumption)
                              obtain ⟨go44, co44, eo44, gb44, gl44, cl44, HG44⟩ := Kd.R_form HO_0.out (by omega)
                              (first | cases eo44 | (injection eo44 with ea_ en_ ec_; (first | subst ea_ | (injection ea_ with ea_; subst ea_)); subst ec_; clear en_))
                              have GB44 := Aside0.mk gb44
                              have GG44 := Aside0.mk HG44
                              clear gb44 gl44 HG44
                              have HMgo44 := Aside0.mk (show (P0_ go44 ∨ w.heap.size ≤ go44) from (HO_0.out.1 _ rfl))
                              obtain ⟨hx44_0, hf44_0⟩ := Kd.R_celln 0 HO_0.out (a1_1 : Int) p44 q44
                              replace p44 := eq_true p44
                              replace q44 := eq_true q44
                              have HP50 := Kd.R_putg HO_0.out (a1_1 : Int) (((rd l0 a1_1) + a1_2) % 4294967296)
                              go_wp2_with (first | ((with_reducible refine gate_store (t := 46) (p := 53) rfl ?_); refine store_event (t := 46) (p := 53) (v := ?vo_w51) (w1 := (wc.setCell ⟨go44, (a1_1 : Int).toNat, none⟩ (.int .u32 (((rd l0 a1_1) + a1_2) % 4294967296)))) ?hg ?ho ?hn ?hr ?_; (case ho => rfl); (case hg => rfl); (case hn => rfl); (case hr => first | (go_simp; done) | (go_simp; rfl)); intro w51 hw; have hg : wc.grownBy w51 (some go44) := (by rw [hw]; exact HP50.2); have hp_ : Kd.R (Kd.int .u32) 46 w51 w0.heap.size (fun k_ => (P0_ k_ ∨ w.heap.size ≤ k_)) (.slice (some ⟨go44, 0, none⟩) x0_31.length co26) y140 := (by rw [hw, Ny140.out]; exact HP50.1); clear HP50; have n0_ := Aside0.mk (hp_); have n1_ := Aside0.mk (blk_grown (g := gb135) (o := .cells #[.int .i64 a1_0, .int .i64 a1_1, .int .u32 a1_2, .int .u32 a1_3, .int .u32 (rd l0 a1_1)] 48 (0, 0)) (by (with_reducible repeat (first | refine blk_drewN ?_ _ | refine blk_drew ?_ | refine blk_alloc ?_ _)); exact BK135.out) hg (Kd.R_ne HO_0.out BK135.out (by decide))); have n2_ := Aside0.mk (blk_grown (g := gb136) (o := .cells #[.int .i64 0, .int .i64 0, .int .u32 0, .int .u32 0, .int .u32 0] 48 (0, 0)) (by (with_reducible repeat (first | refine blk_drewN ?_ _ | refine blk_drew ?_ | refine blk_alloc ?_ _)); exact BK136.out) hg (Kd.R_ne HO_0.out BK136.out (by decide))); have n3_ := Aside0.mk ((by rw [hw]; exact below_set (HB.out) GB44.out : Below w0.heap.size w0 w51)); have n4_ := Aside0.mk (Kept.of_grown (S := (fun k_ => P0_ k_)) hg (by repeat (first | (with_reducible first | exact HK.out | apply Kept.alloc | apply Kept.drewN | apply Kept.drew | refine Kept.setCell ?_ (.inr GW135.out) _ | refine Kept.setCell ?_ (.inr GW136.out) _) | exact HK.out)) (fun k_ e_ => (HO_0.out.1 k_ e_))); clear HO_0; clear BK135; clear BK136; clear HB; clear HK; have HO_0 := n0_; have BK135 := n1_; have BK136 := n2_; have HB := n3_; have HK := n4_; clear n0_ n1_ n2_ n3_ n4_; clear hg hw hp_; have hcz52_0 : w51.cell? ⟨gb135, 0, none⟩ = some (.int .i64 a1_0) := (blk_cell BK135.out 0).trans rfl; have hcz52_1 : w51.cell? ⟨gb135, 1, none⟩ = some (.int .i64 a1_1) := (blk_cell BK135.out 1).trans rfl; have hcz52_2 : w51.cell? ⟨gb135, 2, none⟩ = some (.int .u32 a1_2) := (blk_cell BK135.out 2).trans rfl; have hcz52_3 : w51.cell? ⟨gb135, 3, none⟩ = some (.int .u32 a1_3) := (blk_cell BK135.out 3).trans rfl; have hcz52_4 : w51.cell? ⟨gb135, 4, none⟩ = some (.int .u32 (rd l0 a1_1)) := (blk_cell BK135.out 4).trans rfl; have hfz52_0 := blk_frozen BK135.out 0; have hfz52_1 := blk_frozen BK135.out 1; have hfz52_2 := blk_frozen BK135.out 2; have hfz52_3 := blk_frozen BK135.out 3; have hfz52_4 := blk_frozen BK135.out 4; have p47 : 0 ≤ (a1_1 : Int) := of_decide_eq_true (by first | (with_reducible assumption) | assumption); have q47 : (a1_1 : Int) < ((x0_31.length : Int) : Int) := of_decide_eq_true (by first | (with_reducible assumption) | assumption); obtain ⟨hx47_0, hf47_0⟩ := Kd.R_celln 0 HO_0.out (a1_1 : Int) p47 q47; replace p47 := eq_true p47; replace q47 := eq_true q47; obtain ⟨hy53_, hz53_⟩ := Kd.R_celln 0 HO_0.out (a1_1 : Int) (of_decide_eq_true (by first | (with_reducible assumption) | assumption)) (of_decide_eq_true (by first | (with_reducible assumption) | assumption)); have HP53 := Kd.R_putg HO_0.out (a1_1 : Int) a1_3) | ((with_reducible refine gate_store (t := 46) (p := 69) rfl ?_); refine store_event (t := 46) (p := 69) (v := ?vo_w54) (w1 := (w51.setCell ⟨go44, (a1_1 : Int).toNat, none⟩ (.int .u32 a1_3))) ?hg ?ho ?hn ?hr ?_; (case ho => rfl); (case hg => rfl); (case hn => rfl); (case hr => first | (go_simp; done) | (go_simp; rfl)); intro w54 hw; have hg : w51.grownBy w54 (some go44) := (by rw [hw]; exact HP53.2); have hp_ : Kd.R (Kd.int .u32) 46 w54 w0.heap.size (fun k_ => (P0_ k_ ∨ w.heap.size ≤ k_)) (.slice (some ⟨go44, 0, none⟩) x0_31.length co26) y141 := (by rw [hw, Ny141.out]; exact HP53.1); clear HP53; have n0_ := Aside0.mk (hp_); have n1_ := Aside0.mk (blk_grown (g := gb135) (o := .cells #[.int .i64 a1_0, .int .i64 a1_1, .int .u32 a1_2, .int .u32 a1_3, .int .u32 (rd l0 a1_1)] 48 (0, 0)) (by (with_reducible repeat (first | refine blk_drewN ?_ _ | refine blk_drew ?_ | refine blk_alloc ?_ _)); exact BK135.out) hg (Kd.R_ne HO_0.out BK135.out (by decide))); have n2_ := Aside0.mk (blk_grown (g := gb136) (o := .cells #[.int .i64 0, .int .i64 0, .int .u32 0, .int .u32 0, .int .u32 0] 48 (0, 0)) (by (with_reducible repeat (first | refine blk_drewN ?_ _ | refine blk_drew ?_ | refine blk_alloc ?_ _)); exact BK136.out) hg (Kd.R_ne HO_0.out BK136.out (by decide))); have n3_ := Aside0.mk ((by rw [hw]; exact below_set (HB.out) GB44.out : Below w0.heap.size w0 w54)); have n4_ := Aside0.mk (Kept.of_grown (S := (fun k_ => P0_ k_)) hg (by repeat (first | (with_reducible first | exact HK.out | apply Kept.alloc | apply Kept.drewN | apply Kept.drew | refine Kept.setCell ?_ (.inr GW135.out) _ | refine Kept.setCell ?_ (.inr GW136.out) _) | exact HK.out)) (fun k_ e_ => (HO_0.out.1 k_ e_))); clear HO_0; clear BK135; clear BK136; clear HB; clear HK; have HO_0 := n0_; have BK135 := n1_; have BK136 := n2_; have HB := n3_; have HK := n4_; clear n0_ n1_ n2_ n3_ n4_; clear hg hw hp_; have hcz55_0 : w54.cell? ⟨gb135, 0, none⟩ = some (.int .i64 a1_0) := (blk_cell BK135.out 0).trans rfl; have hcz55_1 : w54.cell? ⟨gb135, 1, none⟩ = some (.int .i64 a1_1) := (blk_cell BK135.out 1).trans rfl; have hcz55_2 : w54.cell? ⟨gb135, 2, none⟩ = some (.int .u32 a1_2) := (blk_cell BK135.out 2).trans rfl; have hcz55_3 : w54.cell? ⟨gb135, 3, none⟩ = some (.int .u32 a1_3) := (blk_cell BK135.out 3).trans rfl; have hcz55_4 : w54.cell? ⟨gb135, 4, none⟩ = some (.int .u32 (rd l0 a1_1)) := (blk_cell BK135.out 4).trans rfl; have hfz55_0 := blk_frozen BK135.out 0; have hfz55_1 := blk_frozen BK135.out 1; have hfz55_2 := blk_frozen BK135.out 2; have hfz55_3 := blk_frozen BK135.out 3; have hfz55_4 := blk_frozen BK135.out 4; have hcz56_0 : w54.cell? ⟨gb136, 0, none⟩ = some (.int .i64 0) := (blk_cell BK136.out 0).trans rfl; have hcz56_1 : w54.cell? ⟨gb136, 1, none⟩ = some (.int .i64 0) := (blk_cell BK136.out 1).trans rfl; have hcz56_2 : w54.cell? ⟨gb136, 2, none⟩ = some (.int .u32 0) := (blk_cell BK136.out 2).trans rfl; have hcz56_3 : w54.cell? ⟨gb136, 3, none⟩ = some (.int .u32 0) := (blk_cell BK136.out 3).trans rfl; have hcz56_4 : w54.cell? ⟨gb136, 4, none⟩ = some (.int .u32 0) := (blk_cell BK136.out 4).trans rfl; have hfz56_0 := blk_frozen BK136.out 0; have hfz56_1 := blk_frozen BK136.out 1; have hfz56_2 := blk_frozen BK136.out 2; have hfz56_3 := blk_frozen BK136.out 3; have hfz56_4 := blk_frozen BK136.out 4))
                              refine bodyPost_ret (results_ct rfl _ _ gb136 48 #[.int .i64 a1_0, .int .i64 a1_1, .int .u32 a1_2, .int .u32 a1_3, .int .u32 (rd l0 a1_1)] (0, 0) _ rfl (by (with_reducible repeat (first | refine blk_drewN ?_ _ | refine blk_drew ?_ | refine blk_alloc ?_ _)); refine blk_put (cs := #[.int .i64 a1_0, .int .i64 a1_1, .int .u32 a1_2, .int .u32 a1_3, .int .u32 0]) ?_ 4 _ rfl; (with_reducible repeat (first | refine blk_drewN ?_ _ | refine blk_drew ?_ | refine blk_alloc ?_ _)); refine blk_put (cs := #[.int .i64 a1_0, .int .i64 a1_1, .int .u32 a1_2, .int .u32 0, .int .u32 0]) ?_ 3 _ rfl; (with_reducible repeat (first | refine blk_drewN ?_ _ | refine blk_drew ?_ | refine blk_alloc ?_ _)); refine blk_put (cs := #[.int .i64 a1_0, .int .i64 a1_1, .int .u32 0, .int .u32 0, .int .u32 0]) ?_ 2 _ rfl; (with_reducible repeat (first | refine blk_drewN ?_ _ | refine blk_drew ?_ | refine blk_alloc ?_ _)); refine blk_put (cs := #[.int .i64 a1_0, .int .i64 0, .int .u32 0, .int .u32 0, .int .u32 0]) ?_ 1 _ rfl; (with_reducible repeat (first | refine blk_drewN ?_ _ | refine blk_drew ?_ | refine blk_alloc ?_ _)); refine blk_put (cs := #[.int .i64 0, .int .i64 0, .int .u32 0, .int .u32 0, .int .u32 0]) ?_ 0 _ rfl; (with_reducible repeat (first | refine blk_drewN ?_ _ | refine blk_drew ?_ | refine blk_alloc ?_ _)); exact BK136.out) Tryd.underlying48 rfl (by kernel_rfl)) rfl ?_
                              exact ⟨by first | rfl | (simp [errW_none, errW_some] <;> rfl) | (simp [*, errW_none, errW_some] <;> rfl), (by first | exact (by (with_reducible repeat (first | apply Kd.R_alloc | apply Kd.R_drewN | apply Kd.R_drew)); exact Kd.R_mono (Kd.R_far (p := ⟨gb136, 4, none⟩) (Kd.R_far (p := ⟨gb136, 3, none⟩) (Kd.R_far (p := ⟨gb136, 2, none⟩) (Kd.R_far (p := ⟨gb136, 1, none⟩) (Kd.R_far (p := ⟨gb136, 0, none⟩) (Kd.R_types HO_0.out BK136.out (by decide)) (fun _ hk => hk.2) (.int .i64 a1_0)) (fun _ hk => hk.2) (.int .i64 a1_1)) (fun _ hk => hk.2) (.int .u32 a1_2)) (fun _ hk => hk.2) (.int .u32 a1_3)) (fun _ hk => hk.2) (.int .u32 (rd l0 a1_1))) (fun _ hk => hk.1)) | (simp only [hl0_31]; exact (by (with_reducible repeat (first | apply Kd.R_alloc | apply Kd.R_drewN | apply Kd.R_drew)); exact Kd.R_mono (Kd.R_far (p := ⟨gb136, 4, none⟩) (Kd.R_far (p := ⟨gb136, 3, none⟩) (Kd.R_far (p := ⟨gb136, 2, none⟩) (Kd.R_far (p := ⟨gb136, 1, none⟩) (Kd.R_far (p := ⟨gb136, 0, none⟩) (Kd.R_types HO_0.out BK136.out (by decide)) (fun _ hk => hk.2) (.int .i64 a1_0)) (fun _ hk => hk.2) (.int .i64 a1_1)) (fun _ hk => hk.2) (.int .u32 a1_2)) (fun _ hk => hk.2) (.int .u32 a1_3)) (fun _ hk => hk.2) (.int .u32 (rd l0 a1_1))) (fun _ hk => hk.1)))), by repeat (first | (with_reducible first | exact HB.out | apply below_alloc | apply pw_below_drewN | apply below_drew1 | refine below_set ?_ GE135.out | refine below_set ?_ GE136.out) | exact HB.out), by repeat (first | (with_reducible first | exact HK.out | apply Kept.alloc | apply Kept.drewN | apply Kept.drew | refine Kept.setCell ?_ (.inr GW135.out) _ | refine Kept.setCell ?_ (.inr GW136.out) _) | exact HK.out)⟩
                            · rw [if_neg c46] at H
                              have c46b0 : ((rd l0 a1_1) == a1_2) = false := beq_eq_false_iff_ne.mpr c46
                              have c46b1 : ((rd l0 a1_1) != a1_2) = true := bne_iff_ne.mpr c46
                              simp only [Option.some.injEq, Prod.mk.injEq] at H
                              obtain ⟨rfl, rfl, rfl, rfl, rfl, rfl, rfl⟩ := H
                              have hnb57 := NB135_136.out
                              have hnc57 := NB136_135.out
                              have hcz58_0 : wc.cell? ⟨gb135, 0, none⟩ = some (.int .i64 a1_0) := (blk_cell BK135.out 0).trans rfl
                              have hcz58_1 : wc.cell? ⟨gb135, 1, none⟩ = some (.int .i64 a1_1) := (blk_cell BK135.out 1).trans rfl
                              have hcz58_2 : wc.cell? ⟨gb135, 2, none⟩ = some (.int .u32 a1_2) := (blk_cell BK135.out 2).trans rfl
                              have hcz58_3 : wc.cell? ⟨gb135, 3, none⟩ = some (.int .u32 a1_3) := (blk_cell BK135.out 3).trans rfl
                              have hcz58_4 : wc.cell? ⟨gb135, 4, none⟩ = some (.int .u32 (rd l0 a1_1)) := (blk_cell BK135.out 4).trans rfl
                              have hfz58_0 := blk_frozen BK135.out 0
                              have hfz58_1 := blk_frozen BK135.out 1
                              have hfz58_2 := blk_frozen BK135.out 2
                              have hfz58_3 := blk_frozen BK135.out 3
                              have hfz58_4 := blk_frozen BK135.out 4
                              have p44 : 0 ≤ (a1_1 : Int) := of_decide_eq_true (by first | (with_reducible assumption) | assumption)
                              have q44 : (a1_1 : Int) < ((x0_31.length : Int) : Int) := of_decide_eq_true (by first | (with_reducible assumption) | assumption)
                              obtain ⟨go44, co44, eo44, gb44, gl44, cl44, HG44⟩ := Kd.R_form HO_0.out (by omega)
                              (first | cases eo44 | (injection eo44 with ea_ en_ ec_; (first | subst ea_ | (injection ea_ with ea_; subst ea_)); subst ec_; clear en_))
                              have GB44 := Aside0.mk gb44
                              have GG44 := Aside0.mk HG44
                              clear gb44 gl44 HG44
                              have HMgo44 := Aside0.mk (show (P0_ go44 ∨ w.heap.size ≤ go44) from (HO_0.out.1 _ rfl))
                              obtain ⟨hx44_0, hf44_0⟩ := Kd.R_celln 0 HO_0.out (a1_1 : Int) p44 q44
                              replace p44 := eq_true p44
                              replace q44 := eq_true q44
                              have HP59 := Kd.R_putg HO_0.out (a1_1 : Int) (((rd l0 a1_1) + a1_2) % 4294967296)
                              go_wp2_with (first | ((with_reducible refine gate_store (t := 46) (p := 53) rfl ?_); refine store_event (t := 46) (p := 53) (v := ?vo_w60) (w1 := (wc.setCell ⟨go44, (a1_1 : Int).toNat, none⟩ (.int .u32 (((rd l0 a1_1) + a1_2) % 4294967296)))) ?hg ?ho ?hn ?hr ?_; (case ho => rfl); (case hg => rfl); (case hn => rfl); (case hr => first | (go_simp; done) | (go_simp; rfl)); intro w60 hw; have hg : wc.grownBy w60 (some go44) := (by rw [hw]; exact HP59.2); have hp_ : Kd.R (Kd.int .u32) 46 w60 w0.heap.size (fun k_ => (P0_ k_ ∨ w.heap.size ≤ k_)) (.slice (some ⟨go44, 0, none⟩) x0_31.length co26) y140 := (by rw [hw, Ny140.out]; exact HP59.1); clear HP59; have n0_ := Aside0.mk (hp_); have n1_ := Aside0.mk (blk_grown (g := gb135) (o := .cells #[.int .i64 a1_0, .int .i64 a1_1, .int .u32 a1_2, .int .u32 a1_3, .int .u32 (rd l0 a1_1)] 48 (0, 0)) (by (with_reducible repeat (first | refine blk_drewN ?_ _ | refine blk_drew ?_ | refine blk_alloc ?_ _)); exact BK135.out) hg (Kd.R_ne HO_0.out BK135.out (by decide))); have n2_ := Aside0.mk (blk_grown (g := gb136) (o := .cells #[.int .i64 0, .int .i64 0, .int .u32 0, .int .u32 0, .int .u32 0] 48 (0, 0)) (by (with_reducible repeat (first | refine blk_drewN ?_ _ | refine blk_drew ?_ | refine blk_alloc ?_ _)); exact BK136.out) hg (Kd.R_ne HO_0.out BK136.out (by decide))); have n3_ := Aside0.mk ((by rw [hw]; exact below_set (HB.out) GB44.out : Below w0.heap.size w0 w60)); have n4_ := Aside0.mk (Kept.of_grown (S := (fun k_ => P0_ k_)) hg (by repeat (first | (with_reducible first | exact HK.out | apply Kept.alloc | apply Kept.drewN | apply Kept.drew | refine Kept.setCell ?_ (.inr GW135.out) _ | refine Kept.setCell ?_ (.inr GW136.out) _) | exact HK.out)) (fun k_ e_ => (HO_0.out.1 k_ e_))); clear HO_0; clear BK135; clear BK136; clear HB; clear HK; have HO_0 := n0_; have BK135 := n1_; have BK136 := n2_; have HB := n3_; have HK := n4_; clear n0_ n1_ n2_ n3_ n4_; clear hg hw hp_; have hcz61_0 : w60.cell? ⟨gb135, 0, none⟩ = some (.int .i64 a1_0) := (blk_cell BK135.out 0).trans rfl; have hcz61_1 : w60.cell? ⟨gb135, 1, none⟩ = some (.int .i64 a1_1) := (blk_cell BK135.out 1).trans rfl; have hcz61_2 : w60.cell? ⟨gb135, 2, none⟩ = some (.int .u32 a1_2) := (blk_cell BK135.out 2).trans rfl; have hcz61_3 : w60.cell? ⟨gb135, 3, none⟩ = some (.int .u32 a1_3) := (blk_cell BK135.out 3).trans rfl; have hcz61_4 : w60.cell? ⟨gb135, 4, none⟩ = some (.int .u32 (rd l0 a1_1)) := (blk_cell BK135.out 4).trans rfl; have hfz61_0 := blk_frozen BK135.out 0; have hfz61_1 := blk_frozen BK135.out 1; have hfz61_2 := blk_frozen BK135.out 2; have hfz61_3 := blk_frozen BK135.out 3; have hfz61_4 := blk_frozen BK135.out 4; have hcz62_0 : w60.cell? ⟨gb136, 0, none⟩ = some (.int .i64 0) := (blk_cell BK136.out 0).trans rfl; have hcz62_1 : w60.cell? ⟨gb136, 1, none⟩ = some (.int .i64 0) := (blk_cell BK136.out 1).trans rfl; have hcz62_2 : w60.cell? ⟨gb136, 2, none⟩ = some (.int .u32 0) := (blk_cell BK136.out 2).trans rfl; have hcz62_3 : w60.cell? ⟨gb136, 3, none⟩ = some (.int .u32 0) := (blk_cell BK136.out 3).trans rfl; have hcz62_4 : w60.cell? ⟨gb136, 4, none⟩ = some (.int .u32 0) := (blk_cell BK136.out 4).trans rfl; have hfz62_0 := blk_frozen BK136.out 0; have hfz62_1 := blk_frozen BK136.out 1; have hfz62_2 := blk_frozen BK136.out 2; have hfz62_3 := blk_frozen BK136.out 3; have hfz62_4 := blk_frozen BK136.out 4))
                              refine bodyPost_ret (results_ct rfl _ _ gb136 48 #[.int .i64 a1_0, .int .i64 a1_1, .int .u32 a1_2, .int .u32 a1_3, .int .u32 (rd l0 a1_1)] (0, 0) _ rfl (by (with_reducible repeat (first | refine blk_drewN ?_ _ | refine blk_drew ?_ | refine blk_alloc ?_ _)); refine blk_put (cs := #[.int .i64 a1_0, .int .i64 a1_1, .int .u32 a1_2, .int .u32 a1_3, .int .u32 0]) ?_ 4 _ rfl; (with_reducible repeat (first | refine blk_drewN ?_ _ | refine blk_drew ?_ | refine blk_alloc ?_ _)); refine blk_put (cs := #[.int .i64 a1_0, .int .i64 a1_1, .int .u32 a1_2, .int .u32 0, .int .u32 0]) ?_ 3 _ rfl; (with_reducible repeat (first | refine blk_drewN ?_ _ | refine blk_drew ?_ | refine blk_alloc ?_ _)); refine blk_put (cs := #[.int .i64 a1_0, .int .i64 a1_1, .int .u32 0, .int .u32 0, .int .u32 0]) ?_ 2 _ rfl; (with_reducible repeat (first | refine blk_drewN ?_ _ | refine blk_drew ?_ | refine blk_alloc ?_ _)); refine blk_put (cs := #[.int .i64 a1_0, .int .i64 0, .int .u32 0, .int .u32 0, .int .u32 0]) ?_ 1 _ rfl; (with_reducible repeat (first | refine blk_drewN ?_ _ | refine blk_drew ?_ | refine blk_alloc ?_ _)); refine blk_put (cs := #[.int .i64 0, .int .i64 0, .int .u32 0, .int .u32 0, .int .u32 0]) ?_ 0 _ rfl; (with_reducible repeat (first | refine blk_drewN ?_ _ | refine blk_drew ?_ | refine blk_alloc ?_ _)); exact BK136.out) Tryd.underlying48 rfl (by kernel_rfl)) rfl ?_
                              exact ⟨by first | rfl | (simp [errW_none, errW_some] <;> rfl) | (simp [*, errW_none, errW_some] <;> rfl), (by first | exact (by (with_reducible repeat (first | apply Kd.R_alloc | apply Kd.R_drewN | apply Kd.R_drew)); exact Kd.R_mono (Kd.R_far (p := ⟨gb136, 4, none⟩) (Kd.R_far (p := ⟨gb136, 3, none⟩) (Kd.R_far (p := ⟨gb136, 2, none⟩) (Kd.R_far (p := ⟨gb136, 1, none⟩) (Kd.R_far (p := ⟨gb136, 0, none⟩) (Kd.R_types HO_0.out BK136.out (by decide)) (fun _ hk => hk.2) (.int .i64 a1_0)) (fun _ hk => hk.2) (.int .i64 a1_1)) (fun _ hk => hk.2) (.int .u32 a1_2)) (fun _ hk => hk.2) (.int .u32 a1_3)) (fun _ hk => hk.2) (.int .u32 (rd l0 a1_1))) (fun _ hk => hk.1)) | (simp only [hl0_31]; exact (by (with_reducible repeat (first | apply Kd.R_alloc | apply Kd.R_drewN | apply Kd.R_drew)); exact Kd.R_mono (Kd.R_far (p := ⟨gb136, 4, none⟩) (Kd.R_far (p := ⟨gb136, 3, none⟩) (Kd.R_far (p := ⟨gb136, 2, none⟩) (Kd.R_far (p := ⟨gb136, 1, none⟩) (Kd.R_far (p := ⟨gb136, 0, none⟩) (Kd.R_types HO_0.out BK136.out (by decide)) (fun _ hk => hk.2) (.int .i64 a1_0)) (fun _ hk => hk.2) (.int .i64 a1_1)) (fun _ hk => hk.2) (.int .u32 a1_2)) (fun _ hk => hk.2) (.int .u32 a1_3)) (fun _ hk => hk.2) (.int .u32 (rd l0 a1_1))) (fun _ hk => hk.1)))), by repeat (first | (with_reducible first | exact HB.out | apply below_alloc | apply pw_below_drewN | apply below_drew1 | refine below_set ?_ GE135.out | refine below_set ?_ GE136.out) | exact HB.out), by repeat (first | (with_reducible first | exact HK.out | apply Kept.alloc | apply Kept.drewN | apply Kept.drew | refine Kept.setCell ?_ (.inr GW135.out) _ | refine Kept.setCell ?_ (.inr GW136.out) _) | exact HK.out)⟩
                          · rw [if_neg c45] at H
                            have c45b0 : (a1_0 == 5) = false := beq_eq_false_iff_ne.mpr c45
                            have c45b1 : (a1_0 != 5) = true := bne_iff_ne.mpr c45
                            simp only [Option.some.injEq, Prod.mk.injEq] at H
                            obtain ⟨rfl, rfl, rfl, rfl, rfl, rfl, rfl⟩ := H
                            have hnb63 := NB135_136.out
                            have hnc63 := NB136_135.out
                            have hcz64_0 : wc.cell? ⟨gb135, 0, none⟩ = some (.int .i64 a1_0) := (blk_cell BK135.out 0).trans rfl
                            have hcz64_1 : wc.cell? ⟨gb135, 1, none⟩ = some (.int .i64 a1_1) := (blk_cell BK135.out 1).trans rfl
                            have hcz64_2 : wc.cell? ⟨gb135, 2, none⟩ = some (.int .u32 a1_2) := (blk_cell BK135.out 2).trans rfl
                            have hcz64_3 : wc.cell? ⟨gb135, 3, none⟩ = some (.int .u32 a1_3) := (blk_cell BK135.out 3).trans rfl
                            have hcz64_4 : wc.cell? ⟨gb135, 4, none⟩ = some (.int .u32 (rd l0 a1_1)) := (blk_cell BK135.out 4).trans rfl
                            have hfz64_0 := blk_frozen BK135.out 0
                            have hfz64_1 := blk_frozen BK135.out 1
                            have hfz64_2 := blk_frozen BK135.out 2
                            have hfz64_3 := blk_frozen BK135.out 3
                            have hfz64_4 := blk_frozen BK135.out 4
                            have p44 : 0 ≤ (a1_1 : Int) := of_decide_eq_true (by first | (with_reducible assumption) | assumption)
                            have q44 : (a1_1 : Int) < ((x0_31.length : Int) : Int) := of_decide_eq_true (by first | (with_reducible assumption) | assumption)
                            obtain ⟨go44, co44, eo44, gb44, gl44, cl44, HG44⟩ := Kd.R_form HO_0.out (by omega)
                            (first | cases eo44 | (injection eo44 with ea_ en_ ec_; (first | subst ea_ | (injection ea_ with ea_; subst ea_)); subst ec_; clear en_))
                            have GB44 := Aside0.mk gb44
                            have GG44 := Aside0.mk HG44
                            clear gb44 gl44 HG44
                            have HMgo44 := Aside0.mk (show (P0_ go44 ∨ w.heap.size ≤ go44) from (HO_0.out.1 _ rfl))
                            obtain ⟨hx44_0, hf44_0⟩ := Kd.R_celln 0 HO_0.out (a1_1 : Int) p44 q44
                            replace p44 := eq_true p44
                            replace q44 := eq_true q44
                            have HP65 := Kd.R_putg HO_0.out (a1_1 : Int) (((rd l0 a1_1) + a1_2) % 4294967296)
                            go_wp2_with (first | ((with_reducible refine gate_store (t := 46) (p := 53) rfl ?_); refine store_event (t := 46) (p := 53) (v := ?vo_w66) (w1 := (wc.setCell ⟨go44, (a1_1 : Int).toNat, none⟩ (.int .u32 (((rd l0 a1_1) + a1_2) % 4294967296)))) ?hg ?ho ?hn ?hr ?_; (case ho => rfl); (case hg => rfl); (case hn => rfl); (case hr => first | (go_simp; done) | (go_simp; rfl)); intro w66 hw; have hg : wc.grownBy w66 (some go44) := (by rw [hw]; exact HP65.2); have hp_ : Kd.R (Kd.int .u32) 46 w66 w0.heap.size (fun k_ => (P0_ k_ ∨ w.heap.size ≤ k_)) (.slice (some ⟨go44, 0, none⟩) x0_31.length co26) y140 := (by rw [hw, Ny140.out]; exact HP65.1); clear HP65; have n0_ := Aside0.mk (hp_); have n1_ := Aside0.mk (blk_grown (g := gb135) (o := .cells #[.int .i64 a1_0, .int .i64 a1_1, .int .u32 a1_2, .int .u32 a1_3, .int .u32 (rd l0 a1_1)] 48 (0, 0)) (by (with_reducible repeat (first | refine blk_drewN ?_ _ | refine blk_drew ?_ | refine blk_alloc ?_ _)); exact BK135.out) hg (Kd.R_ne HO_0.out BK135.out (by decide))); have n2_ := Aside0.mk (blk_grown (g := gb136) (o := .cells #[.int .i64 0, .int .i64 0, .int .u32 0, .int .u32 0, .int .u32 0] 48 (0, 0)) (by (with_reducible repeat (first | refine blk_drewN ?_ _ | refine blk_drew ?_ | refine blk_alloc ?_ _)); exact BK136.out) hg (Kd.R_ne HO_0.out BK136.out (by decide))); have n3_ := Aside0.mk ((by rw [hw]; exact below_set (HB.out) GB44.out : Below w0.heap.size w0 w66)); have n4_ := Aside0.mk (Kept.of_grown (S := (fun k_ => P0_ k_)) hg (by repeat (first | (with_reducible first | exact HK.out | apply Kept.alloc | apply Kept.drewN | apply Kept.drew | refine Kept.setCell ?_ (.inr GW135.out) _ | refine Kept.setCell ?_ (.inr GW136.out) _) | exact HK.out)) (fun k_ e_ => (HO_0.out.1 k_ e_))); clear HO_0; clear BK135; clear BK136; clear HB; clear HK; have HO_0 := n0_; have BK135 := n1_; have BK136 := n2_; have HB := n3_; have HK := n4_; clear n0_ n1_ n2_ n3_ n4_; clear hg hw hp_; have hcz67_0 : w66.cell? ⟨gb135, 0, none⟩ = some (.int .i64 a1_0) := (blk_cell BK135.out 0).trans rfl; have hcz67_1 : w66.cell? ⟨gb135, 1, none⟩ = some (.int .i64 a1_1) := (blk_cell BK135.out 1).trans rfl; have hcz67_2 : w66.cell? ⟨gb135, 2, none⟩ = some (.int .u32 a1_2) := (blk_cell BK135.out 2).trans rfl; have hcz67_3 : w66.cell? ⟨gb135, 3, none⟩ = some (.int .u32 a1_3) := (blk_cell BK135.out 3).trans rfl; have hcz67_4 : w66.cell? ⟨gb135, 4, none⟩ = some (.int .u32 (rd l0 a1_1)) := (blk_cell BK135.out 4).trans rfl; have hfz67_0 := blk_frozen BK135.out 0; have hfz67_1 := blk_frozen BK135.out 1; have hfz67_2 := blk_frozen BK135.out 2; have hfz67_3 := blk_frozen BK135.out 3; have hfz67_4 := blk_frozen BK135.out 4; have hcz68_0 : w66.cell? ⟨gb136, 0, none⟩ = some (.int .i64 0) := (blk_cell BK136.out 0).trans rfl; have hcz68_1 : w66.cell? ⟨gb136, 1, none⟩ = some (.int .i64 0) := (blk_cell BK136.out 1).trans rfl; have hcz68_2 : w66.cell? ⟨gb136, 2, none⟩ = some (.int .u32 0) := (blk_cell BK136.out 2).trans rfl; have hcz68_3 : w66.cell? ⟨gb136, 3, none⟩ = some (.int .u32 0) := (blk_cell BK136.out 3).trans rfl; have hcz68_4 : w66.cell? ⟨gb136, 4, none⟩ = some (.int .u32 0) := (blk_cell BK136.out 4).trans rfl; have hfz68_0 := blk_frozen BK136.out 0; have hfz68_1 := blk_frozen BK136.out 1; have hfz68_2 := blk_frozen BK136.out 2; have hfz68_3 := blk_frozen BK136.out 3; have hfz68_4 := blk_frozen BK136.out 4))
                            refine bodyPost_ret (results_ct rfl _ _ gb136 48 #[.int .i64 a1_0, .int .i64 a1_1, .int .u32 a1_2, .int .u32 a1_3, .int .u32 (rd l0 a1_1)] (0, 0) _ rfl (by (with_reducible repeat (first | refine blk_drewN ?_ _ | refine blk_drew ?_ | refine blk_alloc ?_ _)); refine blk_put (cs := #[.int .i64 a1_0, .int .i64 a1_1, .int .u32 a1_2, .int .u32 a1_3, .int .u32 0]) ?_ 4 _ rfl; (with_reducible repeat (first | refine blk_drewN ?_ _ | refine blk_drew ?_ | refine blk_alloc ?_ _)); refine blk_put (cs := #[.int .i64 a1_0, .int .i64 a1_1, .int .u32 a1_2, .int .u32 0, .int .u32 0]) ?_ 3 _ rfl; (with_reducible repeat (first | refine blk_drewN ?_ _ | refine blk_drew ?_ | refine blk_alloc ?_ _)); refine blk_put (cs := #[.int .i64 a1_0, .int .i64 a1_1, .int .u32 0, .int .u32 0, .int .u32 0]) ?_ 2 _ rfl; (with_reducible repeat (first | refine blk_drewN ?_ _ | refine blk_drew ?_ | refine blk_alloc ?_ _)); refine blk_put (cs := #[.int .i64 a1_0, .int .i64 0, .int .u32 0, .int .u32 0, .int .u32 0]) ?_ 1 _ rfl; (with_reducible repeat (first | refine blk_drewN ?_ _ | refine blk_drew ?_ | refine blk_alloc ?_ _)); refine blk_put (cs := #[.int .i64 0, .int .i64 0, .int .u32 0, .int .u32 0, .int .u32 0]) ?_ 0 _ rfl; (with_reducible repeat (first | refine blk_drewN ?_ _ | refine blk_drew ?_ | refine blk_alloc ?_ _)); exact BK136.out) Tryd.underlying48 rfl (by kernel_rfl)) rfl ?_
                            exact ⟨by first | rfl | (simp [errW_none, errW_some] <;> rfl) | (simp [*, errW_none, errW_some] <;> rfl), (by first | exact (by (with_reducible repeat (first | apply Kd.R_alloc | apply Kd.R_drewN | apply Kd.R_drew)); exact Kd.R_mono (Kd.R_far (p := ⟨gb136, 4, none⟩) (Kd.R_far (p := ⟨gb136, 3, none⟩) (Kd.R_far (p := ⟨gb136, 2, none⟩) (Kd.R_far (p := ⟨gb136, 1, none⟩) (Kd.R_far (p := ⟨gb136, 0, none⟩) (Kd.R_types HO_0.out BK136.out (by decide)) (fun _ hk => hk.2) (.int .i64 a1_0)) (fun _ hk => hk.2) (.int .i64 a1_1)) (fun _ hk => hk.2) (.int .u32 a1_2)) (fun _ hk => hk.2) (.int .u32 a1_3)) (fun _ hk => hk.2) (.int .u32 (rd l0 a1_1))) (fun _ hk => hk.1)) | (simp only [hl0_31]; exact (by (with_reducible repeat (first | apply Kd.R_alloc | apply Kd.R_drewN | apply Kd.R_drew)); exact Kd.R_mono (Kd.R_far (p := ⟨gb136, 4, none⟩) (Kd.R_far (p := ⟨gb136, 3, none⟩) (Kd.R_far (p := ⟨gb136, 2, none⟩) (Kd.R_far (p := ⟨gb136, 1, none⟩) (Kd.R_far (p := ⟨gb136, 0, none⟩) (Kd.R_types HO_0.out BK136.out (by decide)) (fun _ hk => hk.2) (.int .i64 a1_0)) (fun _ hk => hk.2) (.int .i64 a1_1)) (fun _ hk => hk.2) (.int .u32 a1_2)) (fun _ hk => hk.2) (.int .u32 a1_3)) (fun _ hk => hk.2) (.int .u32 (rd l0 a1_1))) (fun _ hk => hk.1)))), by repeat (first | (with_reducible first | exact HB.out | apply below_alloc | apply pw_below_drewN | apply below_drew1 | refine below_set ?_ GE135.out | refine below_set ?_ GE136.out) | exact HB.out), by repeat (first | (with_reducible first | exact HK.out | apply Kept.alloc | apply Kept.drewN | apply Kept.drew | refine Kept.setCell ?_ (.inr GW135.out) _ | refine Kept.setCell ?_ (.inr GW136.out) _) | exact HK.out)⟩
                        · rw [if_neg c43] at H
                          exact absurd H (by simp)
                      · rw [if_neg c42] at H
                        exact absurd H (by simp)
                    · rw [if_neg c41] at H
                      have c41b0 : (a1_0 == 3) = false := beq_eq_false_iff_ne.mpr c41
                      have c41b1 : (a1_0 != 3) = true := bne_iff_ne.mpr c41
                      by_cases c69 : a1_0 = 5
                      · rw [if_pos c69] at H
                        have c69b0 : (a1_0 == 5) = true := beq_iff_eq.mpr c69
                        have c69b1 : (a1_0 != 5) = false := bne_eq_false_iff_eq.mpr c69
                        clear c69
                        by_cases c70 : (rd l0 a1_1) = a1_2
                        · rw [if_pos c70] at H
                          have c70b0 : ((rd l0 a1_1) == a1_2) = true := beq_iff_eq.mpr c70
                          have c70b1 : ((rd l0 a1_1) != a1_2) = false := bne_eq_false_iff_eq.mpr c70
                          clear c70
                          by_cases c71 : 0 ≤ a1_1
                          · rw [if_pos c71] at H
                            have c71b0 : decide (0 ≤ a1_1) = true := decide_eq_true c71
                            clear c71
                            by_cases c72 : a1_1 < (x0_31.length : Int)
                            · rw [if_pos c72] at H
                              have c72b0 : decide (a1_1 < (x0_31.length : Int)) = true := decide_eq_true c72
                              clear c72
                              obtain ⟨y142, hy142⟩ : ∃ y_ : List Int, y_ = (x0_31.set (a1_1 : Int).toNat a1_3) := ⟨_, rfl⟩
                              replace H : (some (a1_0, a1_1, a1_2, a1_3, (rd l0 a1_1), true, y142)) = some (r1, r2, r3, r4, r5, r6, r7) := by first | (rw [hy142]; with_reducible exact H) | (have H2_ := (Option.bind_some _ _).symm.trans H; rw [hy142]; with_reducible exact H2_) | (have H2_ := (Option.bind_some _ _).symm.trans H; with_reducible exact H2_) | with_reducible exact H | (rw [hy142]; exact H) | exact H
                              have Ny142 := Aside0.mk hy142
                              clear hy142
                              simp only [Option.some.injEq, Prod.mk.injEq] at H
                              obtain ⟨rfl, rfl, rfl, rfl, rfl, rfl, rfl⟩ := H
                              have hnb74 := NB135_136.out
                              have hnc74 := NB136_135.out
                              have hcz75_0 : wc.cell? ⟨gb135, 0, none⟩ = some (.int .i64 a1_0) := (blk_cell BK135.out 0).trans rfl
                              have hcz75_1 : wc.cell? ⟨gb135, 1, none⟩ = some (.int .i64 a1_1) := (blk_cell BK135.out 1).trans rfl
                              have hcz75_2 : wc.cell? ⟨gb135, 2, none⟩ = some (.int .u32 a1_2) := (blk_cell BK135.out 2).trans rfl
                              have hcz75_3 : wc.cell? ⟨gb135, 3, none⟩ = some (.int .u32 a1_3) := (blk_cell BK135.out 3).trans rfl
                              have hcz75_4 : wc.cell? ⟨gb135, 4, none⟩ = some (.int .u32 (rd l0 a1_1)) := (blk_cell BK135.out 4).trans rfl
                              have hfz75_0 := blk_frozen BK135.out 0
                              have hfz75_1 := blk_frozen BK135.out 1
                              have hfz75_2 := blk_frozen BK135.out 2
                              have hfz75_3 := blk_frozen BK135.out 3
                              have hfz75_4 := blk_frozen BK135.out 4
                              have p73 : 0 ≤ (a1_1 : Int) := of_decide_eq_true (by first | (with_reducible assumption) | assumption)
                              have q73 : (a1_1 : Int) < ((x0_31.length : Int) : Int) := of_decide_eq_true (by first | (with_reducible assumption) | assumption)
                              obtain ⟨go73, co73, eo73, gb73, gl73, cl73, HG73⟩ := Kd.R_form HO_0.out (by omega)
                              (first | cases eo73 | (injection eo73 with ea_ en_ ec_; (first | subst ea_ | (injection ea_ with ea_; subst ea_)); subst ec_; clear en_))
                              have GB73 := Aside0.mk gb73
                              have GG73 := Aside0.mk HG73
                              clear gb73 gl73 HG73
                              have HMgo73 := Aside0.mk (show (P0_ go73 ∨ w.heap.size ≤ go73) from (HO_0.out.1 _ rfl))
                              obtain ⟨hx73_0, hf73_0⟩ := Kd.R_celln 0 HO_0.out (a1_1 : Int) p73 q73
                              replace p73 := eq_true p73
                              replace q73 := eq_true q73
                              have HP76 := Kd.R_putg HO_0.out (a1_1 : Int) a1_3
                              go_wp2_with (first | ((with_reducible refine gate_store (t := 46) (p := 69) rfl ?_); refine store_event (t := 46) (p := 69) (v := ?vo_w77) (w1 := (wc.setCell ⟨go73, (a1_1 : Int).toNat, none⟩ (.int .u32 a1_3))) ?hg ?ho ?hn ?hr ?_; (case ho => rfl); (case hg => rfl); (case hn => rfl); (case hr => first | (go_simp; done) | (go_simp; rfl)); intro w77 hw; have hg : wc.grownBy w77 (some go73) := (by rw [hw]; exact HP76.2); have hp_ : Kd.R (Kd.int .u32) 46 w77 w0.heap.size (fun k_ => (P0_ k_ ∨ w.heap.size ≤ k_)) (.slice (some ⟨go73, 0, none⟩) x0_31.length co26) y142 := (by rw [hw, Ny142.out]; exact HP76.1); clear HP76; have n0_ := Aside0.mk (hp_); have n1_ := Aside0.mk (blk_grown (g := gb135) (o := .cells #[.int .i64 a1_0, .int .i64 a1_1, .int .u32 a1_2, .int .u32 a1_3, .int .u32 (rd l0 a1_1)] 48 (0, 0)) (by (with_reducible repeat (first | refine blk_drewN ?_ _ | refine blk_drew ?_ | refine blk_alloc ?_ _)); exact BK135.out) hg (Kd.R_ne HO_0.out BK135.out (by decide))); have n2_ := Aside0.mk (blk_grown (g := gb136) (o := .cells #[.int .i64 0, .int .i64 0, .int .u32 0, .int .u32 0, .int .u32 0] 48 (0, 0)) (by (with_reducible repeat (first | refine blk_drewN ?_ _ | refine blk_drew ?_ | refine blk_alloc ?_ _)); exact BK136.out) hg (Kd.R_ne HO_0.out BK136.out (by decide))); have n3_ := Aside0.mk ((by rw [hw]; exact below_set (HB.out) GB73.out : Below w0.heap.size w0 w77)); have n4_ := Aside0.mk (Kept.of_grown (S := (fun k_ => P0_ k_)) hg (by repeat (first | (with_reducible first | exact HK.out | apply Kept.alloc | apply Kept.drewN | apply Kept.drew | refine Kept.setCell ?_ (.inr GW135.out) _ | refine Kept.setCell ?_ (.inr GW136.out) _) | exact HK.out)) (fun k_ e_ => (HO_0.out.1 k_ e_))); clear HO_0; clear BK135; clear BK136; clear HB; clear HK; have HO_0 := n0_; have BK135 := n1_; have BK136 := n2_; have HB := n3_; have HK := n4_; clear n0_ n1_ n2_ n3_ n4_; clear hg hw hp_; have hcz78_0 : w77.cell? ⟨gb135, 0, none⟩ = some (.int .i64 a1_0) := (blk_cell BK135.out 0).trans rfl; have hcz78_1 : w77.cell? ⟨gb135, 1, none⟩ = some (.int .i64 a1_1) := (blk_cell BK135.out 1).trans rfl; have hcz78_2 : w77.cell? ⟨gb135, 2, none⟩ = some (.int .u32 a1_2) := (blk_cell BK135.out 2).trans rfl; have hcz78_3 : w77.cell? ⟨gb135, 3, none⟩ = some (.int .u32 a1_3) := (blk_cell BK135.out 3).trans rfl; have hcz78_4 : w77.cell? ⟨gb135, 4, none⟩ = some (.int .u32 (rd l0 a1_1)) := (blk_cell BK135.out 4).trans rfl; have hfz78_0 := blk_frozen BK135.out 0; have hfz78_1 := blk_frozen BK135.out 1; have hfz78_2 := blk_frozen BK135.out 2; have hfz78_3 := blk_frozen BK135.out 3; have hfz78_4 := blk_frozen BK135.out 4; have hcz79_0 : w77.cell? ⟨gb136, 0, none⟩ = some (.int .i64 0) := (blk_cell BK136.out 0).trans rfl; have hcz79_1 : w77.cell? ⟨gb136, 1, none⟩ = some (.int .i64 0) := (blk_cell BK136.out 1).trans rfl; have hcz79_2 : w77.cell? ⟨gb136, 2, none⟩ = some (.int .u32 0) := (blk_cell BK136.out 2).trans rfl; have hcz79_3 : w77.cell? ⟨gb136, 3, none⟩ = some (.int .u32 0) := (blk_cell BK136.out 3).trans rfl; have hcz79_4 : w77.cell? ⟨gb136, 4, none⟩ = some (.int .u32 0) := (blk_cell BK136.out 4).trans rfl; have hfz79_0 := blk_frozen BK136.out 0; have hfz79_1 := blk_frozen BK136.out 1; have hfz79_2 := blk_frozen BK136.out 2; have hfz79_3 := blk_frozen BK136.out 3; have hfz79_4 := blk_frozen BK136.out 4))
                              refine bodyPost_ret (results_ct rfl _ _ gb136 48 #[.int .i64 a1_0, .int .i64 a1_1, .int .u32 a1_2, .int .u32 a1_3, .int .u32 (rd l0 a1_1)] (0, 0) _ rfl (by (with_reducible repeat (first | refine blk_drewN ?_ _ | refine blk_drew ?_ | refine blk_alloc ?_ _)); refine blk_put (cs := #[.int .i64 a1_0, .int .i64 a1_1, .int .u32 a1_2, .int .u32 a1_3, .int .u32 0]) ?_ 4 _ rfl; (with_reducible repeat (first | refine blk_drewN ?_ _ | refine blk_drew ?_ | refine blk_alloc ?_ _)); refine blk_put (cs := #[.int .i64 a1_0, .int .i64 a1_1, .int .u32 a1_2, .int .u32 0, .int .u32 0]) ?_ 3 _ rfl; (with_reducible repeat (first | refine blk_drewN ?_ _ | refine blk_drew ?_ | refine blk_alloc ?_ _)); refine blk_put (cs := #[.int .i64 a1_0, .int .i64 a1_1, .int .u32 0, .int .u32 0, .int .u32 0]) ?_ 2 _ rfl; (with_reducible repeat (first | refine blk_drewN ?_ _ | refine blk_drew ?_ | refine blk_alloc ?_ _)); refine blk_put (cs := #[.int .i64 a1_0, .int .i64 0, .int .u32 0, .int .u32 0, .int .u32 0]) ?_ 1 _ rfl; (with_reducible repeat (first | refine blk_drewN ?_ _ | refine blk_drew ?_ | refine blk_alloc ?_ _)); refine blk_put (cs := #[.int .i64 0, .int .i64 0, .int .u32 0, .int .u32 0, .int .u32 0]) ?_ 0 _ rfl; (with_reducible repeat (first | refine blk_drewN ?_ _ | refine blk_drew ?_ | refine blk_alloc ?_ _)); exact BK136.out) Tryd.underlying48 rfl (by kernel_rfl)) rfl ?_
                              exact ⟨by first | rfl | (simp [errW_none, errW_some] <;> rfl) | (simp [*, errW_none, errW_some] <;> rfl), (by first | exact (by (with_reducible repeat (first | apply Kd.R_alloc | apply Kd.R_drewN | apply Kd.R_drew)); exact Kd.R_mono (Kd.R_far (p := ⟨gb136, 4, none⟩) (Kd.R_far (p := ⟨gb136, 3, none⟩) (Kd.R_far (p := ⟨gb136, 2, none⟩) (Kd.R_far (p := ⟨gb136, 1, none⟩) (Kd.R_far (p := ⟨gb136, 0, none⟩) (Kd.R_types HO_0.out BK136.out (by decide)) (fun _ hk => hk.2) (.int .i64 a1_0)) (fun _ hk => hk.2) (.int .i64 a1_1)) (fun _ hk => hk.2) (.int .u32 a1_2)) (fun _ hk => hk.2) (.int .u32 a1_3)) (fun _ hk => hk.2) (.int .u32 (rd l0 a1_1))) (fun _ hk => hk.1)) | (simp only [hl0_31]; exact (by (with_reducible repeat (first | apply Kd.R_alloc | apply Kd.R_drewN | apply Kd.R_drew)); exact Kd.R_mono (Kd.R_far (p := ⟨gb136, 4, none⟩) (Kd.R_far (p := ⟨gb136, 3, none⟩) (Kd.R_far (p := ⟨gb136, 2, none⟩) (Kd.R_far (p := ⟨gb136, 1, none⟩) (Kd.R_far (p := ⟨gb136, 0, none⟩) (Kd.R_types HO_0.out BK136.out (by decide)) (fun _ hk => hk.2) (.int .i64 a1_0)) (fun _ hk => hk.2) (.int .i64 a1_1)) (fun _ hk => hk.2) (.int .u32 a1_2)) (fun _ hk => hk.2) (.int .u32 a1_3)) (fun _ hk => hk.2) (.int .u32 (rd l0 a1_1))) (fun _ hk => hk.1)))), by repeat (first | (with_reducible first | exact HB.out | apply below_alloc | apply pw_below_drewN | apply below_drew1 | refine below_set ?_ GE135.out | refine below_set ?_ GE136.out) | exact HB.out), by repeat (first | (with_reducible first | exact HK.out | apply Kept.alloc | apply Kept.drewN | apply Kept.drew | refine Kept.setCell ?_ (.inr GW135.out) _ | refine Kept.setCell ?_ (.inr GW136.out) _) | exact HK.out)⟩
                            · rw [if_neg c72] at H
                              exact absurd H (by simp)
                          · rw [if_neg c71] at H
                            exact absurd H (by simp)
                        · rw [if_neg c70] at H
                          have c70b0 : ((rd l0 a1_1) == a1_2) = false := beq_eq_false_iff_ne.mpr c70
                          have c70b1 : ((rd l0 a1_1) != a1_2) = true := bne_iff_ne.mpr c70
                          simp only [Option.some.injEq, Prod.mk.injEq] at H
                          obtain ⟨rfl, rfl, rfl, rfl, rfl, rfl, rfl⟩ := H
                          have hnb80 := NB135_136.out
                          have hnc80 := NB136_135.out
                          have hcz81_0 : wc.cell? ⟨gb135, 0, none⟩ = some (.int .i64 a1_0) := (blk_cell BK135.out 0).trans rfl
                          have hcz81_1 : wc.cell? ⟨gb135, 1, none⟩ = some (.int .i64 a1_1) := (blk_cell BK135.out 1).trans rfl
                          have hcz81_2 : wc.cell? ⟨gb135, 2, none⟩ = some (.int .u32 a1_2) := (blk_cell BK135.out 2).trans rfl
                          have hcz81_3 : wc.cell? ⟨gb135, 3, none⟩ = some (.int .u32 a1_3) := (blk_cell BK135.out 3).trans rfl
                          have hcz81_4 : wc.cell? ⟨gb135, 4, none⟩ = some (.int .u32 (rd l0 a1_1)) := (blk_cell BK135.out 4).trans rfl
                          have hfz81_0 := blk_frozen BK135.out 0
                          have hfz81_1 := blk_frozen BK135.out 1
                          have hfz81_2 := blk_frozen BK135.out 2
                          have hfz81_3 := blk_frozen BK135.out 3
                          have hfz81_4 := blk_frozen BK135.out 4
                          have hcz82_0 : wc.cell? ⟨gb136, 0, none⟩ = some (.int .i64 0) := (blk_cell BK136.out 0).trans rfl
                          have hcz82_1 : wc.cell? ⟨gb136, 1, none⟩ = some (.int .i64 0) := (blk_cell BK136.out 1).trans rfl
                          have hcz82_2 : wc.cell? ⟨gb136, 2, none⟩ = some (.int .u32 0) := (blk_cell BK136.out 2).trans rfl
                          have hcz82_3 : wc.cell? ⟨gb136, 3, none⟩ = some (.int .u32 0) := (blk_cell BK136.out 3).trans rfl
                          have hcz82_4 : wc.cell? ⟨gb136, 4, none⟩ = some (.int .u32 0) := (blk_cell BK136.out 4).trans rfl
                          have hfz82_0 := blk_frozen BK136.out 0
                          have hfz82_1 := blk_frozen BK136.out 1
                          have hfz82_2 := blk_frozen BK136.out 2
                          have hfz82_3 := blk_frozen BK136.out 3
                          have hfz82_4 := blk_frozen BK136.out 4
                          go_wp2
                          refine bodyPost_ret (results_ct rfl _ _ gb136 48 #[.int .i64 a1_0, .int .i64 a1_1, .int .u32 a1_2, .int .u32 a1_3, .int .u32 (rd l0 a1_1)] (0, 0) _ rfl (by (with_reducible repeat (first | refine blk_drewN ?_ _ | refine blk_drew ?_ | refine blk_alloc ?_ _)); refine blk_put (cs := #[.int .i64 a1_0, .int .i64 a1_1, .int .u32 a1_2, .int .u32 a1_3, .int .u32 0]) ?_ 4 _ rfl; (with_reducible repeat (first | refine blk_drewN ?_ _ | refine blk_drew ?_ | refine blk_alloc ?_ _)); refine blk_put (cs := #[.int .i64 a1_0, .int .i64 a1_1, .int .u32 a1_2, .int .u32 0, .int .u32 0]) ?_ 3 _ rfl; (with_reducible repeat (first | refine blk_drewN ?_ _ | refine blk_drew ?_ | refine blk_alloc ?_ _)); refine blk_put (cs := #[.int .i64 a1_0, .int .i64 a1_1, .int .u32 0, .int .u32 0, .int .u32 0]) ?_ 2 _ rfl; (with_reducible repeat (first | refine blk_drewN ?_ _ | refine blk_drew ?_ | refine blk_alloc ?_ _)); refine blk_put (cs := #[.int .i64 a1_0, .int .i64 0, .int .u32 0, .int .u32 0, .int .u32 0]) ?_ 1 _ rfl; (with_reducible repeat (first | refine blk_drewN ?_ _ | refine blk_drew ?_ | refine blk_alloc ?_ _)); refine blk_put (cs := #[.int .i64 0, .int .i64 0, .int .u32 0, .int .u32 0, .int .u32 0]) ?_ 0 _ rfl; (with_reducible repeat (first | refine blk_drewN ?_ _ | refine blk_drew ?_ | refine blk_alloc ?_ _)); exact BK136.out) Tryd.underlying48 rfl (by kernel_rfl)) rfl ?_
                          exact ⟨by first | rfl | (simp [errW_none, errW_some] <;> rfl) | (simp [*, errW_none, errW_some] <;> rfl), (by first | exact (by (with_reducible repeat (first | apply Kd.R_alloc | apply Kd.R_drewN | apply Kd.R_drew)); exact Kd.R_mono (Kd.R_far (p := ⟨gb136, 4, none⟩) (Kd.R_far (p := ⟨gb136, 3, none⟩) (Kd.R_far (p := ⟨gb136, 2, none⟩) (Kd.R_far (p := ⟨gb136, 1, none⟩) (Kd.R_far (p := ⟨gb136, 0, none⟩) (Kd.R_types HO_0.out BK136.out (by decide)) (fun _ hk => hk.2) (.int .i64 a1_0)) (fun _ hk => hk.2) (.int .i64 a1_1)) (fun _ hk => hk.2) (.int .u32 a1_2)) (fun _ hk => hk.2) (.int .u32 a1_3)) (fun _ hk => hk.2) (.int .u32 (rd l0 a1_1))) (fun _ hk => hk.1)) | (simp only [hl0_31]; exact (by (with_reducible repeat (first | apply Kd.R_alloc | apply Kd.R_drewN | apply Kd.R_drew)); exact Kd.R_mono (Kd.R_far (p := ⟨gb136, 4, none⟩) (Kd.R_far (p := ⟨gb136, 3, none⟩) (Kd.R_far (p := ⟨gb136, 2, none⟩) (Kd.R_far (p := ⟨gb136, 1, none⟩) (Kd.R_far (p := ⟨gb136, 0, none⟩) (Kd.R_types HO_0.out BK136.out (by decide)) (fun _ hk => hk.2) (.int .i64 a1_0)) (fun _ hk => hk.2) (.int .i64 a1_1)) (fun _ hk => hk.2) (.int .u32 a1_2)) (fun _ hk => hk.2) (.int .u32 a1_3)) (fun _ hk => hk.2) (.int .u32 (rd l0 a1_1))) (fun _ hk => hk.1)))), by repeat (first | (with_reducible first | exact HB.out | apply below_alloc | apply pw_below_drewN | apply below_drew1 | refine below_set ?_ GE135.out | refine below_set ?_ GE136.out) | exact HB.out), by repeat (first | (with_reducible first | exact HK.out | apply Kept.alloc | apply Kept.drewN | apply Kept.drew | refine Kept.setCell ?_ (.inr GW135.out) _ | refine Kept.setCell ?_ (.inr GW136.out) _) | exact HK.out)⟩
                      · rw [if_neg c69] at H
                        have c69b0 : (a1_0 == 5) = false := beq_eq_false_iff_ne.mpr c69
                        have c69b1 : (a1_0 != 5) = true := bne_iff_ne.mpr c69
                        simp only [Option.some.injEq, Prod.mk.injEq] at H
                        obtain ⟨rfl, rfl, rfl, rfl, rfl, rfl, rfl⟩ := H
                        have hnb83 := NB135_136.out
                        have hnc83 := NB136_135.out
                        have hcz84_0 : wc.cell? ⟨gb135, 0, none⟩ = some (.int .i64 a1_0) := (blk_cell BK135.out 0).trans rfl
                        have hcz84_1 : wc.cell? ⟨gb135, 1, none⟩ = some (.int .i64 a1_1) := (blk_cell BK135.out 1).trans rfl
                        have hcz84_2 : wc.cell? ⟨gb135, 2, none⟩ = some (.int .u32 a1_2) := (blk_cell BK135.out 2).trans rfl
                        have hcz84_3 : wc.cell? ⟨gb135, 3, none⟩ = some (.int .u32 a1_3) := (blk_cell BK135.out 3).trans rfl
                        have hcz84_4 : wc.cell? ⟨gb135, 4, none⟩ = some (.int .u32 (rd l0 a1_1)) := (blk_cell BK135.out 4).trans rfl
                        have hfz84_0 := blk_frozen BK135.out 0
                        have hfz84_1 := blk_frozen BK135.out 1
                        have hfz84_2 := blk_frozen BK135.out 2
                        have hfz84_3 := blk_frozen BK135.out 3
                        have hfz84_4 := blk_frozen BK135.out 4
                        have hcz85_0 : wc.cell? ⟨gb136, 0, none⟩ = some (.int .i64 0) := (blk_cell BK136.out 0).trans rfl
                        have hcz85_1 : wc.cell? ⟨gb136, 1, none⟩ = some (.int .i64 0) := (blk_cell BK136.out 1).trans rfl
                        have hcz85_2 : wc.cell? ⟨gb136, 2, none⟩ = some (.int .u32 0) := (blk_cell BK136.out 2).trans rfl
                        have hcz85_3 : wc.cell? ⟨gb136, 3, none⟩ = some (.int .u32 0) := (blk_cell BK136.out 3).trans rfl
                        have hcz85_4 : wc.cell? ⟨gb136, 4, none⟩ = some (.int .u32 0) := (blk_cell BK136.out 4).trans rfl
                        have hfz85_0 := blk_frozen BK136.out 0
                        have hfz85_1 := blk_frozen BK136.out 1
                        have hfz85_2 := blk_frozen BK136.out 2
                        have hfz85_3 := blk_frozen BK136.out 3
                        have hfz85_4 := blk_frozen BK136.out 4
                        go_wp2
                        refine bodyPost_ret (results_ct rfl _ _ gb136 48 #[.int .i64 a1_0, .int .i64 a1_1, .int .u32 a1_2, .int .u32 a1_3, .int .u32 (rd l0 a1_1)] (0, 0) _ rfl (by (with_reducible repeat (first | refine blk_drewN ?_ _ | refine blk_drew ?_ | refine blk_alloc ?_ _)); refine blk_put (cs := #[.int .i64 a1_0, .int .i64 a1_1, .int .u32 a1_2, .int .u32 a1_3, .int .u32 0]) ?_ 4 _ rfl; (with_reducible repeat (first | refine blk_drewN ?_ _ | refine blk_drew ?_ | refine blk_alloc ?_ _)); refine blk_put (cs := #[.int .i64 a1_0, .int .i64 a1_1, .int .u32 a1_2, .int .u32 0, .int .u32 0]) ?_ 3 _ rfl; (with_reducible repeat (first | refine blk_drewN ?_ _ | refine blk_drew ?_ | refine blk_alloc ?_ _)); refine blk_put (cs := #[.int .i64 a1_0, .int .i64 a1_1, .int .u32 0, .int .u32 0, .int .u32 0]) ?_ 2 _ rfl; (with_reducible repeat (first | refine blk_drewN ?_ _ | refine blk_drew ?_ | refine blk_alloc ?_ _)); refine blk_put (cs := #[.int .i64 a1_0, .int .i64 0, .int .u32 0, .int .u32 0, .int .u32 0]) ?_ 1 _ rfl; (with_reducible repeat (first | refine blk_drewN ?_ _ | refine blk_drew ?_ | refine blk_alloc ?_ _)); refine blk_put (cs := #[.int .i64 0, .int .i64 0, .int .u32 0, .int .u32 0, .int .u32 0]) ?_ 0 _ rfl; (with_reducible repeat (first | refine blk_drewN ?_ _ | refine blk_drew ?_ | refine blk_alloc ?_ _)); exact BK136.out) Tryd.underlying48 rfl (by kernel_rfl)) rfl ?_
                        exact ⟨by first | rfl | (simp [errW_none, errW_some] <;> rfl) | (simp [*, errW_none, errW_some] <;> rfl), (by first | exact (by (with_reducible repeat (first | apply Kd.R_alloc | apply Kd.R_drewN | apply Kd.R_drew)); exact Kd.R_mono (Kd.R_far (p := ⟨gb136, 4, none⟩) (Kd.R_far (p := ⟨gb136, 3, none⟩) (Kd.R_far (p := ⟨gb136, 2, none⟩) (Kd.R_far (p := ⟨gb136, 1, none⟩) (Kd.R_far (p := ⟨gb136, 0, none⟩) (Kd.R_types HO_0.out BK136.out (by decide)) (fun _ hk => hk.2) (.int .i64 a1_0)) (fun _ hk => hk.2) (.int .i64 a1_1)) (fun _ hk => hk.2) (.int .u32 a1_2)) (fun _ hk => hk.2) (.int .u32 a1_3)) (fun _ hk => hk.2) (.int .u32 (rd l0 a1_1))) (fun _ hk => hk.1)) | (simp only [hl0_31]; exact (by (with_reducible repeat (first | apply Kd.R_alloc | apply Kd.R_drewN | apply Kd.R_drew)); exact Kd.R_mono (Kd.R_far (p := ⟨gb136, 4, none⟩) (Kd.R_far (p := ⟨gb136, 3, none⟩) (Kd.R_far (p := ⟨gb136, 2, none⟩) (Kd.R_far (p := ⟨gb136, 1, none⟩) (Kd.R_far (p := ⟨gb136, 0, none⟩) (Kd.R_types HO_0.out BK136.out (by decide)) (fun _ hk => hk.2) (.int .i64 a1_0)) (fun _ hk => hk.2) (.int .i64 a1_1)) (fun _ hk => hk.2) (.int .u32 a1_2)) (fun _ hk => hk.2) (.int .u32 a1_3)) (fun _ hk => hk.2) (.int .u32 (rd l0 a1_1))) (fun _ hk => hk.1)))), by repeat (first | (with_reducible first | exact HB.out | apply below_alloc | apply pw_below_drewN | apply below_drew1 | refine below_set ?_ GE135.out | refine below_set ?_ GE136.out) | exact HB.out), by repeat (first | (with_reducible first | exact HK.out | apply Kept.alloc | apply Kept.drewN | apply Kept.drew | refine Kept.setCell ?_ (.inr GW135.out) _ | refine Kept.setCell ?_ (.inr GW136.out) _) | exact HK.out)⟩
          · rw [if_neg c22] at H
            exact absurd H (by simp)
        · rw [if_neg c21] at H
          exact absurd H (by simp)

/-! ### acc_Writes: function 36 -/
def acc_Writes.j0 : Nat → Int → Bool → Int → Int → Int → Int → Int → Option (Bool)
  | 0, _, _, _, _, _, _, _ => none
  | k + 1, x4, x5, x144000, x144001, x144002, x144003, x144004 => if x5 = true then (some (x144002 != x144004)) else (if x4 = 3 then (some (x144002 != 0)) else (if x4 = 5 then (if x144002 = x144004 then (some (x144003 != x144004)) else (some false)) else (some false)))
def acc_Writes.f (k : Nat) (a0_0 : Int) (a0_1 : Int) (a0_2 : Int) (a0_3 : Int) (a0_4 : Int) : Option (Bool) := if a0_0 = 2 then (acc_Writes.j0 k a0_0 (a0_0 == 2) a0_0 a0_1 a0_2 a0_3 a0_4) else (acc_Writes.j0 k a0_0 (a0_0 == 4) a0_0 a0_1 a0_2 a0_3 a0_4)
theorem acc_Writes.mono_l : ∀ k, (∀ y0 y1 y2 y3 y4 y5 y6, LeO (acc_Writes.j0 k y0 y1 y2 y3 y4 y5 y6) (acc_Writes.j0 (k + 1) y0 y1 y2 y3 y4 y5 y6))
  | 0 => fun _ _ _ _ _ _ _ r h => by simp [acc_Writes.j0] at h
  | k + 1 => by
    have ih0 := acc_Writes.mono_l k
    · intro y0 y1 y2 y3 y4 y5 y6
      unfold acc_Writes.j0
      repeat' first
      | (with_reducible exact ih0 _ _ _ _ _ _ _)
      | (with_reducible exact LeO.refl _)
      | (with_reducible exact LeO.none _)
      | (with_reducible refine LeO.ite ?_ ?_)
      | (with_reducible refine LeO.bind ?_ (fun _ => ?_))
      | exact ih0 _ _ _ _ _ _ _
      | exact LeO.none _
      | refine LeO.ite ?_ ?_
      | refine LeO.bind ?_ (fun _ => ?_)
theorem acc_Writes.mono : ∀ a0 a1 a2 a3 a4 k, LeO (acc_Writes.f k a0 a1 a2 a3 a4) (acc_Writes.f (k + 1) a0 a1 a2 a3 a4) := by
  intro a0 a1 a2 a3 a4 k
  have ih0 := acc_Writes.mono_l k
  unfold acc_Writes.f
  repeat' first
      | (with_reducible exact ih0 _ _ _ _ _ _ _)
      | (with_reducible exact LeO.refl _)
      | (with_reducible exact LeO.none _)
      | (with_reducible refine LeO.ite ?_ ?_)
      | (with_reducible refine LeO.bind ?_ (fun _ => ?_))
      | exact ih0 _ _ _ _ _ _ _
      | exact LeO.none _
      | refine LeO.ite ?_ ?_
      | refine LeO.bind ?_ (fun _ => ?_)
set_option maxHeartbeats 8000000 in
set_option maxRecDepth 100000 in
theorem acc_Writes.calls (k : Nat) (a0_0 : Int) (a0_1 : Int) (a0_2 : Int) (a0_3 : Int) (a0_4 : Int) (r : Bool) (w : World) (h : acc_Writes.f k a0_0 a0_1 a0_2 a0_3 a0_4 = some r) :
    Calls Tryd.prog 36 #[.agg #[.int .i64 a0_0, .int .i64 a0_1, .int .u32 a0_2, .int .u32 a0_3, .int .u32 a0_4]] w fun e w' => e = .returned (.bool r) ∧ Below w.heap.size w w' := by
  have hu48 := Tryd.underlying48
  have HB := Aside0.mk (Below.refl w.heap.size w)
  have H : (if a0_0 = 2 then (acc_Writes.j0 k a0_0 (a0_0 == 2) a0_0 a0_1 a0_2 a0_3 a0_4) else (acc_Writes.j0 k a0_0 (a0_0 == 4) a0_0 a0_1 a0_2 a0_3 a0_4)) = some r := h
  clear h
  have HC2 := Aside0.mk H
  clear H
  go_enter Tryd.func36, Tryd.ntmps36
  go_upto_if 5 with (first | ((with_reducible refine gate_dst (N := 1) rfl ?_); refine box_event ?hg (N := 1) ?hd (cs := #[.int .i64 a0_0, .int .i64 a0_1, .int .u32 a0_2, .int .u32 a0_3, .int .u32 a0_4]) (t := 48) ?hr ?_; (case hd => rfl); (case hg => rfl); (case hr => first | (go_simp; done) | (go_simp; rfl)); intro gb143 hg w3 hbox hb; have n0_ := Aside0.mk (below_step (by repeat (first | (with_reducible first | exact HB.out | apply below_alloc | apply pw_below_drewN | apply below_drew1) | exact HB.out)) hb); have n1_ := Aside0.mk (hbox); have n2_ := Aside0.mk ((by rw [hg]; exact (below_size (by repeat (first | (with_reducible first | exact HB.out | apply below_alloc | apply pw_below_drewN | apply below_drew1) | exact HB.out))) : w.heap.size ≤ gb143)); have n3_ := Aside0.mk ((by rw [hg]; exact (below_size (by repeat (first | (with_reducible first | exact HB.out | apply below_alloc | apply pw_below_drewN | apply below_drew1) | exact HB.out))) : w.heap.size ≤ gb143)); clear HB; have HB := n0_; have BK143 := n1_; have GW143 := n2_; have GE143 := n3_; clear n0_ n1_ n2_ n3_; clear hb hbox hg; have hcz4_0 : w3.cell? ⟨gb143, 0, none⟩ = some (.int .i64 a0_0) := (blk_cell BK143.out 0).trans rfl; have hcz4_1 : w3.cell? ⟨gb143, 1, none⟩ = some (.int .i64 a0_1) := (blk_cell BK143.out 1).trans rfl; have hcz4_2 : w3.cell? ⟨gb143, 2, none⟩ = some (.int .u32 a0_2) := (blk_cell BK143.out 2).trans rfl; have hcz4_3 : w3.cell? ⟨gb143, 3, none⟩ = some (.int .u32 a0_3) := (blk_cell BK143.out 3).trans rfl; have hcz4_4 : w3.cell? ⟨gb143, 4, none⟩ = some (.int .u32 a0_4) := (blk_cell BK143.out 4).trans rfl; have hfz4_0 := blk_frozen BK143.out 0; have hfz4_1 := blk_frozen BK143.out 1; have hfz4_2 := blk_frozen BK143.out 2; have hfz4_3 := blk_frozen BK143.out 3; have hfz4_4 := blk_frozen BK143.out 4))
  (try simp only [Act.put, List.setIfInBounds_toArray, List.set_cons_zero, List.set_cons_succ])
  go_cut [5] (fun v5 wc => ∃ (kq : Nat) (x5_1 : Bool), v5 = .bool x5_1 ∧ Aside0 (acc_Writes.j0 kq a0_0 x5_1 a0_0 a0_1 a0_2 a0_3 a0_4 = some r) ∧ Aside0 (kq ≤ k) ∧ Aside0 (wc.heap[gb143]? = some (.cells #[.int .i64 a0_0, .int .i64 a0_1, .int .u32 a0_2, .int .u32 a0_3, .int .u32 a0_4] 48 (0, 0))) ∧ Aside0 (Below w.heap.size w wc))
  case first =>
    have H := HC2.out
    clear HC2
    by_cases c5 : a0_0 = 2
    · rw [if_pos c5] at H
      have c5b0 : (a0_0 == 2) = true := beq_iff_eq.mpr c5
      have c5b1 : (a0_0 != 2) = false := bne_eq_false_iff_eq.mpr c5
      clear c5
      (first | rw [c5b0] | (simp only [i64_w, i32_w]; rw [c5b0]) | skip)
      have H' := Aside0.mk H
      clear H
      go_wp2
      go_meet
      case rel => exact ⟨_, ((a0_0 == 2)), (by first | rfl | (simp; done) | (simp [*]; done)), H', ⟨by first | omega | exact Nat.le_refl _⟩, ⟨by (with_reducible repeat (first | refine blk_drewN ?_ _ | refine blk_drew ?_ | refine blk_alloc ?_ _)); exact BK143.out⟩, ⟨by repeat (first | (with_reducible first | exact HB.out | apply below_alloc | apply pw_below_drewN | apply below_drew1 | refine below_set ?_ GE143.out) | exact HB.out)⟩⟩
    · rw [if_neg c5] at H
      have c5b0 : (a0_0 == 2) = false := beq_eq_false_iff_ne.mpr c5
      have c5b1 : (a0_0 != 2) = true := bne_iff_ne.mpr c5
      (first | rw [c5b0] | (simp only [i64_w, i32_w]; rw [c5b0]) | skip)
      have H' := Aside0.mk H
      clear H
      go_wp2
      go_meet
      case rel => exact ⟨_, ((a0_0 == 4)), (by first | rfl | (simp; done) | (simp [*]; done)), H', ⟨by first | omega | exact Nat.le_refl _⟩, ⟨by (with_reducible repeat (first | refine blk_drewN ?_ _ | refine blk_drew ?_ | refine blk_alloc ?_ _)); exact BK143.out⟩, ⟨by repeat (first | (with_reducible first | exact HB.out | apply below_alloc | apply pw_below_drewN | apply below_drew1 | refine below_set ?_ GE143.out) | exact HB.out)⟩⟩
  case rest =>
    clear HC2
    try clear p2
    try clear c3
    try clear c5
    try clear c5b0
    try clear c5b1
    try clear hcz4_0
    try clear hcz4_1
    try clear hcz4_2
    try clear hcz4_3
    try clear hcz4_4
    try clear hfz4_0
    try clear hfz4_1
    try clear hfz4_2
    try clear hfz4_3
    try clear hfz4_4
    obtain ⟨kq, x5_1, rfl, HA, HJ1, BK143, HB⟩ := hcut
    cases kq with
    | zero => exact absurd HA.out (by simp [acc_Writes.j0])
    | succ kj1 =>
      have H := HA.out
      clear HA
      simp only [acc_Writes.j0] at H
      by_cases c6 : x5_1 = true
      · subst c6
        have H1 : (some (a0_2 != a0_4)) = some r := by rw [if_pos rfl] at H; exact H
        clear H
        have H := H1
        clear H1
        obtain rfl := Option.some.inj H
        have hcz7_0 : wc.cell? ⟨gb143, 0, none⟩ = some (.int .i64 a0_0) := (blk_cell BK143.out 0).trans rfl
        have hcz7_1 : wc.cell? ⟨gb143, 1, none⟩ = some (.int .i64 a0_1) := (blk_cell BK143.out 1).trans rfl
        have hcz7_2 : wc.cell? ⟨gb143, 2, none⟩ = some (.int .u32 a0_2) := (blk_cell BK143.out 2).trans rfl
        have hcz7_3 : wc.cell? ⟨gb143, 3, none⟩ = some (.int .u32 a0_3) := (blk_cell BK143.out 3).trans rfl
        have hcz7_4 : wc.cell? ⟨gb143, 4, none⟩ = some (.int .u32 a0_4) := (blk_cell BK143.out 4).trans rfl
        have hfz7_0 := blk_frozen BK143.out 0
        have hfz7_1 := blk_frozen BK143.out 1
        have hfz7_2 := blk_frozen BK143.out 2
        have hfz7_3 := blk_frozen BK143.out 3
        have hfz7_4 := blk_frozen BK143.out 4
        go_wp2
        go_ret
        exact ⟨by first | rfl | (simp [errW_none, errW_some] <;> rfl) | (simp [*, errW_none, errW_some] <;> rfl), by repeat (first | (with_reducible first | exact HB.out | apply below_alloc | apply pw_below_drewN | apply below_drew1 | refine below_set ?_ GE143.out) | exact HB.out)⟩
      · replace c6 := Bool.eq_false_iff.mpr c6
        subst c6
        have H1 : (if a0_0 = 3 then (some (a0_2 != 0)) else (if a0_0 = 5 then (if a0_2 = a0_4 then (some (a0_3 != a0_4)) else (some false)) else (some false))) = some r := by rw [if_neg (show ¬ (false = true) by decide)] at H; exact H
        clear H
        have H := H1
        clear H1
        by_cases c8 : a0_0 = 3
        · rw [if_pos c8] at H
          have c8b0 : (a0_0 == 3) = true := beq_iff_eq.mpr c8
          have c8b1 : (a0_0 != 3) = false := bne_eq_false_iff_eq.mpr c8
          clear c8
          obtain rfl := Option.some.inj H
          have hcz9_0 : wc.cell? ⟨gb143, 0, none⟩ = some (.int .i64 a0_0) := (blk_cell BK143.out 0).trans rfl
          have hcz9_1 : wc.cell? ⟨gb143, 1, none⟩ = some (.int .i64 a0_1) := (blk_cell BK143.out 1).trans rfl
          have hcz9_2 : wc.cell? ⟨gb143, 2, none⟩ = some (.int .u32 a0_2) := (blk_cell BK143.out 2).trans rfl
          have hcz9_3 : wc.cell? ⟨gb143, 3, none⟩ = some (.int .u32 a0_3) := (blk_cell BK143.out 3).trans rfl
          have hcz9_4 : wc.cell? ⟨gb143, 4, none⟩ = some (.int .u32 a0_4) := (blk_cell BK143.out 4).trans rfl
          have hfz9_0 := blk_frozen BK143.out 0
          have hfz9_1 := blk_frozen BK143.out 1
          have hfz9_2 := blk_frozen BK143.out 2
          have hfz9_3 := blk_frozen BK143.out 3
          have hfz9_4 := blk_frozen BK143.out 4
          go_wp2
          go_ret
          exact ⟨by first | rfl | (simp [errW_none, errW_some] <;> rfl) | (simp [*, errW_none, errW_some] <;> rfl), by repeat (first | (with_reducible first | exact HB.out | apply below_alloc | apply pw_below_drewN | apply below_drew1 | refine below_set ?_ GE143.out) | exact HB.out)⟩
        · rw [if_neg c8] at H
          have c8b0 : (a0_0 == 3) = false := beq_eq_false_iff_ne.mpr c8
          have c8b1 : (a0_0 != 3) = true := bne_iff_ne.mpr c8
          by_cases c10 : a0_0 = 5
          · rw [if_pos c10] at H
            have c10b0 : (a0_0 == 5) = true := beq_iff_eq.mpr c10
            have c10b1 : (a0_0 != 5) = false := bne_eq_false_iff_eq.mpr c10
            clear c10
            by_cases c11 : a0_2 = a0_4
            · rw [if_pos c11] at H
              have c11b0 : (a0_2 == a0_4) = true := beq_iff_eq.mpr c11
              have c11b1 : (a0_2 != a0_4) = false := bne_eq_false_iff_eq.mpr c11
              clear c11
              obtain rfl := Option.some.inj H
              have hcz12_0 : wc.cell? ⟨gb143, 0, none⟩ = some (.int .i64 a0_0) := (blk_cell BK143.out 0).trans rfl
              have hcz12_1 : wc.cell? ⟨gb143, 1, none⟩ = some (.int .i64 a0_1) := (blk_cell BK143.out 1).trans rfl
              have hcz12_2 : wc.cell? ⟨gb143, 2, none⟩ = some (.int .u32 a0_2) := (blk_cell BK143.out 2).trans rfl
              have hcz12_3 : wc.cell? ⟨gb143, 3, none⟩ = some (.int .u32 a0_3) := (blk_cell BK143.out 3).trans rfl
              have hcz12_4 : wc.cell? ⟨gb143, 4, none⟩ = some (.int .u32 a0_4) := (blk_cell BK143.out 4).trans rfl
              have hfz12_0 := blk_frozen BK143.out 0
              have hfz12_1 := blk_frozen BK143.out 1
              have hfz12_2 := blk_frozen BK143.out 2
              have hfz12_3 := blk_frozen BK143.out 3
              have hfz12_4 := blk_frozen BK143.out 4
              go_wp2
              go_ret
              exact ⟨by first | rfl | (simp [errW_none, errW_some] <;> rfl) | (simp [*, errW_none, errW_some] <;> rfl), by repeat (first | (with_reducible first | exact HB.out | apply below_alloc | apply pw_below_drewN | apply below_drew1 | refine below_set ?_ GE143.out) | exact HB.out)⟩
            · rw [if_neg c11] at H
              have c11b0 : (a0_2 == a0_4) = false := beq_eq_false_iff_ne.mpr c11
              have c11b1 : (a0_2 != a0_4) = true := bne_iff_ne.mpr c11
              obtain rfl := Option.some.inj H
              have hcz13_0 : wc.cell? ⟨gb143, 0, none⟩ = some (.int .i64 a0_0) := (blk_cell BK143.out 0).trans rfl
              have hcz13_1 : wc.cell? ⟨gb143, 1, none⟩ = some (.int .i64 a0_1) := (blk_cell BK143.out 1).trans rfl
              have hcz13_2 : wc.cell? ⟨gb143, 2, none⟩ = some (.int .u32 a0_2) := (blk_cell BK143.out 2).trans rfl
              have hcz13_3 : wc.cell? ⟨gb143, 3, none⟩ = some (.int .u32 a0_3) := (blk_cell BK143.out 3).trans rfl
              have hcz13_4 : wc.cell? ⟨gb143, 4, none⟩ = some (.int .u32 a0_4) := (blk_cell BK143.out 4).trans rfl
              have hfz13_0 := blk_frozen BK143.out 0
              have hfz13_1 := blk_frozen BK143.out 1
              have hfz13_2 := blk_frozen BK143.out 2
              have hfz13_3 := blk_frozen BK143.out 3
              have hfz13_4 := blk_frozen BK143.out 4
              go_wp2
              go_ret
              exact ⟨by first | rfl | (simp [errW_none, errW_some] <;> rfl) | (simp [*, errW_none, errW_some] <;> rfl), by repeat (first | (with_reducible first | exact HB.out | apply below_alloc | apply pw_below_drewN | apply below_drew1 | refine below_set ?_ GE143.out) | exact HB.out)⟩
          · rw [if_neg c10] at H
            have c10b0 : (a0_0 == 5) = false := beq_eq_false_iff_ne.mpr c10
            have c10b1 : (a0_0 != 5) = true := bne_iff_ne.mpr c10
            obtain rfl := Option.some.inj H
            go_wp2
            go_ret
            exact ⟨by first | rfl | (simp [errW_none, errW_some] <;> rfl) | (simp [*, errW_none, errW_some] <;> rfl), by repeat (first | (with_reducible first | exact HB.out | apply below_alloc | apply pw_below_drewN | apply below_drew1 | refine below_set ?_ GE143.out) | exact HB.out)⟩

end Go.Proofs.YtejmbmhehbcflaaDoor.Pr
