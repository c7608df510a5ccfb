-- PRINTED BY print.sh 35421559b90ae4d0a3588c463048766b98c2df88dd9212a6774a882060cdf62d: not written by this session
import Derived.Test.YtgbofijdjgpgeaaPSuiteOncex0
import Derived.Test.YtgbofijdjgpgeaaPSuiteOncex1
namespace Go.Proofs.Ytgbofijdjgpgeaa.PSuiteOnce
open Go.RowKit Go.Proofs.YtgbofijdjgpgeaaW.PrintWords Go.Proofs.YtgbofijdjgpgeaaW.PrintLast Go.Proofs.YtgbofijdjgpgeaaW.PrintMore
attribute [local go_sem] max2_int min2_int max_two min_two max_three min_three max_four min_four   -- for this text's walks alone
set_option linter.unusedVariables false
set_option linter.unusedSimpArgs false

/-! ### stilemanlaw17_SuiteOnce: function 9 -/
mutual
def stilemanlaw17_SuiteOnce.l0 : Nat → Int → Int → Int → Int → Option (Bool)
  | 0, _, _, _, _ => none
  | k + 1, x1, x5, x6, x7 => if x7 < 3 then ((suite_May.f k x5 x7).bind fun t114 => (if t114 = true then ((suite_At.f k x5 x7).bind fun t115 => ((suite_Behind.f k x5 (Int.tmod (wrap64 (x1)) 4) t115).bind fun t116 => (stilemanlaw17_SuiteOnce.l1 k x1 x5 (wrap64 (x6 + 1)) x7 t116 false 1))) else (stilemanlaw17_SuiteOnce.l0 k x1 x5 x6 (wrap64 (x7 + 1))))) else (if x6 = 1 then ((stilemanlaw17_awake.f k).bind fun t113 => (some t113)) else (some false))
def stilemanlaw17_SuiteOnce.l1 : Nat → Int → Int → Int → Int → Int → Bool → Int → Option (Bool)
  | 0, _, _, _, _, _, _, _ => none
  | k + 1, x1, x5, x6, x7, x8, x9, x10 => if x10 ≤ 8 then (if x9 = true then (stilemanlaw17_SuiteOnce.l1 k x1 x5 x6 x7 x8 true (wrap64 (x10 + 1))) else ((suite_May.f k x10 x8).bind fun t117 => (stilemanlaw17_SuiteOnce.l1 k x1 x5 x6 x7 x8 t117 (wrap64 (x10 + 1))))) else (if x9 = true then (stilemanlaw17_SuiteOnce.l0 k x1 x5 x6 (wrap64 (x7 + 1))) else (some false))
end
def stilemanlaw17_SuiteOnce.f (k : Nat) (a0 : Int) (a1 : Int) : Option (Bool) := stilemanlaw17_SuiteOnce.l0 k a1 (wrap64 (1 + (Int.tmod (wrap64 (a0)) 8))) 0 0
theorem stilemanlaw17_SuiteOnce.mono_l : ∀ k, (∀ y0 y1 y2 y3, LeO (stilemanlaw17_SuiteOnce.l0 k y0 y1 y2 y3) (stilemanlaw17_SuiteOnce.l0 (k + 1) y0 y1 y2 y3)) ∧ (∀ y0 y1 y2 y3 y4 y5 y6, LeO (stilemanlaw17_SuiteOnce.l1 k y0 y1 y2 y3 y4 y5 y6) (stilemanlaw17_SuiteOnce.l1 (k + 1) y0 y1 y2 y3 y4 y5 y6))
  | 0 => ⟨fun _ _ _ _ r h => by simp [stilemanlaw17_SuiteOnce.l0] at h, fun _ _ _ _ _ _ _ r h => by simp [stilemanlaw17_SuiteOnce.l1] at h⟩
  | k + 1 => by
    obtain ⟨ih0, ih1⟩ := stilemanlaw17_SuiteOnce.mono_l k
    refine ⟨?_, ?_⟩
    · intro y0 y1 y2 y3
      unfold stilemanlaw17_SuiteOnce.l0
      repeat' first
      | (with_reducible exact ih0 _ _ _ _)
      | (with_reducible exact ih1 _ _ _ _ _ _ _)
      | (with_reducible exact stilemanlaw17_awake.mono _)
      | (with_reducible exact suite_At.mono _ _ _)
      | (with_reducible exact suite_Behind.mono _ _ _ _)
      | (with_reducible exact suite_May.mono _ _ _)
      | (with_reducible exact LeO.refl _)
      | (with_reducible exact LeO.none _)
      | (with_reducible refine LeO.ite ?_ ?_)
      | (with_reducible refine LeO.bind ?_ (fun _ => ?_))
      | exact ih0 _ _ _ _
      | exact ih1 _ _ _ _ _ _ _
      | exact stilemanlaw17_awake.mono _
      | exact suite_At.mono _ _ _
      | exact suite_Behind.mono _ _ _ _
      | exact suite_May.mono _ _ _
      | exact LeO.none _
      | refine LeO.ite ?_ ?_
      | refine LeO.bind ?_ (fun _ => ?_)
    · intro y0 y1 y2 y3 y4 y5 y6
      unfold stilemanlaw17_SuiteOnce.l1
      repeat' first
      | (with_reducible exact ih0 _ _ _ _)
      | (with_reducible exact ih1 _ _ _ _ _ _ _)
      | (with_reducible exact stilemanlaw17_awake.mono _)
      | (with_reducible exact suite_At.mono _ _ _)
      | (with_reducible exact suite_Behind.mono _ _ _ _)
      | (with_reducible exact suite_May.mono _ _ _)
      | (with_reducible exact LeO.refl _)
      | (with_reducible exact LeO.none _)
      | (with_reducible refine LeO.ite ?_ ?_)
      | (with_reducible refine LeO.bind ?_ (fun _ => ?_))
      | exact ih0 _ _ _ _
      | exact ih1 _ _ _ _ _ _ _
      | exact stilemanlaw17_awake.mono _
      | exact suite_At.mono _ _ _
      | exact suite_Behind.mono _ _ _ _
      | exact suite_May.mono _ _ _
      | exact LeO.none _
      | refine LeO.ite ?_ ?_
      | refine LeO.bind ?_ (fun _ => ?_)
theorem stilemanlaw17_SuiteOnce.mono : ∀ a0 a1 k, LeO (stilemanlaw17_SuiteOnce.f k a0 a1) (stilemanlaw17_SuiteOnce.f (k + 1) a0 a1) := by
  intro a0 a1 k
  obtain ⟨ih0, ih1⟩ := stilemanlaw17_SuiteOnce.mono_l k
  unfold stilemanlaw17_SuiteOnce.f
  repeat' first
      | (with_reducible exact ih0 _ _ _ _)
      | (with_reducible exact ih1 _ _ _ _ _ _ _)
      | (with_reducible exact stilemanlaw17_awake.mono _)
      | (with_reducible exact suite_At.mono _ _ _)
      | (with_reducible exact suite_Behind.mono _ _ _ _)
      | (with_reducible exact suite_May.mono _ _ _)
      | (with_reducible exact LeO.refl _)
      | (with_reducible exact LeO.none _)
      | (with_reducible refine LeO.ite ?_ ?_)
      | (with_reducible refine LeO.bind ?_ (fun _ => ?_))
      | exact ih0 _ _ _ _
      | exact ih1 _ _ _ _ _ _ _
      | exact stilemanlaw17_awake.mono _
      | exact suite_At.mono _ _ _
      | exact suite_Behind.mono _ _ _ _
      | exact suite_May.mono _ _ _
      | exact LeO.none _
      | refine LeO.ite ?_ ?_
      | refine LeO.bind ?_ (fun _ => ?_)
set_option maxHeartbeats 8000000 in
set_option maxRecDepth 100000 in
theorem stilemanlaw17_SuiteOnce.calls (k : Nat) (a0 : Int) (a1 : Int) (r : Bool) (w : World) (h : stilemanlaw17_SuiteOnce.f k a0 a1 = some r) :
    Calls Try.prog 9 #[.int .u8 a0, .int .u8 a1] w fun e w' => e = .returned (.bool r) ∧ Below w.heap.size w w' := by
  have HB := Aside0.mk (Below.refl w.heap.size w)
  have H : (stilemanlaw17_SuiteOnce.l0 k a1 (wrap64 (1 + (Int.tmod (wrap64 (a0)) 8))) 0 0) = some r := h
  clear h
  have H' := Aside0.mk H
  clear H
  go_enter Try.func9, Try.ntmps9
  go_wp2
  go_loopg [6, 7] k (fun kq v6 v7 w' => ∃ (x6_1 : Int) (x7_1 : Int), v6 = .int .i64 x6_1 ∧ v7 = .int .i64 x7_1 ∧ Aside0 (stilemanlaw17_SuiteOnce.l0 kq a1 (wrap64 (1 + (Int.tmod (wrap64 (a0)) 8))) x6_1 x7_1 = some r) ∧ Aside0 (kq ≤ k) ∧ Aside0 (Below w.heap.size w w'))
  case atStart => exact ⟨(0), (0), (by first | rfl | (simp; done) | (simp [*]; done)), (by first | rfl | (simp; done) | (simp [*]; done)), H', ⟨Nat.le_refl _⟩, ⟨by repeat (first | (with_reducible first | exact HB.out | apply below_alloc | apply pw_below_drewN | apply below_drew1) | exact HB.out)⟩⟩
  case round =>
    clear H'
    try clear p2
    obtain ⟨x6_1, x7_1, rfl, rfl, HA, HK1, HB⟩ := hrel
    cases gk with
    | zero => exact absurd HA.out (by simp [stilemanlaw17_SuiteOnce.l0])
    | succ k1 =>
      have H := HA.out
      clear HA
      simp only [stilemanlaw17_SuiteOnce.l0] at H
      by_cases c3 : x7_1 < 3
      · rw [if_pos c3] at H
        have c3b0 : decide (x7_1 < 3) = true := decide_eq_true c3
        clear c3
        replace H := Option.bind_eq_some_iff.mp H
        obtain ⟨t114, A40, H⟩ := H
        replace H : (if t114 = true then ((suite_At.f k1 (wrap64 (1 + (Int.tmod (wrap64 (a0)) 8))) x7_1).bind fun t115 => ((suite_Behind.f k1 (wrap64 (1 + (Int.tmod (wrap64 (a0)) 8))) (Int.tmod (wrap64 (a1)) 4) t115).bind fun t116 => (stilemanlaw17_SuiteOnce.l1 k1 a1 (wrap64 (1 + (Int.tmod (wrap64 (a0)) 8))) (wrap64 (x6_1 + 1)) x7_1 t116 false 1))) else (stilemanlaw17_SuiteOnce.l0 k1 a1 (wrap64 (1 + (Int.tmod (wrap64 (a0)) 8))) x6_1 (wrap64 (x7_1 + 1)))) = some r := H
        have A4 := Aside0.mk A40
        clear A40
        by_cases c5 : t114 = true
        · subst c5
          have H1 : ((suite_At.f k1 (wrap64 (1 + (Int.tmod (wrap64 (a0)) 8))) x7_1).bind fun t115 => ((suite_Behind.f k1 (wrap64 (1 + (Int.tmod (wrap64 (a0)) 8))) (Int.tmod (wrap64 (a1)) 4) t115).bind fun t116 => (stilemanlaw17_SuiteOnce.l1 k1 a1 (wrap64 (1 + (Int.tmod (wrap64 (a0)) 8))) (wrap64 (x6_1 + 1)) x7_1 t116 false 1))) = some r := by rw [if_pos rfl] at H; exact H
          clear H
          have H := H1
          clear H1
          replace H := Option.bind_eq_some_iff.mp H
          obtain ⟨t115, A60, H⟩ := H
          replace H : ((suite_Behind.f k1 (wrap64 (1 + (Int.tmod (wrap64 (a0)) 8))) (Int.tmod (wrap64 (a1)) 4) t115).bind fun t116 => (stilemanlaw17_SuiteOnce.l1 k1 a1 (wrap64 (1 + (Int.tmod (wrap64 (a0)) 8))) (wrap64 (x6_1 + 1)) x7_1 t116 false 1)) = some r := H
          have A6 := Aside0.mk A60
          clear A60
          replace H := Option.bind_eq_some_iff.mp H
          obtain ⟨t116, A70, H⟩ := H
          replace H : (stilemanlaw17_SuiteOnce.l1 k1 a1 (wrap64 (1 + (Int.tmod (wrap64 (a0)) 8))) (wrap64 (x6_1 + 1)) x7_1 t116 false 1) = some r := H
          have A7 := Aside0.mk A70
          clear A70
          have H' := Aside0.mk H
          clear H
          go_wp2_with (first | ((with_reducible refine gate_callee (f := 41) rfl ?_); refine goesL_ (some 21) rfl rfl Try.func41 (by kernel_rfl) rfl #[.int .i64 (wrap64 (1 + (Int.tmod (wrap64 (a0)) 8))), .int .i64 x7_1] rfl (by (try simp only [List.map_toArray, List.map_cons, List.map_nil]); first | done | rfl | (simp only [List.length_drop, List.length_take]; rfl)) ?_; (with_reducible refine (suite_May.calls k1 (wrap64 (1 + (Int.tmod (wrap64 (a0)) 8))) x7_1 true _ A4.out).mono ?_); rintro e w' ⟨rfl, ⟨nd, rfl⟩⟩; refine ⟨_, rfl, ?_⟩) | ((with_reducible refine gate_callee (f := 43) rfl ?_); refine goesL_ (some 31) rfl rfl Try.func43 (by kernel_rfl) rfl #[.int .i64 (wrap64 (1 + (Int.tmod (wrap64 (a0)) 8))), .int .i64 x7_1] rfl (by (try simp only [List.map_toArray, List.map_cons, List.map_nil]); first | done | rfl | (simp only [List.length_drop, List.length_take]; rfl)) ?_; (with_reducible refine (suite_At.calls k1 (wrap64 (1 + (Int.tmod (wrap64 (a0)) 8))) x7_1 t115 _ A6.out).mono ?_); rintro e w' ⟨rfl, ⟨nd, rfl⟩⟩; refine ⟨_, rfl, ?_⟩) | ((with_reducible refine gate_callee (f := 42) rfl ?_); refine goesL_ (some 32) rfl rfl Try.func42 (by kernel_rfl) rfl #[.int .i64 (wrap64 (1 + (Int.tmod (wrap64 (a0)) 8))), .int .i64 (Int.tmod (wrap64 (a1)) 4), .int .i64 t115] rfl (by (try simp only [List.map_toArray, List.map_cons, List.map_nil]); first | done | rfl | (simp only [List.length_drop, List.length_take]; rfl)) ?_; (with_reducible refine (suite_Behind.calls k1 (wrap64 (1 + (Int.tmod (wrap64 (a0)) 8))) (Int.tmod (wrap64 (a1)) 4) t115 t116 _ A7.out).mono ?_); rintro e w' ⟨rfl, ⟨nd, rfl⟩⟩; refine ⟨_, rfl, ?_⟩))
          go_loopg [9, 10] k1 (fun kq v9 v10 w' => ∃ (x9_2 : Bool) (x10_2 : Int), v9 = .bool x9_2 ∧ v10 = .int .i64 x10_2 ∧ Aside0 (stilemanlaw17_SuiteOnce.l1 kq a1 (wrap64 (1 + (Int.tmod (wrap64 (a0)) 8))) (wrap64 (x6_1 + 1)) x7_1 t116 x9_2 x10_2 = some r) ∧ Aside0 (kq ≤ k1) ∧ Aside0 (Below w.heap.size w w'))
          case atStart => exact ⟨(false), (1), (by first | rfl | (simp; done) | (simp [*]; done)), (by first | rfl | (simp; done) | (simp [*]; done)), H', ⟨Nat.le_refl _⟩, ⟨by repeat (first | (with_reducible first | exact HB.out | apply below_alloc | apply pw_below_drewN | apply below_drew1) | exact HB.out)⟩⟩
          case round =>
            clear H'
            try clear p2
            try clear c3
            try clear c3b0
            try clear c4
            try clear c5
            try clear p6
            try clear p2
            obtain ⟨x9_2, x10_2, rfl, rfl, HA, HK2, HB⟩ := hrel
            cases gk with
            | zero => exact absurd HA.out (by simp [stilemanlaw17_SuiteOnce.l1])
            | succ k2 =>
              have H := HA.out
              clear HA
              simp only [stilemanlaw17_SuiteOnce.l1] at H
              by_cases c8 : x10_2 ≤ 8
              · rw [if_pos c8] at H
                have c8b0 : decide (x10_2 ≤ 8) = true := decide_eq_true c8
                clear c8
                by_cases c9 : x9_2 = true
                · subst c9
                  have H1 : (stilemanlaw17_SuiteOnce.l1 k2 a1 (wrap64 (1 + (Int.tmod (wrap64 (a0)) 8))) (wrap64 (x6_1 + 1)) x7_1 t116 true (wrap64 (x10_2 + 1))) = some r := by rw [if_pos rfl] at H; exact H
                  clear H
                  have H := H1
                  clear H1
                  have H' := Aside0.mk H
                  clear H
                  go_wp2
                  go_roundg k2
                  case measure => have := HK1.out; have := HK2.out; omega
                  case rel => exact ⟨(true), (wrap64 (x10_2 + 1)), (by first | rfl | (simp; done) | (simp [*]; done)), (by first | rfl | (simp; done) | (simp [*]; done)), H', ⟨by have := HK1.out; have := HK2.out; omega⟩, ⟨by repeat (first | (with_reducible first | exact HB.out | apply below_alloc | apply pw_below_drewN | apply below_drew1) | exact HB.out)⟩⟩
                · replace c9 := Bool.eq_false_iff.mpr c9
                  subst c9
                  have H1 : ((suite_May.f k2 x10_2 t116).bind fun t117 => (stilemanlaw17_SuiteOnce.l1 k2 a1 (wrap64 (1 + (Int.tmod (wrap64 (a0)) 8))) (wrap64 (x6_1 + 1)) x7_1 t116 t117 (wrap64 (x10_2 + 1)))) = some r := by rw [if_neg (show ¬ (false = true) by decide)] at H; exact H
                  clear H
                  have H := H1
                  clear H1
                  replace H := Option.bind_eq_some_iff.mp H
                  obtain ⟨t117, A100, H⟩ := H
                  replace H : (stilemanlaw17_SuiteOnce.l1 k2 a1 (wrap64 (1 + (Int.tmod (wrap64 (a0)) 8))) (wrap64 (x6_1 + 1)) x7_1 t116 t117 (wrap64 (x10_2 + 1))) = some r := H
                  have A10 := Aside0.mk A100
                  clear A100
                  have H' := Aside0.mk H
                  clear H
                  go_wp2_with (first | (go_at_call 41; (with_reducible refine (suite_May.calls k2 x10_2 t116 t117 _ A10.out).mono ?_); rintro e w' ⟨rfl, ⟨nd, rfl⟩⟩))
                  go_roundg k2
                  case measure => have := HK1.out; have := HK2.out; omega
                  case rel => exact ⟨(t117), (wrap64 (x10_2 + 1)), (by first | rfl | (simp; done) | (simp [*]; done)), (by first | rfl | (simp; done) | (simp [*]; done)), H', ⟨by have := HK1.out; have := HK2.out; omega⟩, ⟨by repeat (first | (with_reducible first | exact HB.out | apply below_alloc | apply pw_below_drewN | apply below_drew1) | exact HB.out)⟩⟩
              · rw [if_neg c8] at H
                have c8b0 : decide (x10_2 ≤ 8) = false := decide_eq_false c8
                clear c8
                by_cases c11 : x9_2 = true
                · subst c11
                  have H1 : (stilemanlaw17_SuiteOnce.l0 k2 a1 (wrap64 (1 + (Int.tmod (wrap64 (a0)) 8))) (wrap64 (x6_1 + 1)) (wrap64 (x7_1 + 1))) = some r := by rw [if_pos rfl] at H; exact H
                  clear H
                  have H := H1
                  clear H1
                  have H' := Aside0.mk H
                  clear H
                  go_wp2
                  go_roundg k2
                  case measure => have := HK1.out; have := HK2.out; omega
                  case rel => exact ⟨((wrap64 (x6_1 + 1))), (wrap64 (x7_1 + 1)), (by first | rfl | (simp; done) | (simp [*]; done)), (by first | rfl | (simp; done) | (simp [*]; done)), H', ⟨by have := HK1.out; have := HK2.out; omega⟩, ⟨by repeat (first | (with_reducible first | exact HB.out | apply below_alloc | apply pw_below_drewN | apply below_drew1) | exact HB.out)⟩⟩
                · replace c11 := Bool.eq_false_iff.mpr c11
                  subst c11
                  have H1 : (some false) = some r := by rw [if_neg (show ¬ (false = true) by decide)] at H; exact H
                  clear H
                  have H := H1
                  clear H1
                  obtain rfl := Option.some.inj H
                  go_wp2
                  go_ret
                  exact ⟨by first | rfl | (simp [errW_none, errW_some] <;> rfl) | (simp [*, errW_none, errW_some] <;> rfl), by repeat (first | (with_reducible first | exact HB.out | apply below_alloc | apply pw_below_drewN | apply below_drew1) | exact HB.out)⟩
        · replace c5 := Bool.eq_false_iff.mpr c5
          subst c5
          have H1 : (stilemanlaw17_SuiteOnce.l0 k1 a1 (wrap64 (1 + (Int.tmod (wrap64 (a0)) 8))) x6_1 (wrap64 (x7_1 + 1))) = some r := by rw [if_neg (show ¬ (false = true) by decide)] at H; exact H
          clear H
          have H := H1
          clear H1
          have H' := Aside0.mk H
          clear H
          go_wp2_with (first | ((with_reducible refine gate_callee (f := 41) rfl ?_); refine goesL_ (some 21) rfl rfl Try.func41 (by kernel_rfl) rfl #[.int .i64 (wrap64 (1 + (Int.tmod (wrap64 (a0)) 8))), .int .i64 x7_1] rfl (by (try simp only [List.map_toArray, List.map_cons, List.map_nil]); first | done | rfl | (simp only [List.length_drop, List.length_take]; rfl)) ?_; (with_reducible refine (suite_May.calls k1 (wrap64 (1 + (Int.tmod (wrap64 (a0)) 8))) x7_1 false _ A4.out).mono ?_); rintro e w' ⟨rfl, ⟨nd, rfl⟩⟩; refine ⟨_, rfl, ?_⟩))
          go_roundg k1
          case measure => have := HK1.out; omega
          case rel => exact ⟨(x6_1), (wrap64 (x7_1 + 1)), (by first | rfl | (simp; done) | (simp [*]; done)), (by first | rfl | (simp; done) | (simp [*]; done)), H', ⟨by have := HK1.out; omega⟩, ⟨by repeat (first | (with_reducible first | exact HB.out | apply below_alloc | apply pw_below_drewN | apply below_drew1) | exact HB.out)⟩⟩
      · rw [if_neg c3] at H
        have c3b0 : decide (x7_1 < 3) = false := decide_eq_false c3
        clear c3
        by_cases c12 : x6_1 = 1
        · rw [if_pos c12] at H
          have c12b0 : (x6_1 == 1) = true := beq_iff_eq.mpr c12
          have c12b1 : (x6_1 != 1) = false := bne_eq_false_iff_eq.mpr c12
          clear c12
          replace H := Option.bind_eq_some_iff.mp H
          obtain ⟨t113, A130, H⟩ := H
          replace H : (some t113) = some r := H
          have A13 := Aside0.mk A130
          clear A130
          obtain rfl := Option.some.inj H
          go_wp2_with (first | (go_at_call 44; (with_reducible refine (stilemanlaw17_awake.calls k1  t113 _ A13.out).mono ?_); rintro e w14 ⟨rfl, hb⟩; have n0_ := Aside0.mk (below_step (by repeat (first | (with_reducible first | exact HB.out | apply below_alloc | apply pw_below_drewN | apply below_drew1) | exact HB.out)) hb); clear HB; have HB := n0_; clear n0_; (try clear hb); (try clear hb2); (try clear hk); (try clear hi)))
          go_ret
          exact ⟨by first | rfl | (simp [errW_none, errW_some] <;> rfl) | (simp [*, errW_none, errW_some] <;> rfl), by repeat (first | (with_reducible first | exact HB.out | apply below_alloc | apply pw_below_drewN | apply below_drew1) | exact HB.out)⟩
        · rw [if_neg c12] at H
          have c12b0 : (x6_1 == 1) = false := beq_eq_false_iff_ne.mpr c12
          have c12b1 : (x6_1 != 1) = true := bne_iff_ne.mpr c12
          obtain rfl := Option.some.inj H
          go_wp2
          go_ret
          exact ⟨by first | rfl | (simp [errW_none, errW_some] <;> rfl) | (simp [*, errW_none, errW_some] <;> rfl), by repeat (first | (with_reducible first | exact HB.out | apply below_alloc | apply pw_below_drewN | apply below_drew1) | exact HB.out)⟩

/-- THE ONE PURE STATEMENT of stilemanlaw17_SuiteOnce: yours. -/
def stilemanlaw17_SuiteOnce.Pure : Prop := ∀ (a0 : Int) (a1 : Int), (Lit.int .u8 a0).wf = true → (Lit.int .u8 a1).wf = true → ∃ k, stilemanlaw17_SuiteOnce.f k a0 a1 = some true
theorem stilemanlaw17_SuiteOnce.walk (P : stilemanlaw17_SuiteOnce.Pure) (a0 : Int) (a1 : Int) (w : World) (w0 : (Lit.int .u8 a0).wf = true) (w1 : (Lit.int .u8 a1).wf = true) :
    Calls Try.prog 9 #[.int .u8 a0, .int .u8 a1] w fun e w' => e = .returned (.bool true) ∧ Below w.heap.size w w' := by
  obtain ⟨k, h⟩ := P a0 a1 w0 w1
  refine (stilemanlaw17_SuiteOnce.calls k a0 a1 true w h).mono ?_
  rintro e w' ⟨rfl, hd⟩
  exact ⟨rfl, hd⟩

end Go.Proofs.Ytgbofijdjgpgeaa.PSuiteOnce
