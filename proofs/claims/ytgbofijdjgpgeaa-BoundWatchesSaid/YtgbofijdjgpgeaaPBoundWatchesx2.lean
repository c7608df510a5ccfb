-- PRINTED BY print.sh 35421559b90ae4d0a3588c463048766b98c2df88dd9212a6774a882060cdf62d: not written by this session
import Derived.Test.YtgbofijdjgpgeaaPBoundWatchesx0
namespace Go.Proofs.Ytgbofijdjgpgeaa.PBoundWatches
open Go.RowKit Go.Proofs.YtgbofijdjgpgeaaW.PrintWords Go.Proofs.YtgbofijdjgpgeaaW.PrintLast Go.Proofs.YtgbofijdjgpgeaaW.PrintMore
attribute [local go_sem] max2_int min2_int max_two min_two max_three min_three max_four min_four   -- for this text's walks alone
set_option linter.unusedVariables false
set_option linter.unusedSimpArgs false

/-! ### stilemanref24_waits: function 73 -/
mutual
def stilemanref24_waits.l0 : Nat → List (S80) → Int → Int → Int → Int → Int → Option (Int × Int)
  | 0, _, _, _, _, _, _ => none
  | k + 1, x0, x1, x2, x8, x9, x10 => if x10 < (x0.length : Int) then (stilemanref24_waits.l1 k x0 x1 x2 x8 x9 x10 0) else (if x9 < 0 then (some (x8, 0)) else (some (mx x8 (wrap64 ((wrap64 ((x0.length : Int) - 1)) - x9)), wrap64 ((wrap64 ((x0.length : Int) - 1)) - x9))))
def stilemanref24_waits.l1 : Nat → List (S80) → Int → Int → Int → Int → Int → Int → Option (Int × Int)
  | 0, _, _, _, _, _, _, _ => none
  | k + 1, x0, x1, x2, x8, x9, x10, x11 => if 0 ≤ x10 then (if x10 < (x0.length : Int) then (if x11 < (((rd_T80 x0 x10).f2).length : Int) then (if 0 ≤ x11 then (if ((rd_T98 ((rd_T80 x0 x10).f2) x11).f1) = 1 then (if ((rd_T98 ((rd_T80 x0 x10).f2) x11).f2) = 1 then (stilemanref24_waits.j2 k x0 x1 x2 x8 x9 x10 x11 true ((rd_T98 ((rd_T80 x0 x10).f2) x11).f0) ((rd_T98 ((rd_T80 x0 x10).f2) x11).f1) ((rd_T98 ((rd_T80 x0 x10).f2) x11).f2) ((rd_T98 ((rd_T80 x0 x10).f2) x11).f3)) else (stilemanref24_waits.j2 k x0 x1 x2 x8 x9 x10 x11 (((rd_T98 ((rd_T80 x0 x10).f2) x11).f2) == 3) ((rd_T98 ((rd_T80 x0 x10).f2) x11).f0) ((rd_T98 ((rd_T80 x0 x10).f2) x11).f1) ((rd_T98 ((rd_T80 x0 x10).f2) x11).f2) ((rd_T98 ((rd_T80 x0 x10).f2) x11).f3))) else (stilemanref24_waits.j2 k x0 x1 x2 x8 x9 x10 x11 false ((rd_T98 ((rd_T80 x0 x10).f2) x11).f0) ((rd_T98 ((rd_T80 x0 x10).f2) x11).f1) ((rd_T98 ((rd_T80 x0 x10).f2) x11).f2) ((rd_T98 ((rd_T80 x0 x10).f2) x11).f3))) else (none)) else (stilemanref24_waits.l0 k x0 x1 x2 x8 x9 (wrap64 (x10 + 1)))) else (none)) else (none)
def stilemanref24_waits.j2 : Nat → List (S80) → Int → Int → Int → Int → Int → Int → Bool → Int → Int → Int → Int → Option (Int × Int)
  | 0, _, _, _, _, _, _, _, _, _, _, _, _ => none
  | k + 1, x0, x1, x2, x8, x9, x10, x11, x13, x108000, x108001, x108002, x108003 => if x108000 = x1 then (if x13 = true then (stilemanref24_waits.j3 k x0 x1 x2 x8 x9 x10 x11 x13 false x108000 x108001 x108002 x108003) else (stilemanref24_waits.j3 k x0 x1 x2 x8 x9 x10 x11 x13 (x108001 != 11) x108000 x108001 x108002 x108003)) else (stilemanref24_waits.j3 k x0 x1 x2 x8 x9 x10 x11 x13 true x108000 x108001 x108002 x108003)
def stilemanref24_waits.j3 : Nat → List (S80) → Int → Int → Int → Int → Int → Int → Bool → Bool → Int → Int → Int → Int → Option (Int × Int)
  | 0, _, _, _, _, _, _, _, _, _, _, _, _, _ => none
  | k + 1, x0, x1, x2, x8, x9, x10, x11, x13, x63, x108000, x108001, x108002, x108003 => if x63 = true then (stilemanref24_waits.l1 k x0 x1 x2 x8 x9 x10 (wrap64 (x11 + 1))) else (if x9 ≥ 0 then (if x13 = true then (if x108002 = x2 then (stilemanref24_waits.l1 k x0 x1 x2 (mx x8 (wrap64 (x10 - x9))) x10 x10 (wrap64 (x11 + 1))) else (stilemanref24_waits.l1 k x0 x1 x2 (mx x8 (wrap64 (x10 - x9))) (-1) x10 (wrap64 (x11 + 1)))) else (stilemanref24_waits.l1 k x0 x1 x2 (mx x8 (wrap64 (x10 - x9))) (-1) x10 (wrap64 (x11 + 1)))) else (if x13 = true then (if x108002 = x2 then (stilemanref24_waits.l1 k x0 x1 x2 x8 x10 x10 (wrap64 (x11 + 1))) else (stilemanref24_waits.l1 k x0 x1 x2 x8 (-1) x10 (wrap64 (x11 + 1)))) else (stilemanref24_waits.l1 k x0 x1 x2 x8 (-1) x10 (wrap64 (x11 + 1)))))
end
def stilemanref24_waits.f (k : Nat) (l0 : List (S80)) (a1 : Int) (a2 : Int) : Option (Int × Int) := stilemanref24_waits.l0 k l0 a1 a2 0 (-1) 0
theorem stilemanref24_waits.mono_l : ∀ k, (∀ y0 y1 y2 y3 y4 y5, LeO (stilemanref24_waits.l0 k y0 y1 y2 y3 y4 y5) (stilemanref24_waits.l0 (k + 1) y0 y1 y2 y3 y4 y5)) ∧ (∀ y0 y1 y2 y3 y4 y5 y6, LeO (stilemanref24_waits.l1 k y0 y1 y2 y3 y4 y5 y6) (stilemanref24_waits.l1 (k + 1) y0 y1 y2 y3 y4 y5 y6)) ∧ (∀ y0 y1 y2 y3 y4 y5 y6 y7 y8 y9 y10 y11, LeO (stilemanref24_waits.j2 k y0 y1 y2 y3 y4 y5 y6 y7 y8 y9 y10 y11) (stilemanref24_waits.j2 (k + 1) y0 y1 y2 y3 y4 y5 y6 y7 y8 y9 y10 y11)) ∧ (∀ y0 y1 y2 y3 y4 y5 y6 y7 y8 y9 y10 y11 y12, LeO (stilemanref24_waits.j3 k y0 y1 y2 y3 y4 y5 y6 y7 y8 y9 y10 y11 y12) (stilemanref24_waits.j3 (k + 1) y0 y1 y2 y3 y4 y5 y6 y7 y8 y9 y10 y11 y12))
  | 0 => ⟨fun _ _ _ _ _ _ r h => by simp [stilemanref24_waits.l0] at h, fun _ _ _ _ _ _ _ r h => by simp [stilemanref24_waits.l1] at h, fun _ _ _ _ _ _ _ _ _ _ _ _ r h => by simp [stilemanref24_waits.j2] at h, fun _ _ _ _ _ _ _ _ _ _ _ _ _ r h => by simp [stilemanref24_waits.j3] at h⟩
  | k + 1 => by
    obtain ⟨ih0, ih1, ih2, ih3⟩ := stilemanref24_waits.mono_l k
    refine ⟨?_, ?_, ?_, ?_⟩
    · intro y0 y1 y2 y3 y4 y5
      unfold stilemanref24_waits.l0
      repeat' first
      | (with_reducible exact ih0 _ _ _ _ _ _)
      | (with_reducible exact ih1 _ _ _ _ _ _ _)
      | (with_reducible exact ih2 _ _ _ _ _ _ _ _ _ _ _ _)
      | (with_reducible exact ih3 _ _ _ _ _ _ _ _ _ _ _ _ _)
      | (with_reducible exact LeO.refl _)
      | (with_reducible exact LeO.none _)
      | (with_reducible refine LeO.ite ?_ ?_)
      | (with_reducible refine LeO.bind ?_ (fun _ => ?_))
      | exact ih0 _ _ _ _ _ _
      | exact ih1 _ _ _ _ _ _ _
      | exact ih2 _ _ _ _ _ _ _ _ _ _ _ _
      | exact ih3 _ _ _ _ _ _ _ _ _ _ _ _ _
      | exact LeO.none _
      | refine LeO.ite ?_ ?_
      | refine LeO.bind ?_ (fun _ => ?_)
    · intro y0 y1 y2 y3 y4 y5 y6
      unfold stilemanref24_waits.l1
      repeat' first
      | (with_reducible exact ih0 _ _ _ _ _ _)
      | (with_reducible exact ih1 _ _ _ _ _ _ _)
      | (with_reducible exact ih2 _ _ _ _ _ _ _ _ _ _ _ _)
      | (with_reducible exact ih3 _ _ _ _ _ _ _ _ _ _ _ _ _)
      | (with_reducible exact LeO.refl _)
      | (with_reducible exact LeO.none _)
      | (with_reducible refine LeO.ite ?_ ?_)
      | (with_reducible refine LeO.bind ?_ (fun _ => ?_))
      | exact ih0 _ _ _ _ _ _
      | exact ih1 _ _ _ _ _ _ _
      | exact ih2 _ _ _ _ _ _ _ _ _ _ _ _
      | exact ih3 _ _ _ _ _ _ _ _ _ _ _ _ _
      | exact LeO.none _
      | refine LeO.ite ?_ ?_
      | refine LeO.bind ?_ (fun _ => ?_)
    · intro y0 y1 y2 y3 y4 y5 y6 y7 y8 y9 y10 y11
      unfold stilemanref24_waits.j2
      repeat' first
      | (with_reducible exact ih0 _ _ _ _ _ _)
      | (with_reducible exact ih1 _ _ _ _ _ _ _)
      | (with_reducible exact ih2 _ _ _ _ _ _ _ _ _ _ _ _)
      | (with_reducible exact ih3 _ _ _ _ _ _ _ _ _ _ _ _ _)
      | (with_reducible exact LeO.refl _)
      | (with_reducible exact LeO.none _)
      | (with_reducible refine LeO.ite ?_ ?_)
      | (with_reducible refine LeO.bind ?_ (fun _ => ?_))
      | exact ih0 _ _ _ _ _ _
      | exact ih1 _ _ _ _ _ _ _
      | exact ih2 _ _ _ _ _ _ _ _ _ _ _ _
      | exact ih3 _ _ _ _ _ _ _ _ _ _ _ _ _
      | exact LeO.none _
      | refine LeO.ite ?_ ?_
      | refine LeO.bind ?_ (fun _ => ?_)
    · intro y0 y1 y2 y3 y4 y5 y6 y7 y8 y9 y10 y11 y12
      unfold stilemanref24_waits.j3
      repeat' first
      | (with_reducible exact ih0 _ _ _ _ _ _)
      | (with_reducible exact ih1 _ _ _ _ _ _ _)
      | (with_reducible exact ih2 _ _ _ _ _ _ _ _ _ _ _ _)
      | (with_reducible exact ih3 _ _ _ _ _ _ _ _ _ _ _ _ _)
      | (with_reducible exact LeO.refl _)
      | (with_reducible exact LeO.none _)
      | (with_reducible refine LeO.ite ?_ ?_)
      | (with_reducible refine LeO.bind ?_ (fun _ => ?_))
      | exact ih0 _ _ _ _ _ _
      | exact ih1 _ _ _ _ _ _ _
      | exact ih2 _ _ _ _ _ _ _ _ _ _ _ _
      | exact ih3 _ _ _ _ _ _ _ _ _ _ _ _ _
      | exact LeO.none _
      | refine LeO.ite ?_ ?_
      | refine LeO.bind ?_ (fun _ => ?_)
theorem stilemanref24_waits.mono : ∀ a0 a1 a2 k, LeO (stilemanref24_waits.f k a0 a1 a2) (stilemanref24_waits.f (k + 1) a0 a1 a2) := by
  intro a0 a1 a2 k
  obtain ⟨ih0, ih1, ih2, ih3⟩ := stilemanref24_waits.mono_l k
  unfold stilemanref24_waits.f
  repeat' first
      | (with_reducible exact ih0 _ _ _ _ _ _)
      | (with_reducible exact ih1 _ _ _ _ _ _ _)
      | (with_reducible exact ih2 _ _ _ _ _ _ _ _ _ _ _ _)
      | (with_reducible exact ih3 _ _ _ _ _ _ _ _ _ _ _ _ _)
      | (with_reducible exact LeO.refl _)
      | (with_reducible exact LeO.none _)
      | (with_reducible refine LeO.ite ?_ ?_)
      | (with_reducible refine LeO.bind ?_ (fun _ => ?_))
      | exact ih0 _ _ _ _ _ _
      | exact ih1 _ _ _ _ _ _ _
      | exact ih2 _ _ _ _ _ _ _ _ _ _ _ _
      | exact ih3 _ _ _ _ _ _ _ _ _ _ _ _ _
      | exact LeO.none _
      | refine LeO.ite ?_ ?_
      | refine LeO.bind ?_ (fun _ => ?_)
set_option maxHeartbeats 8000000 in
set_option maxRecDepth 100000 in
theorem stilemanref24_waits.calls (k : Nat) (A0 : Option Addr) (c0 : Nat) (l0 : List (S80)) (a1 : Int) (a2 : Int) (r1 : Int) (r2 : Int) (w : World) (hr0 : Kd.C k80 w A0 l0.length l0) (hc0 : l0.length ≤ c0) (h : stilemanref24_waits.f k l0 a1 a2 = some (r1, r2)) :
    Calls Try.prog 73 #[.slice A0 l0.length c0, .int .i64 a1, .int .i64 a2] w fun e w' => e = .returned (.tuple #[.int .i64 r1, .int .i64 r2]) ∧ Below w.heap.size w w' := by
  have hu98 := Try.underlying98
  have HR0 := Aside0.mk hr0
  have HC0 := Aside0.mk hc0
  clear hr0 hc0
  have HB := Aside0.mk (Below.refl w.heap.size w)
  have H : (stilemanref24_waits.l0 k l0 a1 a2 0 (-1) 0) = some (r1, r2) := h
  clear h
  have H' := Aside0.mk H
  clear H
  go_enter Try.func73, Try.ntmps73
  go_wp2
  go_loopg [8, 9, 10] k (fun kq v8 v9 v10 w' => ∃ (x8_1 : Int) (x9_1 : Int) (x10_1 : Int), v8 = .int .i64 x8_1 ∧ v9 = .int .i64 x9_1 ∧ v10 = .int .i64 x10_1 ∧ Aside0 (stilemanref24_waits.l0 kq l0 a1 a2 x8_1 x9_1 x10_1 = some (r1, r2)) ∧ Aside0 (kq ≤ k) ∧ Aside0 (Below w.heap.size w w'))
  case atStart => exact ⟨(0), ((-1)), (0), (by first | rfl | (simp; done) | (simp [*]; done)), (by first | rfl | (simp; done) | (simp [*]; done)), (by first | rfl | (simp; done) | (simp [*]; done)), H', ⟨Nat.le_refl _⟩, ⟨by repeat (first | (with_reducible first | exact HB.out | apply below_alloc | apply pw_below_drewN | apply below_drew1) | exact HB.out)⟩⟩
  case round =>
    clear H'
    try clear p2
    obtain ⟨x8_1, x9_1, x10_1, rfl, rfl, rfl, HA, HK1, HB⟩ := hrel
    cases gk with
    | zero => exact absurd HA.out (by simp [stilemanref24_waits.l0])
    | succ k1 =>
      have H := HA.out
      clear HA
      simp only [stilemanref24_waits.l0] at H
      by_cases c4 : x10_1 < (l0.length : Int)
      · rw [if_pos c4] at H
        have c4b0 : decide (x10_1 < (l0.length : Int)) = true := decide_eq_true c4
        clear c4
        have H' := Aside0.mk H
        clear H
        go_wp2
        go_loopg [8, 9, 11] k1 (fun kq v8 v9 v11 w' => ∃ (x8_2 : Int) (x9_2 : Int) (x11_2 : Int), v8 = .int .i64 x8_2 ∧ v9 = .int .i64 x9_2 ∧ v11 = .int .i64 x11_2 ∧ Aside0 (stilemanref24_waits.l1 kq l0 a1 a2 x8_2 x9_2 x10_1 x11_2 = some (r1, r2)) ∧ Aside0 (kq ≤ k1) ∧ Aside0 (Below w.heap.size w w'))
        case atStart => exact ⟨(x8_1), (x9_1), (0), (by first | rfl | (simp; done) | (simp [*]; done)), (by first | rfl | (simp; done) | (simp [*]; done)), (by first | rfl | (simp; done) | (simp [*]; done)), H', ⟨Nat.le_refl _⟩, ⟨by repeat (first | (with_reducible first | exact HB.out | apply below_alloc | apply pw_below_drewN | apply below_drew1) | exact HB.out)⟩⟩
        case round =>
          clear H'
          try clear p2
          try clear c4
          try clear c4b0
          try clear p2
          obtain ⟨x8_2, x9_2, x11_2, rfl, rfl, rfl, HA, HK2, HB⟩ := hrel
          cases gk with
          | zero => exact absurd HA.out (by simp [stilemanref24_waits.l1])
          | succ k2 =>
            have H := HA.out
            clear HA
            simp only [stilemanref24_waits.l1] at H
            by_cases c5 : 0 ≤ x10_1
            · rw [if_pos c5] at H
              have c5b0 : decide (0 ≤ x10_1) = true := decide_eq_true c5
              clear c5
              by_cases c6 : x10_1 < (l0.length : Int)
              · rw [if_pos c6] at H
                have c6b0 : decide (x10_1 < (l0.length : Int)) = true := decide_eq_true c6
                clear c6
                by_cases c7 : x11_2 < (((rd_T80 l0 x10_1).f2).length : Int)
                · rw [if_pos c7] at H
                  have c7b0 : decide (x11_2 < (((rd_T80 l0 x10_1).f2).length : Int)) = true := decide_eq_true c7
                  clear c7
                  by_cases c8 : 0 ≤ x11_2
                  · rw [if_pos c8] at H
                    have c8b0 : decide (0 ≤ x11_2) = true := decide_eq_true c8
                    clear c8
                    have HC9 := Aside0.mk H
                    clear H
                    have p104 : 0 ≤ (x10_1 : Int) := of_decide_eq_true (by first | (with_reducible assumption) | assumption)
                    have q104 : x10_1 < (l0.length : Int) := of_decide_eq_true (by first | (with_reducible assumption) | assumption)
                    obtain ⟨ad104, A104_6, c104_6, e104, hx104_0, hx104_1, hx104_2, hx104_3, hx104_4, hx104_5, hx104_6, hl104_6, hi104_6⟩ := at_T80 HR0.out x10_1 p104 q104
                    cases e104
                    replace hx104_0 := (HB.out.cell (World.block_lt_of_cell? w _ hx104_0)).trans hx104_0
                    replace hx104_1 := (HB.out.cell (World.block_lt_of_cell? w _ hx104_1)).trans hx104_1
                    replace hx104_2 := (HB.out.cell (World.block_lt_of_cell? w _ hx104_2)).trans hx104_2
                    replace hx104_3 := (HB.out.cell (World.block_lt_of_cell? w _ hx104_3)).trans hx104_3
                    replace hx104_4 := (HB.out.cell (World.block_lt_of_cell? w _ hx104_4)).trans hx104_4
                    replace hx104_5 := (HB.out.cell (World.block_lt_of_cell? w _ hx104_5)).trans hx104_5
                    replace hx104_6 := (HB.out.cell (World.block_lt_of_cell? w _ hx104_6)).trans hx104_6
                    have HR104_6 := Aside0.mk hi104_6
                    have HC104_6 := Aside0.mk hl104_6
                    clear hi104_6 hl104_6
                    replace p104 := eq_true p104
                    replace q104 := eq_true q104
                    have p105 : 0 ≤ (x10_1 : Int) := of_decide_eq_true (by first | (with_reducible assumption) | assumption)
                    have q105 : x10_1 < (l0.length : Int) := of_decide_eq_true (by first | (with_reducible assumption) | assumption)
                    obtain ⟨ad105, A105_6, c105_6, e105, hx105_0, hx105_1, hx105_2, hx105_3, hx105_4, hx105_5, hx105_6, hl105_6, hi105_6⟩ := at_T80 HR0.out x10_1 p105 q105
                    obtain rfl : ad104 = ad105 := (by injection e105)
                    replace hx105_0 := (HB.out.cell (World.block_lt_of_cell? w _ hx105_0)).trans hx105_0
                    replace hx105_1 := (HB.out.cell (World.block_lt_of_cell? w _ hx105_1)).trans hx105_1
                    replace hx105_2 := (HB.out.cell (World.block_lt_of_cell? w _ hx105_2)).trans hx105_2
                    replace hx105_3 := (HB.out.cell (World.block_lt_of_cell? w _ hx105_3)).trans hx105_3
                    replace hx105_4 := (HB.out.cell (World.block_lt_of_cell? w _ hx105_4)).trans hx105_4
                    replace hx105_5 := (HB.out.cell (World.block_lt_of_cell? w _ hx105_5)).trans hx105_5
                    replace hx105_6 := (HB.out.cell (World.block_lt_of_cell? w _ hx105_6)).trans hx105_6
                    have HR105_6 := Aside0.mk hi105_6
                    have HC105_6 := Aside0.mk hl105_6
                    clear hi105_6 hl105_6
                    replace p105 := eq_true p105
                    replace q105 := eq_true q105
                    have ea_ := Option.some.inj (hx104_6.symm.trans hx105_6)
                    injection ea_ with ea_ en_ ec_
                    subst ea_
                    subst ec_
                    clear en_
                    have p106 : 0 ≤ (x11_2 : Int) := of_decide_eq_true (by first | (with_reducible assumption) | assumption)
                    have q106 : x11_2 < (((rd_T80 l0 x10_1).f2).length : Int) := of_decide_eq_true (by first | (with_reducible assumption) | assumption)
                    obtain ⟨ad106, e106, hx106_0, hx106_1, hx106_2, hx106_3⟩ := at_T98 HR105_6.out x11_2 p106 q106
                    cases e106
                    replace hx106_0 := (HB.out.cell (World.block_lt_of_cell? w _ hx106_0)).trans hx106_0
                    replace hx106_1 := (HB.out.cell (World.block_lt_of_cell? w _ hx106_1)).trans hx106_1
                    replace hx106_2 := (HB.out.cell (World.block_lt_of_cell? w _ hx106_2)).trans hx106_2
                    replace hx106_3 := (HB.out.cell (World.block_lt_of_cell? w _ hx106_3)).trans hx106_3
                    replace p106 := eq_true p106
                    replace q106 := eq_true q106
                    go_upto_region 9 with (first | ((with_reducible refine gate_dst (N := 12) rfl ?_); refine box_event ?hg (N := 12) ?hd (cs := #[.int .i64 0, .int .i64 0, .int .i64 0, .int .i64 0]) (t := 98) ?hr ?_; (case hd => rfl); (case hg => rfl); (case hr => first | (go_simp; done) | (go_simp; rfl)); intro gb107 hg w10 hbox hb; have n0_ := Aside0.mk (below_step (by repeat (first | (with_reducible first | exact HB.out | apply below_alloc | apply pw_below_drewN | apply below_drew1) | exact HB.out)) hb); have n1_ := Aside0.mk (hbox); have n2_ := Aside0.mk ((by rw [hg]; exact (below_size (by repeat (first | (with_reducible first | exact HB.out | apply below_alloc | apply pw_below_drewN | apply below_drew1) | exact HB.out))) : w.heap.size ≤ gb107)); have n3_ := Aside0.mk ((by rw [hg]; exact (below_size (by repeat (first | (with_reducible first | exact HB.out | apply below_alloc | apply pw_below_drewN | apply below_drew1) | exact HB.out))) : w.heap.size ≤ gb107)); clear HB; have HB := n0_; have BK107 := n1_; have GW107 := n2_; have GE107 := n3_; clear n0_ n1_ n2_ n3_; clear hb hbox hg; have hcz11_0 : w10.cell? ⟨gb107, 0, none⟩ = some (.int .i64 0) := (blk_cell BK107.out 0).trans rfl; have hcz11_1 : w10.cell? ⟨gb107, 1, none⟩ = some (.int .i64 0) := (blk_cell BK107.out 1).trans rfl; have hcz11_2 : w10.cell? ⟨gb107, 2, none⟩ = some (.int .i64 0) := (blk_cell BK107.out 2).trans rfl; have hcz11_3 : w10.cell? ⟨gb107, 3, none⟩ = some (.int .i64 0) := (blk_cell BK107.out 3).trans rfl; have hfz11_0 := blk_frozen BK107.out 0; have hfz11_1 := blk_frozen BK107.out 1; have hfz11_2 := blk_frozen BK107.out 2; have hfz11_3 := blk_frozen BK107.out 3))
                    (try simp only [Act.put, List.setIfInBounds_toArray, List.set_cons_zero, List.set_cons_succ])
                    go_cut [13] (fun v13 wc => ∃ (kq : Nat) (x13_8 : Bool), v13 = .bool x13_8 ∧ Aside0 (stilemanref24_waits.j2 kq l0 a1 a2 x8_2 x9_2 x10_1 x11_2 x13_8 ((rd_T98 ((rd_T80 l0 x10_1).f2) x11_2).f0) ((rd_T98 ((rd_T80 l0 x10_1).f2) x11_2).f1) ((rd_T98 ((rd_T80 l0 x10_1).f2) x11_2).f2) ((rd_T98 ((rd_T80 l0 x10_1).f2) x11_2).f3) = some (r1, r2)) ∧ Aside0 (kq ≤ k2) ∧ Aside0 (wc.heap[gb107]? = some (.cells #[.int .i64 ((rd_T98 ((rd_T80 l0 x10_1).f2) x11_2).f0), .int .i64 ((rd_T98 ((rd_T80 l0 x10_1).f2) x11_2).f1), .int .i64 ((rd_T98 ((rd_T80 l0 x10_1).f2) x11_2).f2), .int .i64 ((rd_T98 ((rd_T80 l0 x10_1).f2) x11_2).f3)] 98 (0, 0))) ∧ Aside0 (Below w.heap.size w wc))
                    case first =>
                      have H := HC9.out
                      clear HC9
                      by_cases c12 : ((rd_T98 ((rd_T80 l0 x10_1).f2) x11_2).f1) = 1
                      · rw [if_pos c12] at H
                        have c12b0 : (((rd_T98 ((rd_T80 l0 x10_1).f2) x11_2).f1) == 1) = true := beq_iff_eq.mpr c12
                        have c12b1 : (((rd_T98 ((rd_T80 l0 x10_1).f2) x11_2).f1) != 1) = false := bne_eq_false_iff_eq.mpr c12
                        clear c12
                        (first | rw [c12b0] | (simp only [i64_w, i32_w]; rw [c12b0]) | skip)
                        by_cases c13 : ((rd_T98 ((rd_T80 l0 x10_1).f2) x11_2).f2) = 1
                        · rw [if_pos c13] at H
                          have c13b0 : (((rd_T98 ((rd_T80 l0 x10_1).f2) x11_2).f2) == 1) = true := beq_iff_eq.mpr c13
                          have c13b1 : (((rd_T98 ((rd_T80 l0 x10_1).f2) x11_2).f2) != 1) = false := bne_eq_false_iff_eq.mpr c13
                          clear c13
                          have H' := Aside0.mk H
                          clear H
                          have hcz14_0 : w10.cell? ⟨gb107, 0, none⟩ = some (.int .i64 0) := (blk_cell BK107.out 0).trans rfl
                          have hcz14_1 : w10.cell? ⟨gb107, 1, none⟩ = some (.int .i64 0) := (blk_cell BK107.out 1).trans rfl
                          have hcz14_2 : w10.cell? ⟨gb107, 2, none⟩ = some (.int .i64 0) := (blk_cell BK107.out 2).trans rfl
                          have hcz14_3 : w10.cell? ⟨gb107, 3, none⟩ = some (.int .i64 0) := (blk_cell BK107.out 3).trans rfl
                          have hfz14_0 := blk_frozen BK107.out 0
                          have hfz14_1 := blk_frozen BK107.out 1
                          have hfz14_2 := blk_frozen BK107.out 2
                          have hfz14_3 := blk_frozen BK107.out 3
                          go_wp2
                          go_meet
                          case rel => exact ⟨_, (true), (by first | rfl | (simp; done) | (simp [*]; done)), H', ⟨by have := HK1.out; have := HK2.out; first | omega | exact Nat.le_refl _⟩, ⟨by (with_reducible repeat (first | refine blk_drewN ?_ _ | refine blk_drew ?_ | refine blk_alloc ?_ _)); refine blk_put (cs := #[.int .i64 ((rd_T98 ((rd_T80 l0 x10_1).f2) x11_2).f0), .int .i64 ((rd_T98 ((rd_T80 l0 x10_1).f2) x11_2).f1), .int .i64 ((rd_T98 ((rd_T80 l0 x10_1).f2) x11_2).f2), .int .i64 0]) ?_ 3 _ rfl; (with_reducible repeat (first | refine blk_drewN ?_ _ | refine blk_drew ?_ | refine blk_alloc ?_ _)); refine blk_put (cs := #[.int .i64 ((rd_T98 ((rd_T80 l0 x10_1).f2) x11_2).f0), .int .i64 ((rd_T98 ((rd_T80 l0 x10_1).f2) x11_2).f1), .int .i64 0, .int .i64 0]) ?_ 2 _ rfl; (with_reducible repeat (first | refine blk_drewN ?_ _ | refine blk_drew ?_ | refine blk_alloc ?_ _)); refine blk_put (cs := #[.int .i64 ((rd_T98 ((rd_T80 l0 x10_1).f2) x11_2).f0), .int .i64 0, .int .i64 0, .int .i64 0]) ?_ 1 _ rfl; (with_reducible repeat (first | refine blk_drewN ?_ _ | refine blk_drew ?_ | refine blk_alloc ?_ _)); refine blk_put (cs := #[.int .i64 0, .int .i64 0, .int .i64 0, .int .i64 0]) ?_ 0 _ rfl; (with_reducible repeat (first | refine blk_drewN ?_ _ | refine blk_drew ?_ | refine blk_alloc ?_ _)); exact BK107.out⟩, ⟨by repeat (first | (with_reducible first | exact HB.out | apply below_alloc | apply pw_below_drewN | apply below_drew1 | refine below_set ?_ GE107.out) | exact HB.out)⟩⟩
                        · rw [if_neg c13] at H
                          have c13b0 : (((rd_T98 ((rd_T80 l0 x10_1).f2) x11_2).f2) == 1) = false := beq_eq_false_iff_ne.mpr c13
                          have c13b1 : (((rd_T98 ((rd_T80 l0 x10_1).f2) x11_2).f2) != 1) = true := bne_iff_ne.mpr c13
                          have H' := Aside0.mk H
                          clear H
                          have hcz15_0 : w10.cell? ⟨gb107, 0, none⟩ = some (.int .i64 0) := (blk_cell BK107.out 0).trans rfl
                          have hcz15_1 : w10.cell? ⟨gb107, 1, none⟩ = some (.int .i64 0) := (blk_cell BK107.out 1).trans rfl
                          have hcz15_2 : w10.cell? ⟨gb107, 2, none⟩ = some (.int .i64 0) := (blk_cell BK107.out 2).trans rfl
                          have hcz15_3 : w10.cell? ⟨gb107, 3, none⟩ = some (.int .i64 0) := (blk_cell BK107.out 3).trans rfl
                          have hfz15_0 := blk_frozen BK107.out 0
                          have hfz15_1 := blk_frozen BK107.out 1
                          have hfz15_2 := blk_frozen BK107.out 2
                          have hfz15_3 := blk_frozen BK107.out 3
                          go_wp2
                          go_meet
                          case rel => exact ⟨_, ((((rd_T98 ((rd_T80 l0 x10_1).f2) x11_2).f2) == 3)), (by first | rfl | (simp; done) | (simp [*]; done)), H', ⟨by have := HK1.out; have := HK2.out; first | omega | exact Nat.le_refl _⟩, ⟨by (with_reducible repeat (first | refine blk_drewN ?_ _ | refine blk_drew ?_ | refine blk_alloc ?_ _)); refine blk_put (cs := #[.int .i64 ((rd_T98 ((rd_T80 l0 x10_1).f2) x11_2).f0), .int .i64 ((rd_T98 ((rd_T80 l0 x10_1).f2) x11_2).f1), .int .i64 ((rd_T98 ((rd_T80 l0 x10_1).f2) x11_2).f2), .int .i64 0]) ?_ 3 _ rfl; (with_reducible repeat (first | refine blk_drewN ?_ _ | refine blk_drew ?_ | refine blk_alloc ?_ _)); refine blk_put (cs := #[.int .i64 ((rd_T98 ((rd_T80 l0 x10_1).f2) x11_2).f0), .int .i64 ((rd_T98 ((rd_T80 l0 x10_1).f2) x11_2).f1), .int .i64 0, .int .i64 0]) ?_ 2 _ rfl; (with_reducible repeat (first | refine blk_drewN ?_ _ | refine blk_drew ?_ | refine blk_alloc ?_ _)); refine blk_put (cs := #[.int .i64 ((rd_T98 ((rd_T80 l0 x10_1).f2) x11_2).f0), .int .i64 0, .int .i64 0, .int .i64 0]) ?_ 1 _ rfl; (with_reducible repeat (first | refine blk_drewN ?_ _ | refine blk_drew ?_ | refine blk_alloc ?_ _)); refine blk_put (cs := #[.int .i64 0, .int .i64 0, .int .i64 0, .int .i64 0]) ?_ 0 _ rfl; (with_reducible repeat (first | refine blk_drewN ?_ _ | refine blk_drew ?_ | refine blk_alloc ?_ _)); exact BK107.out⟩, ⟨by repeat (first | (with_reducible first | exact HB.out | apply below_alloc | apply pw_below_drewN | apply below_drew1 | refine below_set ?_ GE107.out) | exact HB.out)⟩⟩
                      · rw [if_neg c12] at H
                        have c12b0 : (((rd_T98 ((rd_T80 l0 x10_1).f2) x11_2).f1) == 1) = false := beq_eq_false_iff_ne.mpr c12
                        have c12b1 : (((rd_T98 ((rd_T80 l0 x10_1).f2) x11_2).f1) != 1) = true := bne_iff_ne.mpr c12
                        (first | rw [c12b0] | (simp only [i64_w, i32_w]; rw [c12b0]) | skip)
                        have H' := Aside0.mk H
                        clear H
                        have hcz16_0 : w10.cell? ⟨gb107, 0, none⟩ = some (.int .i64 0) := (blk_cell BK107.out 0).trans rfl
                        have hcz16_1 : w10.cell? ⟨gb107, 1, none⟩ = some (.int .i64 0) := (blk_cell BK107.out 1).trans rfl
                        have hcz16_2 : w10.cell? ⟨gb107, 2, none⟩ = some (.int .i64 0) := (blk_cell BK107.out 2).trans rfl
                        have hcz16_3 : w10.cell? ⟨gb107, 3, none⟩ = some (.int .i64 0) := (blk_cell BK107.out 3).trans rfl
                        have hfz16_0 := blk_frozen BK107.out 0
                        have hfz16_1 := blk_frozen BK107.out 1
                        have hfz16_2 := blk_frozen BK107.out 2
                        have hfz16_3 := blk_frozen BK107.out 3
                        go_wp2
                        go_meet
                        case rel => exact ⟨_, (false), (by first | rfl | (simp; done) | (simp [*]; done)), H', ⟨by have := HK1.out; have := HK2.out; first | omega | exact Nat.le_refl _⟩, ⟨by (with_reducible repeat (first | refine blk_drewN ?_ _ | refine blk_drew ?_ | refine blk_alloc ?_ _)); refine blk_put (cs := #[.int .i64 ((rd_T98 ((rd_T80 l0 x10_1).f2) x11_2).f0), .int .i64 ((rd_T98 ((rd_T80 l0 x10_1).f2) x11_2).f1), .int .i64 ((rd_T98 ((rd_T80 l0 x10_1).f2) x11_2).f2), .int .i64 0]) ?_ 3 _ rfl; (with_reducible repeat (first | refine blk_drewN ?_ _ | refine blk_drew ?_ | refine blk_alloc ?_ _)); refine blk_put (cs := #[.int .i64 ((rd_T98 ((rd_T80 l0 x10_1).f2) x11_2).f0), .int .i64 ((rd_T98 ((rd_T80 l0 x10_1).f2) x11_2).f1), .int .i64 0, .int .i64 0]) ?_ 2 _ rfl; (with_reducible repeat (first | refine blk_drewN ?_ _ | refine blk_drew ?_ | refine blk_alloc ?_ _)); refine blk_put (cs := #[.int .i64 ((rd_T98 ((rd_T80 l0 x10_1).f2) x11_2).f0), .int .i64 0, .int .i64 0, .int .i64 0]) ?_ 1 _ rfl; (with_reducible repeat (first | refine blk_drewN ?_ _ | refine blk_drew ?_ | refine blk_alloc ?_ _)); refine blk_put (cs := #[.int .i64 0, .int .i64 0, .int .i64 0, .int .i64 0]) ?_ 0 _ rfl; (with_reducible repeat (first | refine blk_drewN ?_ _ | refine blk_drew ?_ | refine blk_alloc ?_ _)); exact BK107.out⟩, ⟨by repeat (first | (with_reducible first | exact HB.out | apply below_alloc | apply pw_below_drewN | apply below_drew1 | refine below_set ?_ GE107.out) | exact HB.out)⟩⟩
                    case rest =>
                      clear HC9
                      try clear c1
                      try clear p1
                      try clear q1
                      try clear hx1
                      try clear p2
                      try clear c4
                      try clear c4b0
                      try clear c5
                      try clear c5b0
                      try clear c6
                      try clear c6b0
                      try clear c7
                      try clear c7b0
                      try clear c8
                      try clear c8b0
                      try clear c10
                      try clear p10
                      try clear q10
                      try clear hx10
                      try clear c12
                      try clear c12b0
                      try clear c12b1
                      try clear c13
                      try clear c13b0
                      try clear c13b1
                      try clear hcz11_0
                      try clear hcz11_1
                      try clear hcz11_2
                      try clear hcz11_3
                      try clear hcz14_0
                      try clear hcz14_1
                      try clear hcz14_2
                      try clear hcz14_3
                      try clear hcz15_0
                      try clear hcz15_1
                      try clear hcz15_2
                      try clear hcz15_3
                      try clear hcz16_0
                      try clear hcz16_1
                      try clear hcz16_2
                      try clear hcz16_3
                      try clear hfz11_0
                      try clear hfz11_1
                      try clear hfz11_2
                      try clear hfz11_3
                      try clear hfz14_0
                      try clear hfz14_1
                      try clear hfz14_2
                      try clear hfz14_3
                      try clear hfz15_0
                      try clear hfz15_1
                      try clear hfz15_2
                      try clear hfz15_3
                      try clear hfz16_0
                      try clear hfz16_1
                      try clear hfz16_2
                      try clear hfz16_3
                      try clear hx104_0
                      try clear hx104_1
                      try clear hx104_2
                      try clear hx104_3
                      try clear hx104_4
                      try clear hx104_5
                      try clear hx104_6
                      try clear hx105_0
                      try clear hx105_1
                      try clear hx105_2
                      try clear hx105_3
                      try clear hx105_4
                      try clear hx105_5
                      try clear hx105_6
                      try clear hx106_0
                      try clear hx106_1
                      try clear hx106_2
                      try clear hx106_3
                      try clear p104
                      try clear p105
                      try clear p106
                      try clear p2
                      try clear q104
                      try clear q105
                      try clear q106
                      obtain ⟨kq, x13_8, rfl, HA, HJ8, BK107, HB⟩ := hcut
                      cases kq with
                      | zero => exact absurd HA.out (by simp [stilemanref24_waits.j2])
                      | succ kj8 =>
                        have H := HA.out
                        clear HA
                        simp only [stilemanref24_waits.j2] at H
                        have HC17 := Aside0.mk H
                        clear H
                        go_upto_region 10 with (fail)
                        go_cut [63] (fun v63 wc => ∃ (kq : Nat) (x63_16 : Bool), v63 = .bool x63_16 ∧ Aside0 (stilemanref24_waits.j3 kq l0 a1 a2 x8_2 x9_2 x10_1 x11_2 x13_8 x63_16 ((rd_T98 ((rd_T80 l0 x10_1).f2) x11_2).f0) ((rd_T98 ((rd_T80 l0 x10_1).f2) x11_2).f1) ((rd_T98 ((rd_T80 l0 x10_1).f2) x11_2).f2) ((rd_T98 ((rd_T80 l0 x10_1).f2) x11_2).f3) = some (r1, r2)) ∧ Aside0 (kq ≤ kj8) ∧ Aside0 (wc.heap[gb107]? = some (.cells #[.int .i64 ((rd_T98 ((rd_T80 l0 x10_1).f2) x11_2).f0), .int .i64 ((rd_T98 ((rd_T80 l0 x10_1).f2) x11_2).f1), .int .i64 ((rd_T98 ((rd_T80 l0 x10_1).f2) x11_2).f2), .int .i64 ((rd_T98 ((rd_T80 l0 x10_1).f2) x11_2).f3)] 98 (0, 0))) ∧ Aside0 (Below w.heap.size w wc))
                        case first =>
                          have H := HC17.out
                          clear HC17
                          by_cases c18 : ((rd_T98 ((rd_T80 l0 x10_1).f2) x11_2).f0) = a1
                          · rw [if_pos c18] at H
                            have c18b0 : (((rd_T98 ((rd_T80 l0 x10_1).f2) x11_2).f0) == a1) = true := beq_iff_eq.mpr c18
                            have c18b1 : (((rd_T98 ((rd_T80 l0 x10_1).f2) x11_2).f0) != a1) = false := bne_eq_false_iff_eq.mpr c18
                            clear c18
                            (first | rw [c18b0] | (simp only [i64_w, i32_w]; rw [c18b0]) | skip)
                            by_cases c19 : x13_8 = true
                            · subst c19
                              have H1 : (stilemanref24_waits.j3 kj8 l0 a1 a2 x8_2 x9_2 x10_1 x11_2 true false ((rd_T98 ((rd_T80 l0 x10_1).f2) x11_2).f0) ((rd_T98 ((rd_T80 l0 x10_1).f2) x11_2).f1) ((rd_T98 ((rd_T80 l0 x10_1).f2) x11_2).f2) ((rd_T98 ((rd_T80 l0 x10_1).f2) x11_2).f3)) = some (r1, r2) := by rw [if_pos rfl] at H; exact H
                              clear H
                              have H := H1
                              clear H1
                              have H' := Aside0.mk H
                              clear H
                              have hcz20_0 : wc.cell? ⟨gb107, 0, none⟩ = some (.int .i64 ((rd_T98 ((rd_T80 l0 x10_1).f2) x11_2).f0)) := (blk_cell BK107.out 0).trans rfl
                              have hcz20_1 : wc.cell? ⟨gb107, 1, none⟩ = some (.int .i64 ((rd_T98 ((rd_T80 l0 x10_1).f2) x11_2).f1)) := (blk_cell BK107.out 1).trans rfl
                              have hcz20_2 : wc.cell? ⟨gb107, 2, none⟩ = some (.int .i64 ((rd_T98 ((rd_T80 l0 x10_1).f2) x11_2).f2)) := (blk_cell BK107.out 2).trans rfl
                              have hcz20_3 : wc.cell? ⟨gb107, 3, none⟩ = some (.int .i64 ((rd_T98 ((rd_T80 l0 x10_1).f2) x11_2).f3)) := (blk_cell BK107.out 3).trans rfl
                              have hfz20_0 := blk_frozen BK107.out 0
                              have hfz20_1 := blk_frozen BK107.out 1
                              have hfz20_2 := blk_frozen BK107.out 2
                              have hfz20_3 := blk_frozen BK107.out 3
                              go_wp2
                              go_meet
                              case rel => exact ⟨_, (false), (by first | rfl | (simp; done) | (simp [*]; done)), H', ⟨by have := HK1.out; have := HK2.out; have := HJ8.out; first | omega | exact Nat.le_refl _⟩, ⟨by (with_reducible repeat (first | refine blk_drewN ?_ _ | refine blk_drew ?_ | refine blk_alloc ?_ _)); exact BK107.out⟩, ⟨by repeat (first | (with_reducible first | exact HB.out | apply below_alloc | apply pw_below_drewN | apply below_drew1 | refine below_set ?_ GE107.out) | exact HB.out)⟩⟩
                            · replace c19 := Bool.eq_false_iff.mpr c19
                              subst c19
                              have H1 : (stilemanref24_waits.j3 kj8 l0 a1 a2 x8_2 x9_2 x10_1 x11_2 false (((rd_T98 ((rd_T80 l0 x10_1).f2) x11_2).f1) != 11) ((rd_T98 ((rd_T80 l0 x10_1).f2) x11_2).f0) ((rd_T98 ((rd_T80 l0 x10_1).f2) x11_2).f1) ((rd_T98 ((rd_T80 l0 x10_1).f2) x11_2).f2) ((rd_T98 ((rd_T80 l0 x10_1).f2) x11_2).f3)) = some (r1, r2) := by rw [if_neg (show ¬ (false = true) by decide)] at H; exact H
                              clear H
                              have H := H1
                              clear H1
                              have H' := Aside0.mk H
                              clear H
                              have hcz21_0 : wc.cell? ⟨gb107, 0, none⟩ = some (.int .i64 ((rd_T98 ((rd_T80 l0 x10_1).f2) x11_2).f0)) := (blk_cell BK107.out 0).trans rfl
                              have hcz21_1 : wc.cell? ⟨gb107, 1, none⟩ = some (.int .i64 ((rd_T98 ((rd_T80 l0 x10_1).f2) x11_2).f1)) := (blk_cell BK107.out 1).trans rfl
                              have hcz21_2 : wc.cell? ⟨gb107, 2, none⟩ = some (.int .i64 ((rd_T98 ((rd_T80 l0 x10_1).f2) x11_2).f2)) := (blk_cell BK107.out 2).trans rfl
                              have hcz21_3 : wc.cell? ⟨gb107, 3, none⟩ = some (.int .i64 ((rd_T98 ((rd_T80 l0 x10_1).f2) x11_2).f3)) := (blk_cell BK107.out 3).trans rfl
                              have hfz21_0 := blk_frozen BK107.out 0
                              have hfz21_1 := blk_frozen BK107.out 1
                              have hfz21_2 := blk_frozen BK107.out 2
                              have hfz21_3 := blk_frozen BK107.out 3
                              go_wp2
                              go_meet
                              case rel => exact ⟨_, ((((rd_T98 ((rd_T80 l0 x10_1).f2) x11_2).f1) != 11)), (by first | rfl | (simp; done) | (simp [*]; done)), H', ⟨by have := HK1.out; have := HK2.out; have := HJ8.out; first | omega | exact Nat.le_refl _⟩, ⟨by (with_reducible repeat (first | refine blk_drewN ?_ _ | refine blk_drew ?_ | refine blk_alloc ?_ _)); exact BK107.out⟩, ⟨by repeat (first | (with_reducible first | exact HB.out | apply below_alloc | apply pw_below_drewN | apply below_drew1 | refine below_set ?_ GE107.out) | exact HB.out)⟩⟩
                          · rw [if_neg c18] at H
                            have c18b0 : (((rd_T98 ((rd_T80 l0 x10_1).f2) x11_2).f0) == a1) = false := beq_eq_false_iff_ne.mpr c18
                            have c18b1 : (((rd_T98 ((rd_T80 l0 x10_1).f2) x11_2).f0) != a1) = true := bne_iff_ne.mpr c18
                            (first | rw [c18b0] | (simp only [i64_w, i32_w]; rw [c18b0]) | skip)
                            have H' := Aside0.mk H
                            clear H
                            have hcz22_0 : wc.cell? ⟨gb107, 0, none⟩ = some (.int .i64 ((rd_T98 ((rd_T80 l0 x10_1).f2) x11_2).f0)) := (blk_cell BK107.out 0).trans rfl
                            have hcz22_1 : wc.cell? ⟨gb107, 1, none⟩ = some (.int .i64 ((rd_T98 ((rd_T80 l0 x10_1).f2) x11_2).f1)) := (blk_cell BK107.out 1).trans rfl
                            have hcz22_2 : wc.cell? ⟨gb107, 2, none⟩ = some (.int .i64 ((rd_T98 ((rd_T80 l0 x10_1).f2) x11_2).f2)) := (blk_cell BK107.out 2).trans rfl
                            have hcz22_3 : wc.cell? ⟨gb107, 3, none⟩ = some (.int .i64 ((rd_T98 ((rd_T80 l0 x10_1).f2) x11_2).f3)) := (blk_cell BK107.out 3).trans rfl
                            have hfz22_0 := blk_frozen BK107.out 0
                            have hfz22_1 := blk_frozen BK107.out 1
                            have hfz22_2 := blk_frozen BK107.out 2
                            have hfz22_3 := blk_frozen BK107.out 3
                            go_wp2
                            go_meet
                            case rel => exact ⟨_, (true), (by first | rfl | (simp; done) | (simp [*]; done)), H', ⟨by have := HK1.out; have := HK2.out; have := HJ8.out; first | omega | exact Nat.le_refl _⟩, ⟨by (with_reducible repeat (first | refine blk_drewN ?_ _ | refine blk_drew ?_ | refine blk_alloc ?_ _)); exact BK107.out⟩, ⟨by repeat (first | (with_reducible first | exact HB.out | apply below_alloc | apply pw_below_drewN | apply below_drew1 | refine below_set ?_ GE107.out) | exact HB.out)⟩⟩
                        case rest =>
                          clear HC17
                          try clear c1
                          try clear p1
                          try clear q1
                          try clear hx1
                          try clear p2
                          try clear c4
                          try clear c4b0
                          try clear c5
                          try clear c5b0
                          try clear c6
                          try clear c6b0
                          try clear c7
                          try clear c7b0
                          try clear c8
                          try clear c8b0
                          try clear c10
                          try clear p10
                          try clear q10
                          try clear hx10
                          try clear c12
                          try clear c12b0
                          try clear c12b1
                          try clear c13
                          try clear c13b0
                          try clear c13b1
                          try clear c18
                          try clear c18b0
                          try clear c18b1
                          try clear c19
                          try clear hcz11_0
                          try clear hcz11_1
                          try clear hcz11_2
                          try clear hcz11_3
                          try clear hcz14_0
                          try clear hcz14_1
                          try clear hcz14_2
                          try clear hcz14_3
                          try clear hcz15_0
                          try clear hcz15_1
                          try clear hcz15_2
                          try clear hcz15_3
                          try clear hcz16_0
                          try clear hcz16_1
                          try clear hcz16_2
                          try clear hcz16_3
                          try clear hcz20_0
                          try clear hcz20_1
                          try clear hcz20_2
                          try clear hcz20_3
                          try clear hcz21_0
                          try clear hcz21_1
                          try clear hcz21_2
                          try clear hcz21_3
                          try clear hcz22_0
                          try clear hcz22_1
                          try clear hcz22_2
                          try clear hcz22_3
                          try clear hfz11_0
                          try clear hfz11_1
                          try clear hfz11_2
                          try clear hfz11_3
                          try clear hfz14_0
                          try clear hfz14_1
                          try clear hfz14_2
                          try clear hfz14_3
                          try clear hfz15_0
                          try clear hfz15_1
                          try clear hfz15_2
                          try clear hfz15_3
                          try clear hfz16_0
                          try clear hfz16_1
                          try clear hfz16_2
                          try clear hfz16_3
                          try clear hfz20_0
                          try clear hfz20_1
                          try clear hfz20_2
                          try clear hfz20_3
                          try clear hfz21_0
                          try clear hfz21_1
                          try clear hfz21_2
                          try clear hfz21_3
                          try clear hfz22_0
                          try clear hfz22_1
                          try clear hfz22_2
                          try clear hfz22_3
                          try clear hx104_0
                          try clear hx104_1
                          try clear hx104_2
                          try clear hx104_3
                          try clear hx104_4
                          try clear hx104_5
                          try clear hx104_6
                          try clear hx105_0
                          try clear hx105_1
                          try clear hx105_2
                          try clear hx105_3
                          try clear hx105_4
                          try clear hx105_5
                          try clear hx105_6
                          try clear hx106_0
                          try clear hx106_1
                          try clear hx106_2
                          try clear hx106_3
                          try clear p1
                          try clear p10
                          try clear p104
                          try clear p105
                          try clear p106
                          try clear p2
                          try clear q1
                          try clear q10
                          try clear q104
                          try clear q105
                          try clear q106
                          obtain ⟨kq, x63_16, rfl, HA, HJ16, BK107, HB⟩ := hcut
                          cases kq with
                          | zero => exact absurd HA.out (by simp [stilemanref24_waits.j3])
                          | succ kj16 =>
                            have H := HA.out
                            clear HA
                            simp only [stilemanref24_waits.j3] at H
                            by_cases c23 : x63_16 = true
                            · subst c23
                              have H1 : (stilemanref24_waits.l1 kj16 l0 a1 a2 x8_2 x9_2 x10_1 (wrap64 (x11_2 + 1))) = some (r1, r2) := by rw [if_pos rfl] at H; exact H
                              clear H
                              have H := H1
                              clear H1
                              have H' := Aside0.mk H
                              clear H
                              go_wp2
                              go_roundg kj16
                              case measure => have := HK1.out; have := HK2.out; have := HJ8.out; have := HJ16.out; omega
                              case rel => exact ⟨(x8_2), (x9_2), (wrap64 (x11_2 + 1)), (by first | rfl | (simp; done) | (simp [*]; done)), (by first | rfl | (simp; done) | (simp [*]; done)), (by first | rfl | (simp; done) | (simp [*]; done)), H', ⟨by have := HK1.out; have := HK2.out; have := HJ8.out; have := HJ16.out; omega⟩, ⟨by repeat (first | (with_reducible first | exact HB.out | apply below_alloc | apply pw_below_drewN | apply below_drew1 | refine below_set ?_ GE107.out) | exact HB.out)⟩⟩
                            · replace c23 := Bool.eq_false_iff.mpr c23
                              subst c23
                              have H1 : (if x9_2 ≥ 0 then (if x13_8 = true then (if ((rd_T98 ((rd_T80 l0 x10_1).f2) x11_2).f2) = a2 then (stilemanref24_waits.l1 kj16 l0 a1 a2 (mx x8_2 (wrap64 (x10_1 - x9_2))) x10_1 x10_1 (wrap64 (x11_2 + 1))) else (stilemanref24_waits.l1 kj16 l0 a1 a2 (mx x8_2 (wrap64 (x10_1 - x9_2))) (-1) x10_1 (wrap64 (x11_2 + 1)))) else (stilemanref24_waits.l1 kj16 l0 a1 a2 (mx x8_2 (wrap64 (x10_1 - x9_2))) (-1) x10_1 (wrap64 (x11_2 + 1)))) else (if x13_8 = true then (if ((rd_T98 ((rd_T80 l0 x10_1).f2) x11_2).f2) = a2 then (stilemanref24_waits.l1 kj16 l0 a1 a2 x8_2 x10_1 x10_1 (wrap64 (x11_2 + 1))) else (stilemanref24_waits.l1 kj16 l0 a1 a2 x8_2 (-1) x10_1 (wrap64 (x11_2 + 1)))) else (stilemanref24_waits.l1 kj16 l0 a1 a2 x8_2 (-1) x10_1 (wrap64 (x11_2 + 1))))) = some (r1, r2) := by rw [if_neg (show ¬ (false = true) by decide)] at H; exact H
                              clear H
                              have H := H1
                              clear H1
                              by_cases c24 : x9_2 ≥ 0
                              · rw [if_pos c24] at H
                                have c24b0 : decide (0 ≤ x9_2) = true := decide_eq_true c24
                                clear c24
                                obtain ⟨ji25, hji25⟩ : ∃ j_ : Int, (mx x8_2 (wrap64 (x10_1 - x9_2))) = j_ := ⟨_, rfl⟩
                                replace H : (if x13_8 = true then (if ((rd_T98 ((rd_T80 l0 x10_1).f2) x11_2).f2) = a2 then (stilemanref24_waits.l1 kj16 l0 a1 a2 ji25 x10_1 x10_1 (wrap64 (x11_2 + 1))) else (stilemanref24_waits.l1 kj16 l0 a1 a2 ji25 (-1) x10_1 (wrap64 (x11_2 + 1)))) else (stilemanref24_waits.l1 kj16 l0 a1 a2 ji25 (-1) x10_1 (wrap64 (x11_2 + 1)))) = some (r1, r2) := by first | (rw [hji25] at H; exact H) | (simp only [hji25] at H ⊢; exact H)
                                have hji25_ : (if x8_2 < (wrap64 (x10_1 - x9_2)) then (wrap64 (x10_1 - x9_2)) else x8_2) = ji25 := hji25
                                by_cases c26 : x13_8 = true
                                · subst c26
                                  have H1 : (if ((rd_T98 ((rd_T80 l0 x10_1).f2) x11_2).f2) = a2 then (stilemanref24_waits.l1 kj16 l0 a1 a2 ji25 x10_1 x10_1 (wrap64 (x11_2 + 1))) else (stilemanref24_waits.l1 kj16 l0 a1 a2 ji25 (-1) x10_1 (wrap64 (x11_2 + 1)))) = some (r1, r2) := by rw [if_pos rfl] at H; exact H
                                  clear H
                                  have H := H1
                                  clear H1
                                  by_cases c27 : ((rd_T98 ((rd_T80 l0 x10_1).f2) x11_2).f2) = a2
                                  · rw [if_pos c27] at H
                                    have c27b0 : (((rd_T98 ((rd_T80 l0 x10_1).f2) x11_2).f2) == a2) = true := beq_iff_eq.mpr c27
                                    have c27b1 : (((rd_T98 ((rd_T80 l0 x10_1).f2) x11_2).f2) != a2) = false := bne_eq_false_iff_eq.mpr c27
                                    clear c27
                                    have H' := Aside0.mk H
                                    clear H
                                    have hcz28_0 : wc.cell? ⟨gb107, 0, none⟩ = some (.int .i64 ((rd_T98 ((rd_T80 l0 x10_1).f2) x11_2).f0)) := (blk_cell BK107.out 0).trans rfl
                                    have hcz28_1 : wc.cell? ⟨gb107, 1, none⟩ = some (.int .i64 ((rd_T98 ((rd_T80 l0 x10_1).f2) x11_2).f1)) := (blk_cell BK107.out 1).trans rfl
                                    have hcz28_2 : wc.cell? ⟨gb107, 2, none⟩ = some (.int .i64 ((rd_T98 ((rd_T80 l0 x10_1).f2) x11_2).f2)) := (blk_cell BK107.out 2).trans rfl
                                    have hcz28_3 : wc.cell? ⟨gb107, 3, none⟩ = some (.int .i64 ((rd_T98 ((rd_T80 l0 x10_1).f2) x11_2).f3)) := (blk_cell BK107.out 3).trans rfl
                                    have hfz28_0 := blk_frozen BK107.out 0
                                    have hfz28_1 := blk_frozen BK107.out 1
                                    have hfz28_2 := blk_frozen BK107.out 2
                                    have hfz28_3 := blk_frozen BK107.out 3
                                    go_wp2
                                    go_roundg kj16
                                    case measure => have := HK1.out; have := HK2.out; have := HJ8.out; have := HJ16.out; omega
                                    case rel => exact ⟨(ji25), (x10_1), (wrap64 (x11_2 + 1)), (by first | rfl | (simp; done) | (simp only [← hji25] <;> (first | rfl | simp)) | (simp [*]; done)), (by first | rfl | (simp; done) | (simp [*]; done)), (by first | rfl | (simp; done) | (simp [*]; done)), H', ⟨by have := HK1.out; have := HK2.out; have := HJ8.out; have := HJ16.out; omega⟩, ⟨by repeat (first | (with_reducible first | exact HB.out | apply below_alloc | apply pw_below_drewN | apply below_drew1 | refine below_set ?_ GE107.out) | exact HB.out)⟩⟩
                                  · rw [if_neg c27] at H
                                    have c27b0 : (((rd_T98 ((rd_T80 l0 x10_1).f2) x11_2).f2) == a2) = false := beq_eq_false_iff_ne.mpr c27
                                    have c27b1 : (((rd_T98 ((rd_T80 l0 x10_1).f2) x11_2).f2) != a2) = true := bne_iff_ne.mpr c27
                                    have H' := Aside0.mk H
                                    clear H
                                    have hcz29_0 : wc.cell? ⟨gb107, 0, none⟩ = some (.int .i64 ((rd_T98 ((rd_T80 l0 x10_1).f2) x11_2).f0)) := (blk_cell BK107.out 0).trans rfl
                                    have hcz29_1 : wc.cell? ⟨gb107, 1, none⟩ = some (.int .i64 ((rd_T98 ((rd_T80 l0 x10_1).f2) x11_2).f1)) := (blk_cell BK107.out 1).trans rfl
                                    have hcz29_2 : wc.cell? ⟨gb107, 2, none⟩ = some (.int .i64 ((rd_T98 ((rd_T80 l0 x10_1).f2) x11_2).f2)) := (blk_cell BK107.out 2).trans rfl
                                    have hcz29_3 : wc.cell? ⟨gb107, 3, none⟩ = some (.int .i64 ((rd_T98 ((rd_T80 l0 x10_1).f2) x11_2).f3)) := (blk_cell BK107.out 3).trans rfl
                                    have hfz29_0 := blk_frozen BK107.out 0
                                    have hfz29_1 := blk_frozen BK107.out 1
                                    have hfz29_2 := blk_frozen BK107.out 2
                                    have hfz29_3 := blk_frozen BK107.out 3
                                    go_wp2
                                    go_roundg kj16
                                    case measure => have := HK1.out; have := HK2.out; have := HJ8.out; have := HJ16.out; omega
                                    case rel => exact ⟨(ji25), ((-1)), (wrap64 (x11_2 + 1)), (by first | rfl | (simp; done) | (simp only [← hji25] <;> (first | rfl | simp)) | (simp [*]; done)), (by first | rfl | (simp; done) | (simp [*]; done)), (by first | rfl | (simp; done) | (simp [*]; done)), H', ⟨by have := HK1.out; have := HK2.out; have := HJ8.out; have := HJ16.out; omega⟩, ⟨by repeat (first | (with_reducible first | exact HB.out | apply below_alloc | apply pw_below_drewN | apply below_drew1 | refine below_set ?_ GE107.out) | exact HB.out)⟩⟩
                                · replace c26 := Bool.eq_false_iff.mpr c26
                                  subst c26
                                  have H1 : (stilemanref24_waits.l1 kj16 l0 a1 a2 ji25 (-1) x10_1 (wrap64 (x11_2 + 1))) = some (r1, r2) := by rw [if_neg (show ¬ (false = true) by decide)] at H; exact H
                                  clear H
                                  have H := H1
                                  clear H1
                                  have H' := Aside0.mk H
                                  clear H
                                  go_wp2
                                  go_roundg kj16
                                  case measure => have := HK1.out; have := HK2.out; have := HJ8.out; have := HJ16.out; omega
                                  case rel => exact ⟨(ji25), ((-1)), (wrap64 (x11_2 + 1)), (by first | rfl | (simp; done) | (simp only [← hji25] <;> (first | rfl | simp)) | (simp [*]; done)), (by first | rfl | (simp; done) | (simp [*]; done)), (by first | rfl | (simp; done) | (simp [*]; done)), H', ⟨by have := HK1.out; have := HK2.out; have := HJ8.out; have := HJ16.out; omega⟩, ⟨by repeat (first | (with_reducible first | exact HB.out | apply below_alloc | apply pw_below_drewN | apply below_drew1 | refine below_set ?_ GE107.out) | exact HB.out)⟩⟩
                              · rw [if_neg c24] at H
                                have c24b0 : decide (0 ≤ x9_2) = false := decide_eq_false c24
                                clear c24
                                by_cases c30 : x13_8 = true
                                · subst c30
                                  have H1 : (if ((rd_T98 ((rd_T80 l0 x10_1).f2) x11_2).f2) = a2 then (stilemanref24_waits.l1 kj16 l0 a1 a2 x8_2 x10_1 x10_1 (wrap64 (x11_2 + 1))) else (stilemanref24_waits.l1 kj16 l0 a1 a2 x8_2 (-1) x10_1 (wrap64 (x11_2 + 1)))) = some (r1, r2) := by rw [if_pos rfl] at H; exact H
                                  clear H
                                  have H := H1
                                  clear H1
                                  by_cases c31 : ((rd_T98 ((rd_T80 l0 x10_1).f2) x11_2).f2) = a2
                                  · rw [if_pos c31] at H
                                    have c31b0 : (((rd_T98 ((rd_T80 l0 x10_1).f2) x11_2).f2) == a2) = true := beq_iff_eq.mpr c31
                                    have c31b1 : (((rd_T98 ((rd_T80 l0 x10_1).f2) x11_2).f2) != a2) = false := bne_eq_false_iff_eq.mpr c31
                                    clear c31
                                    have H' := Aside0.mk H
                                    clear H
                                    have hcz32_0 : wc.cell? ⟨gb107, 0, none⟩ = some (.int .i64 ((rd_T98 ((rd_T80 l0 x10_1).f2) x11_2).f0)) := (blk_cell BK107.out 0).trans rfl
                                    have hcz32_1 : wc.cell? ⟨gb107, 1, none⟩ = some (.int .i64 ((rd_T98 ((rd_T80 l0 x10_1).f2) x11_2).f1)) := (blk_cell BK107.out 1).trans rfl
                                    have hcz32_2 : wc.cell? ⟨gb107, 2, none⟩ = some (.int .i64 ((rd_T98 ((rd_T80 l0 x10_1).f2) x11_2).f2)) := (blk_cell BK107.out 2).trans rfl
                                    have hcz32_3 : wc.cell? ⟨gb107, 3, none⟩ = some (.int .i64 ((rd_T98 ((rd_T80 l0 x10_1).f2) x11_2).f3)) := (blk_cell BK107.out 3).trans rfl
                                    have hfz32_0 := blk_frozen BK107.out 0
                                    have hfz32_1 := blk_frozen BK107.out 1
                                    have hfz32_2 := blk_frozen BK107.out 2
                                    have hfz32_3 := blk_frozen BK107.out 3
                                    go_wp2
                                    go_roundg kj16
                                    case measure => have := HK1.out; have := HK2.out; have := HJ8.out; have := HJ16.out; omega
                                    case rel => exact ⟨(x8_2), (x10_1), (wrap64 (x11_2 + 1)), (by first | rfl | (simp; done) | (simp [*]; done)), (by first | rfl | (simp; done) | (simp [*]; done)), (by first | rfl | (simp; done) | (simp [*]; done)), H', ⟨by have := HK1.out; have := HK2.out; have := HJ8.out; have := HJ16.out; omega⟩, ⟨by repeat (first | (with_reducible first | exact HB.out | apply below_alloc | apply pw_below_drewN | apply below_drew1 | refine below_set ?_ GE107.out) | exact HB.out)⟩⟩
                                  · rw [if_neg c31] at H
                                    have c31b0 : (((rd_T98 ((rd_T80 l0 x10_1).f2) x11_2).f2) == a2) = false := beq_eq_false_iff_ne.mpr c31
                                    have c31b1 : (((rd_T98 ((rd_T80 l0 x10_1).f2) x11_2).f2) != a2) = true := bne_iff_ne.mpr c31
                                    have H' := Aside0.mk H
                                    clear H
                                    have hcz33_0 : wc.cell? ⟨gb107, 0, none⟩ = some (.int .i64 ((rd_T98 ((rd_T80 l0 x10_1).f2) x11_2).f0)) := (blk_cell BK107.out 0).trans rfl
                                    have hcz33_1 : wc.cell? ⟨gb107, 1, none⟩ = some (.int .i64 ((rd_T98 ((rd_T80 l0 x10_1).f2) x11_2).f1)) := (blk_cell BK107.out 1).trans rfl
                                    have hcz33_2 : wc.cell? ⟨gb107, 2, none⟩ = some (.int .i64 ((rd_T98 ((rd_T80 l0 x10_1).f2) x11_2).f2)) := (blk_cell BK107.out 2).trans rfl
                                    have hcz33_3 : wc.cell? ⟨gb107, 3, none⟩ = some (.int .i64 ((rd_T98 ((rd_T80 l0 x10_1).f2) x11_2).f3)) := (blk_cell BK107.out 3).trans rfl
                                    have hfz33_0 := blk_frozen BK107.out 0
                                    have hfz33_1 := blk_frozen BK107.out 1
                                    have hfz33_2 := blk_frozen BK107.out 2
                                    have hfz33_3 := blk_frozen BK107.out 3
                                    go_wp2
                                    go_roundg kj16
                                    case measure => have := HK1.out; have := HK2.out; have := HJ8.out; have := HJ16.out; omega
                                    case rel => exact ⟨(x8_2), ((-1)), (wrap64 (x11_2 + 1)), (by first | rfl | (simp; done) | (simp [*]; done)), (by first | rfl | (simp; done) | (simp [*]; done)), (by first | rfl | (simp; done) | (simp [*]; done)), H', ⟨by have := HK1.out; have := HK2.out; have := HJ8.out; have := HJ16.out; omega⟩, ⟨by repeat (first | (with_reducible first | exact HB.out | apply below_alloc | apply pw_below_drewN | apply below_drew1 | refine below_set ?_ GE107.out) | exact HB.out)⟩⟩
                                · replace c30 := Bool.eq_false_iff.mpr c30
                                  subst c30
                                  have H1 : (stilemanref24_waits.l1 kj16 l0 a1 a2 x8_2 (-1) x10_1 (wrap64 (x11_2 + 1))) = some (r1, r2) := by rw [if_neg (show ¬ (false = true) by decide)] at H; exact H
                                  clear H
                                  have H := H1
                                  clear H1
                                  have H' := Aside0.mk H
                                  clear H
                                  go_wp2
                                  go_roundg kj16
                                  case measure => have := HK1.out; have := HK2.out; have := HJ8.out; have := HJ16.out; omega
                                  case rel => exact ⟨(x8_2), ((-1)), (wrap64 (x11_2 + 1)), (by first | rfl | (simp; done) | (simp [*]; done)), (by first | rfl | (simp; done) | (simp [*]; done)), (by first | rfl | (simp; done) | (simp [*]; done)), H', ⟨by have := HK1.out; have := HK2.out; have := HJ8.out; have := HJ16.out; omega⟩, ⟨by repeat (first | (with_reducible first | exact HB.out | apply below_alloc | apply pw_below_drewN | apply below_drew1 | refine below_set ?_ GE107.out) | exact HB.out)⟩⟩
                  · rw [if_neg c8] at H
                    exact absurd H (by simp)
                · rw [if_neg c7] at H
                  have c7b0 : decide (x11_2 < (((rd_T80 l0 x10_1).f2).length : Int)) = false := decide_eq_false c7
                  clear c7
                  have H' := Aside0.mk H
                  clear H
                  have p104 : 0 ≤ (x10_1 : Int) := of_decide_eq_true (by first | (with_reducible assumption) | assumption)
                  have q104 : x10_1 < (l0.length : Int) := of_decide_eq_true (by first | (with_reducible assumption) | assumption)
                  obtain ⟨ad104, A104_6, c104_6, e104, hx104_0, hx104_1, hx104_2, hx104_3, hx104_4, hx104_5, hx104_6, hl104_6, hi104_6⟩ := at_T80 HR0.out x10_1 p104 q104
                  cases e104
                  replace hx104_0 := (HB.out.cell (World.block_lt_of_cell? w _ hx104_0)).trans hx104_0
                  replace hx104_1 := (HB.out.cell (World.block_lt_of_cell? w _ hx104_1)).trans hx104_1
                  replace hx104_2 := (HB.out.cell (World.block_lt_of_cell? w _ hx104_2)).trans hx104_2
                  replace hx104_3 := (HB.out.cell (World.block_lt_of_cell? w _ hx104_3)).trans hx104_3
                  replace hx104_4 := (HB.out.cell (World.block_lt_of_cell? w _ hx104_4)).trans hx104_4
                  replace hx104_5 := (HB.out.cell (World.block_lt_of_cell? w _ hx104_5)).trans hx104_5
                  replace hx104_6 := (HB.out.cell (World.block_lt_of_cell? w _ hx104_6)).trans hx104_6
                  have HR104_6 := Aside0.mk hi104_6
                  have HC104_6 := Aside0.mk hl104_6
                  clear hi104_6 hl104_6
                  replace p104 := eq_true p104
                  replace q104 := eq_true q104
                  go_wp2
                  go_roundg k2
                  case measure => have := HK1.out; have := HK2.out; omega
                  case rel => exact ⟨(x8_2), (x9_2), (wrap64 (x10_1 + 1)), (by first | rfl | (simp; done) | (simp [*]; done)), (by first | rfl | (simp; done) | (simp [*]; done)), (by first | rfl | (simp; done) | (simp [*]; done)), H', ⟨by have := HK1.out; have := HK2.out; omega⟩, ⟨by repeat (first | (with_reducible first | exact HB.out | apply below_alloc | apply pw_below_drewN | apply below_drew1) | exact HB.out)⟩⟩
              · rw [if_neg c6] at H
                exact absurd H (by simp)
            · rw [if_neg c5] at H
              exact absurd H (by simp)
      · rw [if_neg c4] at H
        have c4b0 : decide (x10_1 < (l0.length : Int)) = false := decide_eq_false c4
        clear c4
        by_cases c34 : x9_1 < 0
        · rw [if_pos c34] at H
          have c34b0 : decide (x9_1 < 0) = true := decide_eq_true c34
          clear c34
          simp only [Option.some.injEq, Prod.mk.injEq] at H
          obtain ⟨rfl, rfl⟩ := H
          go_wp2
          go_ret2
          exact ⟨by first | rfl | (simp [errW_none, errW_some] <;> rfl) | (simp [*, errW_none, errW_some] <;> rfl), by repeat (first | (with_reducible first | exact HB.out | apply below_alloc | apply pw_below_drewN | apply below_drew1) | exact HB.out)⟩
        · rw [if_neg c34] at H
          have c34b0 : decide (x9_1 < 0) = false := decide_eq_false c34
          clear c34
          obtain ⟨ji35, hji35⟩ : ∃ j_ : Int, (mx x8_1 (wrap64 ((wrap64 ((l0.length : Int) - 1)) - x9_1))) = j_ := ⟨_, rfl⟩
          replace H : (some (ji35, wrap64 ((wrap64 ((l0.length : Int) - 1)) - x9_1))) = some (r1, r2) := by first | (rw [hji35] at H; exact H) | (simp only [hji35] at H ⊢; exact H)
          have hji35_ : (if x8_1 < (wrap64 ((wrap64 ((l0.length : Int) - 1)) - x9_1)) then (wrap64 ((wrap64 ((l0.length : Int) - 1)) - x9_1)) else x8_1) = ji35 := hji35
          simp only [Option.some.injEq, Prod.mk.injEq] at H
          obtain ⟨rfl, rfl⟩ := H
          go_wp2
          go_ret2
          exact ⟨by first | rfl | (simp [errW_none, errW_some] <;> rfl) | (simp only [← hji35]; first | rfl | (simp [errW_none, errW_some] <;> rfl)) | (simp [*, errW_none, errW_some] <;> rfl), by repeat (first | (with_reducible first | exact HB.out | apply below_alloc | apply pw_below_drewN | apply below_drew1) | exact HB.out)⟩

end Go.Proofs.Ytgbofijdjgpgeaa.PBoundWatches
