/- The law WorldSkips: walk. -/
import Derived.Test.YtkmlefbdhdlfmaaGreatLw
namespace Go.Proofs.YtkmlefbdhdlfmaaGreat.Wo
open Go.RowKit Go.Proofs.YtkmlefbdhdlfmaaGreatW.PrintWords Go.Proofs.YtkmlefbdhdlfmaaGreatW.PrintMore Go.Proofs.YtkmlefbdhdlfmaaGreatW.PrintLast
open Stile
set_option linter.unusedSimpArgs false
set_option linter.unusedVariables false
set_option maxRecDepth 100000
variable {w w1 w2 w0 V V1 : World} {a pm g t kf n b B p cap gc gt : Nat} {W : Stile.W} {ok : Nat → Prop}

theorem tk11 {xs : List Task} (h : Tk w t xs.length (fun i j => taskV (xs.getD i ⟨0, .zero⟩) j)) {i : Nat} (hi : i < xs.length) (x : Task) (hx : x = xs.getD i ⟨0, .zero⟩) :
    w.cell? ⟨t, i * 11, none⟩ = some (.int .i64 x.hold) ∧ w.cell? ⟨t, i * 11 + 1, none⟩ = some (.int .i64 x.f.op) ∧ w.cell? ⟨t, i * 11 + 2, none⟩ = some (.int .i64 x.f.line) ∧ w.cell? ⟨t, i * 11 + 3, none⟩ = some (.int .u32 x.f.a) ∧ w.cell? ⟨t, i * 11 + 4, none⟩ = some (.int .u32 x.f.b) ∧ w.cell? ⟨t, i * 11 + 5, none⟩ = some (.int .i64 x.f.stage) ∧ w.cell? ⟨t, i * 11 + 6, none⟩ = some (.bool x.f.on) ∧ w.cell? ⟨t, i * 11 + 7, none⟩ = some (.int .i64 x.f.wc) ∧ w.cell? ⟨t, i * 11 + 8, none⟩ = some (.int .i64 x.f.wi) ∧ w.cell? ⟨t, i * 11 + 9, none⟩ = some (.bool x.f.hit) ∧ w.cell? ⟨t, i * 11 + 10, none⟩ = some (.int .i64 x.f.ret) := by
  subst hx
  exact ⟨h.cell (j := 0) hi (by decide), h.cell (j := 1) hi (by decide), h.cell (j := 2) hi (by decide), h.cell (j := 3) hi (by decide), h.cell (j := 4) hi (by decide), h.cell (j := 5) hi (by decide), h.cell (j := 6) hi (by decide), h.cell (j := 7) hi (by decide), h.cell (j := 8) hi (by decide), h.cell (j := 9) hi (by decide), h.cell (j := 10) hi (by decide)⟩
set_option maxHeartbeats 4000000 in
theorem skips_walk (kind mode n base : Int) (hb : W32 base) (A : Option Addr) (c : Nat) (l : List (Int × Int)) (w : World) (hC : pk.C w A l.length l) :
    Calls Tryz.prog 3 #[.int .i64 kind, .int .i64 mode, .int .i64 n, .int .u32 base, .slice A l.length c] w fun e w' => e = .returned (.bool true) ∧ Below w.heap.size w w' := by
  by_cases hgood : (1 ≤ kind ∧ kind ≤ 6) ∧ (mode = 1 ∨ mode = 2) ∧ (1 ≤ n ∧ n ≤ 64)
  · obtain ⟨hk, hm, hn⟩ := hgood
    have hG0 := newW_good kind mode n base hk hm hn hb
    have hnew := new_run kind mode n base hk hm hn hb w
    obtain ⟨W0, hW0⟩ : ∃ W0, W0 = newW kind mode n base := ⟨_, rfl⟩
    have hn0 : W0.n = n := by rw [hW0]; rfl
    rw [← hW0] at hG0 hnew
    obtain ⟨m, hml⟩ : ∃ m, m = l.length := ⟨_, rfl⟩
    have hmax := Kd.C_max hC
    rw [← hml] at hC hmax ⊢
    replace hW0 := Lib.hid hW0
    replace hnew := Lib.hid hnew
    replace hG0 := Lib.hid hG0
    replace hn0 := Lib.hid hn0
    replace hk := Lib.hid hk
    replace hm := Lib.hid hm
    replace hn := Lib.hid hn
    replace hC := Lib.hid hC
    replace hml := Lib.hid hml
    replace hb := Lib.hid hb
    by_cases hlong : m > 1000
    · have hl : decide ((m : Int) > 1000) = true := decide_eq_true (by omega)
      go_enter Tryz.func3, Tryz.ntmps3
      go_wp2_with (first
        | (go_at_call 13; go_must (refine hnew.out.mono ?_; rintro e w1 ⟨a, pm, g, t, kf, rfl, hW, hB, _⟩; clear hW; replace hB := Lib.hid hB))
        | (go_at_call 14; go_must (refine (awake_walk _).mono ?_; rintro e w2 ⟨rfl, hB2⟩; replace hB2 := Lib.hid (below_then hB.out hB.out.size hB2))))
      go_ret
      exact ⟨rfl, hB2.out⟩
    · have hl : decide ((m : Int) > 1000) = false := decide_eq_false (by omega)
      go_enter Tryz.func3, Tryz.ntmps3
      go_wp2_with (go_at_call 13; go_must (refine hnew.out.mono ?_; rintro e w1 ⟨a, pm, g, t, kf, rfl, hW, hB, ha, hp, hg, ht⟩; replace hW := Lib.hid hW; replace hB := Lib.hid hB; clear hnew))
      go_loopw [13] (fun i wr => ∃ k : Nat, k ≤ m ∧ i = .int .i64 k ∧ Hid (Wd wr a pm g t kf (runPicks W0 (l.take k)).2) ∧ Hid (Below w.heap.size w wr)) (fun i _ => m - (intOf i).toNat)
      case atStart => exact ⟨0, Nat.zero_le _, rfl, hW, hB⟩
      case round =>
        clear hW hB
        obtain ⟨k, hkm, rfl, hW, hB⟩ := hrel
        by_cases hlt : k < m
        · obtain ⟨ad, x, rfl, hx, d0, d1⟩ := at_pk (Kd.C_below hC.out hB.out) k hlt
          obtain ⟨x0, x1⟩ := x
          have hnext : (runPicks W0 (l.take (k + 1))).2 = (pick (runPicks W0 (l.take k)).2 x0 x1).2 := by rw [take_next hx, runPicks_snoc]
          have hGk := runPicks_good (l.take k) hG0.out
          replace hnext := Lib.hid hnext
          replace hGk := Lib.hid hGk
          replace hx := Lib.hid hx
          have hlen : 1 ≤ (runPicks W0 (l.take k)).2.l.length ∧ (runPicks W0 (l.take k)).2.l.length ≤ 2000 ∧ 1 ≤ (runPicks W0 (l.take k)).2.t.length ∧ (runPicks W0 (l.take k)).2.t.length ≤ 2000 := good_len hGk.out
          have hnW : ((runPicks W0 (l.take k)).2.t.length : Int) = n := by rw [← hGk.out.n, runPicks_n]; exact hn0.out
          obtain ⟨X', hX'⟩ : ∃ X', X' = (runPicks W0 (l.take (k + 1))).2 := ⟨_, rfl⟩
          rw [← hX'] at hnext
          have hlaw := pick_law hGk.out x0 x1
          have hpick := fun (w' : World) (h : Wd w' a pm g t kf (runPicks W0 (l.take k)).2) => pick_run h hGk.out x0 x1
          rw [← hnext.out] at hlaw hpick
          generalize (runPicks W0 (l.take k)).2 = X at hW hGk hlen hnW hlaw hpick hnext
          obtain ⟨ev, hev0⟩ : ∃ ev, ev = (pick X x0 x1).1 := ⟨_, rfl⟩
          rw [← hev0] at hlaw
          simp only [← hev0] at hpick
          replace hX' := Lib.hid hX'
          replace hlen := Lib.hid hlen
          replace hpick := Lib.hid hpick
          clear hev0 hnext
          obtain ⟨sb, hsb⟩ : ∃ sb, sb = Stile.stuck X x0 := ⟨_, rfl⟩
          replace hsb := Lib.hid hsb
          replace hlaw := Lib.hid hlaw
          replace hnW := Lib.hid hnW
          by_cases q0 : x0 ≥ 0
          all_goals
            first
              | have q1 : decide (x0 ≥ 0) = true := decide_eq_true q0
              | have q1 : decide (x0 ≥ 0) = false := decide_eq_false q0
            replace q0 := Lib.hid q0
            go_upto_region 9 with (fail)
            have hz1 : Below wr.heap.size wr (wr.alloc (.cells #[.int .i64 x0, .int .i64 x1] 30)) := below_alloc (Below.refl _ wr) _
            have hx1 := heap_alloc_new wr (.cells #[.int .i64 x0, .int .i64 x1] 30)
            have hW1 := Lib.hid (hW.out.below hz1)
            have hB1 := Lib.hid (below_then hB.out hB.out.size hz1)
            have e0 := cell_of_heap (j := 0) hx1 rfl
            have e1 := cell_of_heap (j := 1) hx1 rfl
            replace hx1 := Lib.hid hx1
            have hgx := hW.out.lt
            clear hz1 d0 d1 hW hB
            generalize (wr.alloc (.cells #[.int .i64 x0, .int .i64 x1] 30)) = V1 at hx1 hW1 hB1 e0 e1 ⊢
            generalize wr.heap.size = bx at hx1 e0 e1 hgx ⊢
            replace hgx := Lib.hid hgx
            go_upto_region 11 with (first
              | (go_at_call 15; go_must (refine (stuck_walk hW1.out x0).mono ?_; rintro e w2 ⟨rfl, hW2, hB2⟩; rw [← hsb.out]; have hB2' := Lib.hid (below_bt hB1.out hB2 hB1.out.size hg ht); have hx2 := Lib.hid ((hB2.block bx (blk_lt hx1.out) (by have := hgx.out; omega) (by have := hgx.out; omega)).trans hx1.out); replace hW2 := Lib.hid hW2; clear hB2 e0 e1))
              | (go_at_call 16; go_must (refine (state_walk hW2.out hlen.out.1 hlen.out.2.1 hlen.out.2.2.1 hlen.out.2.2.2).mono ?_; rintro e w3 ⟨gc, cc, gt, ct, rfl, hS3, hgc, hgt, hB3, hcc⟩; have hW3 := Lib.hid (hW2.out.below hB3); have hx3 := Lib.hid (blk_below hx2.out hB3); have hB3' := Lib.hid (below_then hB2'.out hB2'.out.size hB3); have hgc' := Lib.hid (And.intro (Nat.lt_of_lt_of_le hW2.out.lt.2.2.1 hgc) (Nat.lt_of_lt_of_le hW2.out.lt.2.2.2 hgc)); have hgt' := Lib.hid (And.intro (Nat.lt_of_lt_of_le hW2.out.lt.2.2.1 hgt) (Nat.lt_of_lt_of_le hW2.out.lt.2.2.2 hgt)); replace hS3 := Lib.hid hS3; replace hcc := Lib.hid hcc; clear hB3 hgc hgt)))
            have hz3 : Below w3.heap.size w3 (w3.alloc (.cells #[.int .i64 X.kind, .int .i64 X.mode, .int .i64 X.n, .slice (some ⟨gc, 0, none⟩) X.l.length cc, .slice (some ⟨gt, 0, none⟩) X.t.length ct] 35)) := below_alloc (Below.refl _ w3) _
            have hx4 := Lib.hid (blk_below hx3.out hz3)
            have hy4 := Lib.hid (heap_alloc_new w3 (.cells #[.int .i64 X.kind, .int .i64 X.mode, .int .i64 X.n, .slice (some ⟨gc, 0, none⟩) X.l.length cc, .slice (some ⟨gt, 0, none⟩) X.t.length ct] 35))
            have hS4 := Lib.hid (hS3.out.below hz3)
            have hW4 := Lib.hid (hW3.out.below hz3)
            have hB4 := Lib.hid (below_then hB3'.out hB3'.out.size hz3)
            have hgy := Lib.hid hW3.out.lt
            have e0 := cell_of_heap (j := 0) hx4.out rfl
            have e1 := cell_of_heap (j := 1) hx4.out rfl
            clear hz3 hS3 hW3 hB3' hx3 hW2 hB2' hx2 hx1 hW1 hB1
            generalize (w3.alloc (.cells #[.int .i64 X.kind, .int .i64 X.mode, .int .i64 X.n, .slice (some ⟨gc, 0, none⟩) X.l.length cc, .slice (some ⟨gt, 0, none⟩) X.t.length ct] 35)) = V3 at hx4 hy4 hS4 hW4 hB4 e0 e1 ⊢
            generalize w3.heap.size = by_ at hy4 hgy ⊢
            go_upto_region 12 with (go_at_call 17; go_must (refine (hpick.out _ hW4.out).mono ?_; rintro e w5 ⟨nv, rfl, hN, hW5, hB5⟩; have hS5 := Lib.hid (hS4.out.of_blocks (hB5.block gc hS4.out.lt.1 (Nat.ne_of_gt hgc'.out.1) (Nat.ne_of_gt hgc'.out.2)) (hB5.block gt hS4.out.lt.2 (Nat.ne_of_gt hgt'.out.1) (Nat.ne_of_gt hgt'.out.2))); have hy5 := Lib.hid ((hB5.block by_ (blk_lt hy4.out) (Nat.ne_of_gt hgy.out.2.2.1) (Nat.ne_of_gt hgy.out.2.2.2)).trans hy4.out); have hB5' := Lib.hid (below_bt hB4.out hB5 hB4.out.size hg ht); obtain ⟨An, cn, rfl⟩ := Kd.R_slice hN; obtain ⟨nl, hnl⟩ : ∃ nl, nl = ev.notes.length := ⟨_, rfl⟩; rw [← hnl] at hN ⊢; unfold evV; replace hN := Lib.hid hN; replace hnl := Lib.hid hnl; replace hW5 := Lib.hid hW5; clear hB5 e0 e1))
            have hz5 : Below w5.heap.size w5 (w5.alloc (.cells #[.bool ev.ran, .int .i64 ev.acc.kind, .int .i64 ev.acc.cell, .int .u32 ev.acc.x, .int .u32 ev.acc.y, .int .u32 ev.acc.old, .slice An nl cn] 41)) := below_alloc (Below.refl _ w5) _
            have hy6 := Lib.hid (blk_below hy5.out hz5)
            have hu6 := heap_alloc_new w5 (.cells #[.bool ev.ran, .int .i64 ev.acc.kind, .int .i64 ev.acc.cell, .int .u32 ev.acc.x, .int .u32 ev.acc.y, .int .u32 ev.acc.old, .slice An nl cn] 41)
            have hS6 := Lib.hid (hS5.out.below hz5)
            have hW6 := Lib.hid (hW5.out.below hz5)
            have hB6 := Lib.hid (below_then hB5'.out hB5'.out.size hz5)
            have hN6 := Lib.hid (Kd.R_below hN.out hz5)
            have u0 := cell_of_heap (j := 0) hu6 rfl
            have u1 := cell_of_heap (j := 1) hu6 rfl
            have u2 := cell_of_heap (j := 2) hu6 rfl
            have u3 := cell_of_heap (j := 3) hu6 rfl
            have u4 := cell_of_heap (j := 4) hu6 rfl
            have u5 := cell_of_heap (j := 5) hu6 rfl
            have u6 := cell_of_heap (j := 6) hu6 rfl
            replace hu6 := Lib.hid hu6
            clear hz5 hS5 hW5 hB5' hy5 hy4 hS4 hW4 hB4 hx4 hN hpick
            generalize (w5.alloc (.cells #[.bool ev.ran, .int .i64 ev.acc.kind, .int .i64 ev.acc.cell, .int .u32 ev.acc.x, .int .u32 ev.acc.y, .int .u32 ev.acc.old, .slice An nl cn] 41)) = V5 at hu6 hy6 hS6 hW6 hB6 hN6 u0 u1 u2 u3 u4 u5 u6 ⊢
            generalize w5.heap.size = bu at hu6 u0 u1 u2 u3 u4 u5 u6 ⊢
            have hlaw2 := hlaw.out
            clear hlaw
            rcases hlaw2 with ⟨hev, hX⟩ | ⟨hran, hth, hst, hmis, _⟩ | ⟨hev, hth, hst, hX⟩
            rotate_left
            · have q2 : decide (x0 < n) = true := decide_eq_true (by have := hth.2; have := hnW.out; omega)
              have q3 : x0 ≥ 0 := hth.1
              obtain rfl : sb = false := hsb.out.trans hst
              replace hmis := Lib.hid hmis
              clear hth
              first
                | (exfalso; have := q0.out; omega; done)
                | skip
              all_goals
                clear q3
                rw [hran] at u0
                clear hran
                by_cases hl2 : nl = 2
                · subst hl2
                  have hNC := (Kd.R_reads' hN6.out).2.2
                  rw [← hnl.out] at hNC
                  obtain ⟨an, rfl, _, _, _, n3⟩ := at_nk hNC 1 (by decide)
                  have hne : (ev.notes.getD 1 ⟨0, 0, 0, 0⟩).arg ≠ 3 := by
                    intro q
                    have hm := hmis.out
                    unfold misuse at hm
                    rw [← hnl.out, q] at hm
                    exact absurd hm (by decide)
                  generalize (ev.notes.getD 1 ⟨0, 0, 0, 0⟩).arg = y at hne n3
                  have hyb : (y == 3) = false := beq_eq_false_iff_ne.mpr hne
                  replace n3 : V5.cell? ⟨an.block, an.off + 4 + 3, none⟩ = some (.int .i64 y) := n3
                  clear hNC
                  replace hne := Lib.hid hne
                  go_wp2
                  go_roundw
                  case rel => exact ⟨k + 1, by omega, by go_num, Lib.hid (by rw [← hX'.out]; exact hW6.out), hB6⟩
                  case measure => simp [intOf]; omega
                · have hl2b : ((nl : Int) == 2) = false := beq_eq_false_iff_ne.mpr (by omega)
                  replace hl2 := Lib.hid hl2
                  go_wp2
                  go_roundw
                  case rel => exact ⟨k + 1, by omega, by go_num, Lib.hid (by rw [← hX'.out]; exact hW6.out), hB6⟩
                  case measure => simp [intOf]; omega
            all_goals
              clear hl
              subst hev
              replace u0 : V5.cell? ⟨bu, 0, none⟩ = some (.bool _) := u0
              replace u1 : V5.cell? ⟨bu, 1, none⟩ = some (.int .i64 0) := u1
              replace u2 : V5.cell? ⟨bu, 2, none⟩ = some (.int .i64 0) := u2
              replace u3 : V5.cell? ⟨bu, 3, none⟩ = some (.int .u32 0) := u3
              replace u4 : V5.cell? ⟨bu, 4, none⟩ = some (.int .u32 0) := u4
              replace u5 : V5.cell? ⟨bu, 5, none⟩ = some (.int .u32 0) := u5
              replace hW6 := Lib.hid (hX ▸ hW6.out)
              replace hX' := Lib.hid (hX.symm.trans hX'.out)
              clear hX
            · obtain rfl : nl = 2 := hnl.out
              replace u0 : V5.cell? ⟨bu, 0, none⟩ = some (.bool true) := u0
              have q2 : decide (x0 < n) = true := decide_eq_true (by have := hth.2; have := hnW.out; omega)
              first
                | (exfalso; have := q0.out; have := hth.1; omega; done)
                | skip
              all_goals
                clear hth
                obtain rfl : sb = false := hsb.out.trans hst
                clear hst hsb
                have hNC := (Kd.R_reads' hN6.out).2.2
                obtain ⟨an, rfl, _, _, _, n3⟩ := at_nk hNC 1 (Nat.lt_succ_self 1)
                replace n3 : V5.cell? ⟨an.block, an.off + 4 + 3, none⟩ = some (.int .i64 3) := n3
                clear hNC
                replace hX' := Lib.hid hX'.out
                go_upto_region 17 with (go_at_call 16; go_must (refine (state_walk hW6.out hlen.out.1 hlen.out.2.1 hlen.out.2.2.1 hlen.out.2.2.2).mono ?_; rintro e w7 ⟨gd, cd, gu, cu, rfl, hT7, hgd, hgu, hB7, hcd⟩; have hW7 := Lib.hid (hW6.out.below hB7); have hy7 := Lib.hid (blk_below hy6.out hB7); have hu7 := Lib.hid (blk_below hu6.out hB7); have hS7 := Lib.hid (hS6.out.below hB7); have hB7' := Lib.hid (below_then hB6.out hB6.out.size hB7); replace hT7 := Lib.hid hT7; replace hcd := Lib.hid hcd; clear hB7 hgd hgu hW6 hy6 hu6 hS6 hB6 u0 u1 u2 u3 u4 u5 u6))
                have hz7 : Below w7.heap.size w7 (w7.alloc (.cells #[.int .i64 X.kind, .int .i64 X.mode, .int .i64 X.n, .slice (some ⟨gd, 0, none⟩) X.l.length cd, .slice (some ⟨gu, 0, none⟩) X.t.length cu] 35)) := below_alloc (Below.refl _ w7) _
                have hz8 := heap_alloc_new w7 (.cells #[.int .i64 X.kind, .int .i64 X.mode, .int .i64 X.n, .slice (some ⟨gd, 0, none⟩) X.l.length cd, .slice (some ⟨gu, 0, none⟩) X.t.length cu] 35)
                have hy8 := blk_below hy7.out hz7
                have hu8 := blk_below hu7.out hz7
                have hS8 := Lib.hid (hS7.out.below hz7)
                have hT8 := Lib.hid (hT7.out.below hz7)
                have hW8 := Lib.hid (hW7.out.below hz7)
                have hB8 := Lib.hid (below_then hB7'.out hB7'.out.size hz7)
                have y3 := cell_of_heap (j := 3) hy8 rfl
                have z3 := cell_of_heap (j := 3) hz8 rfl
                replace hz8 := Lib.hid hz8
                replace hy8 := Lib.hid hy8
                replace hu8 := Lib.hid hu8
                clear hz7 hS7 hT7 hW7 hB7' hy7 hu7
                generalize (w7.alloc (.cells #[.int .i64 X.kind, .int .i64 X.mode, .int .i64 X.n, .slice (some ⟨gd, 0, none⟩) X.l.length cd, .slice (some ⟨gu, 0, none⟩) X.t.length cu] 35)) = V7 at hz8 hy8 hu8 hS8 hT8 hW8 hB8 y3 z3 ⊢
                generalize w7.heap.size = bz at hz8 z3 ⊢
                go_wp2_with (go_at_call 18; go_must (refine (same_rows hS8.out.cells hT8.out.cells hlen.out.2.1 hcc.out hcd.out).mono ?_; rintro e w9 ⟨rfl, hB9⟩; have hy9 := blk_below hy8.out hB9; have hz9 := blk_below hz8.out hB9; have hu9 := blk_below hu8.out hB9; have y4 := cell_of_heap (j := 4) hy9 rfl; have z4 := cell_of_heap (j := 4) hz9 rfl; have u1 := cell_of_heap (j := 1) hu9 rfl; have u2 := cell_of_heap (j := 2) hu9 rfl; have u3 := cell_of_heap (j := 3) hu9 rfl; have u4 := cell_of_heap (j := 4) hu9 rfl; have u5 := cell_of_heap (j := 5) hu9 rfl; replace hy9 := Lib.hid hy9; replace hz9 := Lib.hid hz9; replace hu9 := Lib.hid hu9; have hS9 := Lib.hid (hS8.out.below hB9); have hT9 := Lib.hid (hT8.out.below hB9); have hW9 := Lib.hid (hW8.out.below hB9); have hB9' := Lib.hid (below_then hB8.out hB8.out.size hB9); clear hB9 hS8 hT8 hW8 hB8 hy8 hz8 hu8 y3 z3))
                replace u1 := Lib.hid u1
                replace u2 := Lib.hid u2
                replace u3 := Lib.hid u3
                replace u4 := Lib.hid u4
                replace u5 := Lib.hid u5
                replace y4 := Lib.hid y4
                replace z4 := Lib.hid z4
                go_loopw [21] (fun i wv => ∃ j : Nat, j ≤ X.t.length ∧ i = .int .i64 j ∧ Hid (Below w9.heap.size w9 wv)) (fun i _ => X.t.length - (intOf i).toNat)
                case atStart => exact ⟨0, Nat.zero_le _, rfl, Lib.hid (Below.refl _ _)⟩
                case round =>
                  obtain ⟨j, hj, rfl, hBj⟩ := hrel
                  have y4j := cell_of_heap (j := 4) (blk_below hy9.out hBj.out) rfl
                  have z4j := cell_of_heap (j := 4) (blk_below hz9.out hBj.out) rfl
                  have hmt := hlen.out.2.2.2
                  by_cases hjt : j < X.t.length
                  · obtain ⟨x, hx⟩ : ∃ x, x = X.t.getD j ⟨0, .zero⟩ := ⟨_, rfl⟩
                    have hs := tk11 (hS9.out.tasks.below hBj.out) hjt x hx
                    have ht := tk11 (hT9.out.tasks.below hBj.out) hjt x hx
                    obtain ⟨s0, s1, s2, s3, s4, s5, s6, s7, s8, s9, s10⟩ := hs
                    obtain ⟨t0, t1, t2, t3, t4, t5, t6, t7, t8, t9, t10⟩ := ht
                    replace hx := Lib.hid hx
                    go_upto_region 22 with (fail)
                    go_quiet (fail)
                    go_wp2
                    go_roundw
                    case rel => exact ⟨j + 1, by omega, by go_num, Lib.hid (pw_below_drewN hBj.out nq)⟩
                    case measure => simp [intOf]; omega
                  · obtain rfl : j = X.t.length := by omega
                    go_wp2
                    go_roundw
                    case rel => exact ⟨k + 1, by omega, by go_num, Lib.hid (by rw [← hX'.out]; exact hW9.out.below hBj.out), Lib.hid (below_then hB9'.out hB9'.out.size hBj.out)⟩
                    case measure => simp [intOf]; omega
            · obtain rfl : nl = 0 := hnl.out
              replace u0 : V5.cell? ⟨bu, 0, none⟩ = some (.bool false) := u0
              clear hsb
              replace hX' := Lib.hid hX'.out
              go_upto_region 17 with (go_at_call 16; go_must (refine (state_walk hW6.out hlen.out.1 hlen.out.2.1 hlen.out.2.2.1 hlen.out.2.2.2).mono ?_; rintro e w7 ⟨gd, cd, gu, cu, rfl, hT7, hgd, hgu, hB7, hcd⟩; have hW7 := Lib.hid (hW6.out.below hB7); have hy7 := Lib.hid (blk_below hy6.out hB7); have hu7 := Lib.hid (blk_below hu6.out hB7); have hS7 := Lib.hid (hS6.out.below hB7); have hB7' := Lib.hid (below_then hB6.out hB6.out.size hB7); replace hT7 := Lib.hid hT7; replace hcd := Lib.hid hcd; clear hB7 hgd hgu hW6 hy6 hu6 hS6 hB6 u0 u1 u2 u3 u4 u5 u6))
              have hz7 : Below w7.heap.size w7 (w7.alloc (.cells #[.int .i64 X.kind, .int .i64 X.mode, .int .i64 X.n, .slice (some ⟨gd, 0, none⟩) X.l.length cd, .slice (some ⟨gu, 0, none⟩) X.t.length cu] 35)) := below_alloc (Below.refl _ w7) _
              have hz8 := heap_alloc_new w7 (.cells #[.int .i64 X.kind, .int .i64 X.mode, .int .i64 X.n, .slice (some ⟨gd, 0, none⟩) X.l.length cd, .slice (some ⟨gu, 0, none⟩) X.t.length cu] 35)
              have hy8 := blk_below hy7.out hz7
              have hu8 := blk_below hu7.out hz7
              have hS8 := Lib.hid (hS7.out.below hz7)
              have hT8 := Lib.hid (hT7.out.below hz7)
              have hW8 := Lib.hid (hW7.out.below hz7)
              have hB8 := Lib.hid (below_then hB7'.out hB7'.out.size hz7)
              have y3 := cell_of_heap (j := 3) hy8 rfl
              have z3 := cell_of_heap (j := 3) hz8 rfl
              replace hz8 := Lib.hid hz8
              replace hy8 := Lib.hid hy8
              replace hu8 := Lib.hid hu8
              clear hz7 hS7 hT7 hW7 hB7' hy7 hu7
              generalize (w7.alloc (.cells #[.int .i64 X.kind, .int .i64 X.mode, .int .i64 X.n, .slice (some ⟨gd, 0, none⟩) X.l.length cd, .slice (some ⟨gu, 0, none⟩) X.t.length cu] 35)) = V7 at hz8 hy8 hu8 hS8 hT8 hW8 hB8 y3 z3 ⊢
              generalize w7.heap.size = bz at hz8 z3 ⊢
              go_wp2_with (go_at_call 18; go_must (refine (same_rows hS8.out.cells hT8.out.cells hlen.out.2.1 hcc.out hcd.out).mono ?_; rintro e w9 ⟨rfl, hB9⟩; have hy9 := blk_below hy8.out hB9; have hz9 := blk_below hz8.out hB9; have hu9 := blk_below hu8.out hB9; have y4 := cell_of_heap (j := 4) hy9 rfl; have z4 := cell_of_heap (j := 4) hz9 rfl; have u1 := cell_of_heap (j := 1) hu9 rfl; have u2 := cell_of_heap (j := 2) hu9 rfl; have u3 := cell_of_heap (j := 3) hu9 rfl; have u4 := cell_of_heap (j := 4) hu9 rfl; have u5 := cell_of_heap (j := 5) hu9 rfl; replace hy9 := Lib.hid hy9; replace hz9 := Lib.hid hz9; replace hu9 := Lib.hid hu9; have hS9 := Lib.hid (hS8.out.below hB9); have hT9 := Lib.hid (hT8.out.below hB9); have hW9 := Lib.hid (hW8.out.below hB9); have hB9' := Lib.hid (below_then hB8.out hB8.out.size hB9); clear hB9 hS8 hT8 hW8 hB8 hy8 hz8 hu8 y3 z3))
              replace u1 := Lib.hid u1
              replace u2 := Lib.hid u2
              replace u3 := Lib.hid u3
              replace u4 := Lib.hid u4
              replace u5 := Lib.hid u5
              replace y4 := Lib.hid y4
              replace z4 := Lib.hid z4
              go_loopw [21] (fun i wv => ∃ j : Nat, j ≤ X.t.length ∧ i = .int .i64 j ∧ Hid (Below w9.heap.size w9 wv)) (fun i _ => X.t.length - (intOf i).toNat)
              case atStart => exact ⟨0, Nat.zero_le _, rfl, Lib.hid (Below.refl _ _)⟩
              case round =>
                obtain ⟨j, hj, rfl, hBj⟩ := hrel
                have y4j := cell_of_heap (j := 4) (blk_below hy9.out hBj.out) rfl
                have z4j := cell_of_heap (j := 4) (blk_below hz9.out hBj.out) rfl
                have hmt := hlen.out.2.2.2
                by_cases hjt : j < X.t.length
                · obtain ⟨x, hx⟩ : ∃ x, x = X.t.getD j ⟨0, .zero⟩ := ⟨_, rfl⟩
                  have hs := tk11 (hS9.out.tasks.below hBj.out) hjt x hx
                  have ht := tk11 (hT9.out.tasks.below hBj.out) hjt x hx
                  obtain ⟨s0, s1, s2, s3, s4, s5, s6, s7, s8, s9, s10⟩ := hs
                  obtain ⟨t0, t1, t2, t3, t4, t5, t6, t7, t8, t9, t10⟩ := ht
                  replace hx := Lib.hid hx
                  go_upto_region 22 with (fail)
                  go_quiet (fail)
                  go_wp2
                  go_roundw
                  case rel => exact ⟨j + 1, by omega, by go_num, Lib.hid (pw_below_drewN hBj.out nq)⟩
                  case measure => simp [intOf]; omega
                · obtain rfl : j = X.t.length := by omega
                  go_wp2
                  go_roundw
                  case rel => exact ⟨k + 1, by omega, by go_num, Lib.hid (by rw [← hX'.out]; exact hW9.out.below hBj.out), Lib.hid (below_then hB9'.out hB9'.out.size hBj.out)⟩
                  case measure => simp [intOf]; omega
        · obtain rfl : m = k := by omega
          go_wp2_with (go_at_call 14; go_must (refine (awake_walk _).mono ?_; rintro e w2 ⟨rfl, hB2⟩; replace hB2 := Lib.hid (below_then hB.out hB.out.size hB2)))
          go_ret
          exact ⟨rfl, hB2.out⟩
  · have hnew := new_no kind mode n base hgood w
    have hmax := Kd.C_max hC
    generalize l.length = m at *
    replace hnew := Lib.hid hnew
    clear hC hgood
    go_enter Tryz.func3, Tryz.ntmps3
    go_wp2_with (first
      | (go_at_call 13; go_must (refine hnew.out.mono ?_; rintro e w1 ⟨er, her, rfl, hB⟩; replace hB := Lib.hid hB))
      | (go_at_call 14; go_must (refine (awake_walk _).mono ?_; rintro e w2 ⟨rfl, hB2⟩; replace hB2 := Lib.hid (below_then hB.out hB.out.size hB2))))
    go_ret
    exact ⟨rfl, hB2.out⟩

end Go.Proofs.YtkmlefbdhdlfmaaGreat.Wo
