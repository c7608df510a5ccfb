/- The law StarveWaits: walk. -/
import Derived.Test.YtkmlefbdhdlfmaaGreatLw
import Derived.Test.YtkmlefbdhdlfmaaGreatSwt
namespace Go.Proofs.YtkmlefbdhdlfmaaGreat.Wo
open Go.RowKit Go.Proofs.YtkmlefbdhdlfmaaGreatW.PrintWords Go.Proofs.YtkmlefbdhdlfmaaGreatW.PrintMore Go.Proofs.YtkmlefbdhdlfmaaGreatW.PrintLast
open Stile
set_option linter.unusedSimpArgs false
set_option linter.unusedVariables false
set_option maxRecDepth 100000
variable {w w1 w2 w0 V V1 : World} {a pm g t kf n b B p cap gc gt mb : Nat} {W : Stile.W} {ok : Nat → Prop}
abbrev pk2 : Kd (Int × Int) := Kd.pair (Kd.int .i64) (Kd.int .i64)
theorem pk2_K {x : Int × Int} {cs : List Value} (h : pk2.K w x cs) : cs = [.int .i64 x.1, .int .i64 x.2] := by
 obtain ⟨_, _, rfl, rfl, rfl⟩ := h
 rfl
theorem at_pk2 {A : Option Addr} {xs : List (Int × Int)} (h : pk2.C w A n xs) (k : Nat) (hk : k < n) : ∃ ad x, A = some ad ∧ xs[k]? = some x ∧ w.cell? (ad.add (k * 2)) = some (.int .i64 x.1) ∧ w.cell? ⟨(ad.add (k * 2)).block, (ad.add (k * 2)).off + 1, none⟩ = some (.int .i64 x.2) := by
 have hn := h.1
 obtain ⟨ad, c, e, _, hK, hc0⟩ := Kd.C_get h (0, 0) (k : Int) (by omega) (by omega)
 have hc : ∀ j u, c[j]? = some u → w.cell? (ad.add (k * 2 + j)) = some u := hc0
 obtain rfl := pk2_K hK
 have hx : xs[k]? = some (xs.getD (k : Int).toNat (0, 0)) := by
  rw [Int.toNat_natCast, List.getD_eq_getElem?_getD, List.getElem?_eq_getElem (by omega)]
  rfl
 refine ⟨ad, _, e, hx, hc 0 _ rfl, ?_⟩
 rw [← add_field _ _ 1 (by omega)]
 exact hc 1 _ rfl
theorem below_bt2 (h : Below B w w1) (hb : Bt g t w1 w2) (hs : B ≤ w1.heap.size) (hg : B ≤ g) (ht : B ≤ t) : Below B w w2 :=
 ⟨hb.os.trans h.os, hb.tape.trans h.tape, hb.output.trans h.output, Nat.le_trans h.size hb.size, fun k hk => (hb.block k (Nat.lt_of_lt_of_le hk hs) (by omega) (by omega)).trans (h.block k hk)⟩
theorem filt_next {xs : List Note} {p : Note → Bool} {j : Nat} (h : j < xs.length) : ((xs.take (j + 1)).filter p).length = ((xs.take j).filter p).length + if p (xs.getD j ⟨0, 0, 0, 0⟩) = true then 1 else 0 := by
 have e : xs[j]? = some (xs.getD j ⟨0, 0, 0, 0⟩) := by simp [List.getD_eq_getElem?_getD, h]
 rw [List.take_add_one, e, List.filter_append, List.length_append]
 congr 1
 by_cases q : p (xs.getD j ⟨0, 0, 0, 0⟩) = true
 ·rw [if_pos q]; simp only [Option.toList, List.filter_cons, q, if_true]; rfl
 ·rw [if_neg q]; simp only [Option.toList, List.filter_cons, q]; rfl
def u8ok2 (x : Int) : Prop := 0 ≤ x ∧ x ≤ 255
theorem u8_wf2 {x : Int} (h : (Lit.int .u8 x).wf = true) : u8ok2 x := by
 have h1 : (decide (IntKind.u8.min ≤ x) && decide (x ≤ IntKind.u8.max)) = true := h
 rw [Bool.and_eq_true, decide_eq_true_eq, decide_eq_true_eq] at h1
 have e0 : IntKind.u8.min = 0 := by decide
 have e1 : IntKind.u8.max = 255 := by decide
 unfold u8ok2
 omega
theorem awake25_walk (w : World) : Calls Tryz.prog 35 #[] w fun e w' => e = .returned (.bool true) ∧ Below w.heap.size w w' := by
 have h := fun w => Stv.script5_walk 0 (by decide) w
 have e : (Stv.script5 0).length = 38 := by decide
 rw [e] at h
 replace h := Lib.hid h
 go_enter Tryz.func35, Tryz.ntmps35
 go_wp2_with (go_at_call 34; go_must (refine (h.out _).mono ?_; rintro e w1 ⟨A, c, rfl, _, _, hB⟩; replace hB := Lib.hid hB))
 go_ret
 exact ⟨rfl, hB.out⟩
set_option maxHeartbeats 8000000 in
theorem waits5 (mode base rounds : Int) (hmd : u8ok2 mode) (hb : W32 base) (hrd : u8ok2 rounds) (w : World) : Calls Tryz.prog 11 #[.bool false, .int .u8 mode, .int .u32 base, .int .u8 rounds] w fun e w' => e = .returned (.bool true) ∧ Below w.heap.size w w' := by
 unfold u8ok2 at hmd hrd
 have hm1 : 1 + mode % 2 = 1 ∨ 1 + mode % 2 = 2 := by omega
 obtain ⟨N, hN⟩ : ∃ N : Nat, (N : Int) = rounds % 61 := ⟨(rounds % 61).toNat, by omega⟩
 have hN6 : N ≤ 60 := by omega
 have hscr := fun w => Stv.script5_walk N (by omega) w
 have hnew := fun w => new_run 5 (1 + mode % 2) 3 base (by decide) hm1 (by decide) hb w
 have hG0 := newW_good 5 (1 + mode % 2) 3 base (by decide) hm1 (by decide) hb
 have hall := Stv.all5 (1 + mode % 2) base hm1 N
 have hend := Stv.end5 (1 + mode % 2)
 obtain ⟨WE, hWE⟩ : ∃ WE, WE = Stv.S5 (1 + mode % 2) := ⟨_, rfl⟩
 rw [← hWE] at hall hend
 have hlen := Stv.script5_len N
 obtain ⟨W0, hW0⟩ : ∃ W0, W0 = newW 5 (1 + mode % 2) 3 base := ⟨_, rfl⟩
 obtain ⟨l, hl⟩ : ∃ l, l = Stv.script5 N := ⟨_, rfl⟩
 rw [← hW0] at hG0
 simp only [← hW0] at hnew
 rw [← hW0, ← hl] at hall
 simp only [← hl] at hscr
 rw [← hl] at hlen
 have hpre := fun k p hp => Stv.pre_ok 1 W0 l (by rw [hall]) k p hp
 have htot : (Stv.runB 1 W0 l).2.2 = 1 + 2 * N := by rw [hall]
 have hfin : (Stv.runB 1 W0 l).1 = WE := by rw [hall]
 have hGk : ∀ k, Stile.Good (Stv.runB 1 W0 (l.take k)).1 := by
  have h0 : ∀ (ps : List (Int × Int)) (w : Stile.W), Stile.Good w → Stile.Good (Stv.runB 1 w ps).1 := by
   intro ps
   induction ps with
   | nil => intro w h; exact h
   | cons x ps ih => intro w h; exact ih _ (pick_good h x.1 x.2)
  exact fun k => h0 _ _ hG0
 obtain ⟨m, hm⟩ : ∃ m, m = l.length := ⟨_, rfl⟩
 simp only [← hm] at hscr
 rw [← hm] at hlen
 have hmax : m ≤ 20000 := by omega
 clear hall hlen
 replace hscr := Lib.hid hscr
 replace hnew := Lib.hid hnew
 replace hG0 := Lib.hid hG0
 replace hpre := Lib.hid hpre
 replace htot := Lib.hid htot
 replace hfin := Lib.hid hfin
 replace hGk := Lib.hid hGk
 replace hend := Lib.hid hend
 replace hW0 := Lib.hid hW0
 replace hWE := Lib.hid hWE
 replace hl := Lib.hid hl
 replace hm := Lib.hid hm
 replace hm1 := Lib.hid hm1
 replace hb := Lib.hid hb
 go_enter Tryz.func11, Tryz.ntmps11
 go_upto_region 5 with (fail)
 rw [← hN]
 replace hN := Lib.hid hN
 go_upto_region 6 with (go_at_call 34; go_must (refine (hscr.out _).mono ?_; rintro e w1 ⟨A, c, rfl, _, hC, hB1⟩; replace hC := Lib.hid hC; replace hB1 := Lib.hid hB1; clear hscr))
 go_upto_region 11 with (go_at_call 13; go_must (refine (hnew.out _).mono ?_; rintro e w8 ⟨a, pm, g, t, kf, rfl, hW, hB, ha, hp, hg, ht⟩; replace hW := Lib.hid hW; replace hB := Lib.hid hB; clear hnew hmd hrd))
 go_loopw [18, 17] (fun i c wr => ∃ k cn : Nat, k ≤ m ∧ cn ≤ 121 ∧ i = .int .i64 k ∧ c = .int .i64 cn ∧ Hid (cn = (Stv.runB 1 W0 (l.take k)).2.2) ∧ Hid (Wd wr a pm g t kf (Stv.runB 1 W0 (l.take k)).1) ∧ Hid (Below w1.heap.size w1 wr)) (fun i _ _ => m - (intOf i).toNat)
 case atStart => exact ⟨0, 0, Nat.zero_le _, Nat.zero_le _, rfl, rfl, Lib.hid rfl, hW, hB⟩
 case round =>
  clear hW hB
  obtain ⟨k, cn, hkm, hcn, rfl, rfl, hcnt, hW, hB⟩ := hrel
  by_cases hlt : k < m
  ·obtain ⟨ad, x, rfl, hx, d0, d1⟩ := at_pk2 (Kd.C_below hC.out hB.out) k hlt
   obtain ⟨x0, x1⟩ := x
   obtain ⟨hokn, hnext, hbnd⟩ := hpre.out k (x0, x1) hx
   have hnc : (Stv.runB 1 W0 (l.take (k + 1))).2.2 = (Stv.runB 1 W0 (l.take k)).2.2 + ((pick (Stv.runB 1 W0 (l.take k)).1 x0 x1).1.notes.filter (Stv.isN 1)).length := congrArg (fun q => q.2.2) hnext
   have hnw : (Stv.runB 1 W0 (l.take (k + 1))).1 = (pick (Stv.runB 1 W0 (l.take k)).1 x0 x1).2 := congrArg (fun q => q.1) hnext
   have hGx := hGk.out k
   have hpick := fun (w' : World) (h : Wd w' a pm g t kf (Stv.runB 1 W0 (l.take k)).1) => pick_run h hGx x0 x1
   rw [← hcnt.out] at hnc
   have htb : (Stv.runB 1 W0 (l.take (k + 1))).2.2 ≤ 121 := by have := htot.out; omega
   obtain ⟨ev, hev⟩ : ∃ ev, ev = (pick (Stv.runB 1 W0 (l.take k)).1 x0 x1).1 := ⟨_, rfl⟩
   simp only [← hev, ← hnw] at hpick
   replace hokn : ev.notes.all Stv.okN = true := by rw [hev]; exact hokn
   rw [← hev] at hnc
   replace hpick := Lib.hid hpick
   replace hnc := Lib.hid hnc
   replace hokn := Lib.hid hokn
   replace htb := Lib.hid htb
   replace hx := Lib.hid hx
   clear hnext hbnd hnw hGx hev
   go_upto_region 14 with (go_at_call 17; go_must (refine (hpick.out _ hW.out).mono ?_; rintro e w5 ⟨nv, rfl, hR5, hW5, hB5⟩; have hB5' := Lib.hid (below_bt2 hB.out hB5 hB.out.size hg ht); obtain ⟨An, cp, rfl⟩ := Kd.R_slice hR5; have hN5 := Lib.hid (Kd.R_reads' hR5).2.2; obtain ⟨nl, hnl⟩ : ∃ nl, nl = ev.notes.length := ⟨_, rfl⟩; rw [← hnl] at hN5 ⊢; unfold evV; replace hnl := Lib.hid hnl; replace hW5 := Lib.hid hW5; clear hR5 hB5 hW hB))
   have hz5 : Below w5.heap.size w5 (w5.alloc (.cells #[.bool ev.ran, .int .i64 ev.acc.kind, .int .i64 ev.acc.cell, .int .u32 ev.acc.x, .int .u32 ev.acc.y, .int .u32 ev.acc.old, .slice An nl cp] 41)) := below_alloc (Below.refl _ w5) _
   have hu6 := heap_alloc_new w5 (.cells #[.bool ev.ran, .int .i64 ev.acc.kind, .int .i64 ev.acc.cell, .int .u32 ev.acc.x, .int .u32 ev.acc.y, .int .u32 ev.acc.old, .slice An nl cp] 41)
   have hW6 := Lib.hid (hW5.out.below hz5)
   have hB6 := Lib.hid (below_then hB5'.out hB5'.out.size hz5)
   have hN6 := Lib.hid (Kd.C_below hN5.out hz5)
   have hmx := Kd.C_max hN6.out
   replace hu6 := Lib.hid hu6
   clear hz5 hW5 hB5' hN5 hpick d0 d1
   generalize (w5.alloc (.cells #[.bool ev.ran, .int .i64 ev.acc.kind, .int .i64 ev.acc.cell, .int .u32 ev.acc.x, .int .u32 ev.acc.y, .int .u32 ev.acc.old, .slice An nl cp] 41)) = V5 at hu6 hW6 hB6 hN6 ⊢
   generalize w5.heap.size = bu at hu6 ⊢
   go_upto_region 15 with (fail)
   go_loopw [20, 17] (fun i c wv => ∃ j cj : Nat, j ≤ nl ∧ cj ≤ 121 ∧ i = .int .i64 j ∧ c = .int .i64 cj ∧ Hid (cj = cn + ((ev.notes.take j).filter (Stv.isN 1)).length) ∧ Hid (Below V5.heap.size V5 wv)) (fun i _ _ => nl - (intOf i).toNat)
   case atStart => exact ⟨0, cn, Nat.zero_le _, hcn, rfl, rfl, Lib.hid rfl, Lib.hid (Below.refl _ _)⟩
   case round =>
    obtain ⟨j, cj, hj, hcj, rfl, rfl, hcc, hBj⟩ := hrel
    have u6 := cell_of_heap (j := 6) (blk_below hu6.out hBj.out) rfl
    by_cases hjl : j < nl
    ·obtain ⟨an, rfl, s0, s1, s2, s3⟩ := at_nk (Kd.C_below hN6.out hBj.out) j hjl
     have hjn : j < ev.notes.length := by rw [← hnl.out]; exact hjl
     obtain ⟨y, hy⟩ : ∃ y, y = ev.notes.getD j ⟨0, 0, 0, 0⟩ := ⟨_, rfl⟩
     have hyo : Stv.okN y = true := by
      have hmem : y ∈ ev.notes := by
       rw [hy, List.getD_eq_getElem?_getD, List.getElem?_eq_getElem hjn]
       exact List.getElem_mem hjn
      exact List.all_eq_true.1 hokn.out y hmem
     have hfn := filt_next (p := Stv.isN 1) hjn
     rw [← hy] at s0 s1 s2 s3 hfn
     have hle : ((ev.notes.take (j + 1)).filter (Stv.isN 1)).length ≤ (ev.notes.filter (Stv.isN 1)).length := ((List.take_sublist (j + 1) ev.notes).filter _).length_le
     have hcb : cj + (if Stv.isN 1 y = true then 1 else 0) ≤ 121 := by have h1 := hcc.out; have h2 := hnc.out; have h3 := htb.out; omega
     have hcc' : cj + (if Stv.isN 1 y = true then 1 else 0) = cn + ((ev.notes.take (j + 1)).filter (Stv.isN 1)).length := by have h1 := hcc.out; omega
     clear hle hfn
     obtain ⟨yt, yw, yo, ya⟩ := y
     replace s0 : wr.cell? (an.add (j * 4)) = some (.int .i64 yt) := s0
     replace s1 : wr.cell? ⟨(an.add (j * 4)).block, (an.add (j * 4)).off + 1, none⟩ = some (.int .i64 yw) := s1
     replace s2 : wr.cell? ⟨(an.add (j * 4)).block, (an.add (j * 4)).off + 2, none⟩ = some (.int .i64 yo) := s2
     replace s3 : wr.cell? ⟨(an.add (j * 4)).block, (an.add (j * 4)).off + 3, none⟩ = some (.int .i64 ya) := s3
     replace hy := Lib.hid hy
     replace hjn := Lib.hid hjn
     go_upto_region 18 with (fail)
     have hz : Below wr.heap.size wr (wr.alloc (.cells #[.int .i64 yt, .int .i64 yw, .int .i64 yo, .int .i64 ya] 44)) := below_alloc (Below.refl _ wr) _
     have hxx := heap_alloc_new wr (.cells #[.int .i64 yt, .int .i64 yw, .int .i64 yo, .int .i64 ya] 44)
     have hBn := Lib.hid (below_then hBj.out hBj.out.size hz)
     have e0 := cell_of_heap (j := 0) hxx rfl
     have e1 := cell_of_heap (j := 1) hxx rfl
     have e2 := cell_of_heap (j := 2) hxx rfl
     have e3 := cell_of_heap (j := 3) hxx rfl
     replace hxx := Lib.hid hxx
     clear hz s0 s1 s2 s3 u6 hBj
     generalize wr.alloc (.cells #[.int .i64 yt, .int .i64 yw, .int .i64 yo, .int .i64 ya] 44) = V9 at hxx hBn e0 e1 e2 e3 ⊢
     generalize wr.heap.size = bn at hxx e0 e1 e2 e3 ⊢
     by_cases hw : yw = 11
     ·subst hw
      have ht0 : (yt == 0) = false := by
       cases hq : (yt == 0)
       ·rfl
       ·rw [beq_iff_eq] at hq
        subst hq
        exact absurd hyo (by unfold Stv.okN; simp)
      by_cases ho : yo = 1
      ·subst ho
       by_cases hr : ya = 2
       ·subst hr
        have hi : Stv.isN 1 ⟨yt, 11, 1, 2⟩ = true := rfl
        rw [if_pos hi] at hcb hcc'
        replace hcc' := Lib.hid hcc'
        clear hi hyo hcc
        go_wp2
        go_roundw
        case rel => exact ⟨j + 1, cj + 1, by omega, hcb, by go_num, by go_num, hcc', hBn⟩
        case measure => simp [intOf]; omega
       ·have hab : (ya == 2) = false := beq_eq_false_iff_ne.mpr hr
        have hi : ¬ Stv.isN 1 ⟨yt, 11, 1, ya⟩ = true := by unfold Stv.isN; simp [hr]
        rw [if_neg hi] at hcc'
        replace hcc' := Lib.hid hcc'
        clear hi hyo hcc hcb hr
        go_wp2
        go_roundw
        case rel => exact ⟨j + 1, cj, by omega, hcj, by go_num, rfl, hcc', hBn⟩
        case measure => simp [intOf]; omega
      ·have hob : (yo == 1) = false := beq_eq_false_iff_ne.mpr ho
       have hi : ¬ Stv.isN 1 ⟨yt, 11, yo, ya⟩ = true := by unfold Stv.isN; simp [ho]
       rw [if_neg hi] at hcc'
       replace hcc' := Lib.hid hcc'
       clear hi hyo hcc hcb ho
       go_wp2
       go_roundw
       case rel => exact ⟨j + 1, cj, by omega, hcj, by go_num, rfl, hcc', hBn⟩
       case measure => simp [intOf]; omega
     ·have hwb : (yw == 11) = false := beq_eq_false_iff_ne.mpr hw
      have hi : ¬ Stv.isN 1 ⟨yt, yw, yo, ya⟩ = true := by unfold Stv.isN; simp [hw]
      rw [if_neg hi] at hcc'
      replace hcc' := Lib.hid hcc'
      clear hi hyo hcc hcb hw
      go_wp2
      go_roundw
      case rel => exact ⟨j + 1, cj, by omega, hcj, by go_num, rfl, hcc', hBn⟩
      case measure => simp [intOf]; omega
    ·obtain rfl : nl = j := by omega
     have hce : cj = (Stv.runB 1 W0 (l.take (k + 1))).2.2 := by
      have h1 := hcc.out
      rw [hnl.out, List.take_length] at h1
      rw [hnc.out, h1]
     replace hce := Lib.hid hce
     go_wp2
     go_roundw
     case rel => exact ⟨k + 1, cj, by omega, hcj, by go_num, rfl, hce, Lib.hid (hW6.out.below hBj.out), Lib.hid (below_then hB6.out hB6.out.size hBj.out)⟩
     case measure => simp [intOf]; omega
  ·obtain rfl : m = k := by omega
   have hall : l.take m = l := by rw [hm.out, List.take_length]
   have hW' := hW.out
   have hc' := hcnt.out
   rw [hall] at hW' hc'
   rw [hfin.out] at hW'
   rw [htot.out] at hc'
   have hce : (cn : Int) = 1 + 2 * (N : Int) := by omega
   replace hW' := Lib.hid hW'
   obtain ⟨f0, f1, f2, f3⟩ := hend.out
   have hcb : ((cn : Int) == 1 + 2 * (N : Int)) = true := by rw [hce]; exact beq_self_eq_true _
   replace hce := Lib.hid hce
   replace f0 := Lib.hid f0
   replace f1 := Lib.hid f1
   replace f2 := Lib.hid f2
   replace f3 := Lib.hid f3
   clear hW hcnt hc'
   go_wp2_with (first
    | (go_at_call 22; go_must (refine (busy_walk hW'.out _).mono ?_; rintro e w4 ⟨rfl, rfl⟩; rw [f0.out]))
    | (go_at_call 21; go_must (refine (hold_walk hW'.out _).mono ?_; rintro e w4 ⟨rfl, rfl⟩; first | rw [f1.out] | rw [f2.out] | rw [f3.out]))
    | (go_at_call 35; go_must (refine (awake25_walk _).mono ?_; rintro e w11 ⟨rfl, hB12⟩; have hB13 := Lib.hid (below_then hB.out hB.out.size hB12))))
   go_ret
   exact ⟨rfl, below_then hB1.out hB1.out.size hB13.out⟩
set_option maxHeartbeats 8000000 in
theorem waits6 (mode base rounds : Int) (hmd : u8ok2 mode) (hb : W32 base) (hrd : u8ok2 rounds) (w : World) : Calls Tryz.prog 11 #[.bool true, .int .u8 mode, .int .u32 base, .int .u8 rounds] w fun e w' => e = .returned (.bool true) ∧ Below w.heap.size w w' := by
 unfold u8ok2 at hmd hrd
 have hm1 : 1 + mode % 2 = 1 ∨ 1 + mode % 2 = 2 := by omega
 obtain ⟨N, hN⟩ : ∃ N : Nat, (N : Int) = rounds % 61 := ⟨(rounds % 61).toNat, by omega⟩
 have hN6 : N ≤ 60 := by omega
 have hscr := fun w => Stv.script6_walk N (by omega) w
 have hnew := fun w => new_run 6 (1 + mode % 2) 3 base (by decide) hm1 (by decide) hb w
 have hG0 := newW_good 6 (1 + mode % 2) 3 base (by decide) hm1 (by decide) hb
 obtain ⟨tt, aa, hall⟩ := Stv.all6 (1 + mode % 2) base hm1 N hN6
 have hend := Stv.end6 (1 + mode % 2) tt aa
 obtain ⟨WE, hWE⟩ : ∃ WE, WE = Stv.S6 (1 + mode % 2) tt aa := ⟨_, rfl⟩
 rw [← hWE] at hall hend
 have hlen := Stv.script6_len N
 obtain ⟨W0, hW0⟩ : ∃ W0, W0 = newW 6 (1 + mode % 2) 3 base := ⟨_, rfl⟩
 obtain ⟨l, hl⟩ : ∃ l, l = Stv.script6 N := ⟨_, rfl⟩
 rw [← hW0] at hG0
 simp only [← hW0] at hnew
 rw [← hW0, ← hl] at hall
 simp only [← hl] at hscr
 rw [← hl] at hlen
 have hpre := fun k p hp => Stv.pre_ok 3 W0 l (by rw [hall]) k p hp
 have htot : (Stv.runB 3 W0 l).2.2 = 1 + 2 * N := by rw [hall]
 have hfin : (Stv.runB 3 W0 l).1 = WE := by rw [hall]
 have hGk : ∀ k, Stile.Good (Stv.runB 3 W0 (l.take k)).1 := by
  have h0 : ∀ (ps : List (Int × Int)) (w : Stile.W), Stile.Good w → Stile.Good (Stv.runB 3 w ps).1 := by
   intro ps
   induction ps with
   | nil => intro w h; exact h
   | cons x ps ih => intro w h; exact ih _ (pick_good h x.1 x.2)
  exact fun k => h0 _ _ hG0
 obtain ⟨m, hm⟩ : ∃ m, m = l.length := ⟨_, rfl⟩
 simp only [← hm] at hscr
 rw [← hm] at hlen
 have hmax : m ≤ 20000 := by omega
 clear hall hlen
 replace hscr := Lib.hid hscr
 replace hnew := Lib.hid hnew
 replace hG0 := Lib.hid hG0
 replace hpre := Lib.hid hpre
 replace htot := Lib.hid htot
 replace hfin := Lib.hid hfin
 replace hGk := Lib.hid hGk
 replace hend := Lib.hid hend
 replace hW0 := Lib.hid hW0
 replace hWE := Lib.hid hWE
 replace hl := Lib.hid hl
 replace hm := Lib.hid hm
 replace hm1 := Lib.hid hm1
 replace hb := Lib.hid hb
 go_enter Tryz.func11, Tryz.ntmps11
 go_upto_region 5 with (fail)
 rw [← hN]
 replace hN := Lib.hid hN
 go_upto_region 6 with (go_at_call 34; go_must (refine (hscr.out _).mono ?_; rintro e w1 ⟨A, c, rfl, _, hC, hB1⟩; replace hC := Lib.hid hC; replace hB1 := Lib.hid hB1; clear hscr))
 go_upto_region 11 with (go_at_call 13; go_must (refine (hnew.out _).mono ?_; rintro e w8 ⟨a, pm, g, t, kf, rfl, hW, hB, ha, hp, hg, ht⟩; replace hW := Lib.hid hW; replace hB := Lib.hid hB; clear hnew hmd hrd))
 go_loopw [18, 17] (fun i c wr => ∃ k cn : Nat, k ≤ m ∧ cn ≤ 121 ∧ i = .int .i64 k ∧ c = .int .i64 cn ∧ Hid (cn = (Stv.runB 3 W0 (l.take k)).2.2) ∧ Hid (Wd wr a pm g t kf (Stv.runB 3 W0 (l.take k)).1) ∧ Hid (Below w1.heap.size w1 wr)) (fun i _ _ => m - (intOf i).toNat)
 case atStart => exact ⟨0, 0, Nat.zero_le _, Nat.zero_le _, rfl, rfl, Lib.hid rfl, hW, hB⟩
 case round =>
  clear hW hB
  obtain ⟨k, cn, hkm, hcn, rfl, rfl, hcnt, hW, hB⟩ := hrel
  by_cases hlt : k < m
  ·obtain ⟨ad, x, rfl, hx, d0, d1⟩ := at_pk2 (Kd.C_below hC.out hB.out) k hlt
   obtain ⟨x0, x1⟩ := x
   obtain ⟨hokn, hnext, hbnd⟩ := hpre.out k (x0, x1) hx
   have hnc : (Stv.runB 3 W0 (l.take (k + 1))).2.2 = (Stv.runB 3 W0 (l.take k)).2.2 + ((pick (Stv.runB 3 W0 (l.take k)).1 x0 x1).1.notes.filter (Stv.isN 3)).length := congrArg (fun q => q.2.2) hnext
   have hnw : (Stv.runB 3 W0 (l.take (k + 1))).1 = (pick (Stv.runB 3 W0 (l.take k)).1 x0 x1).2 := congrArg (fun q => q.1) hnext
   have hGx := hGk.out k
   have hpick := fun (w' : World) (h : Wd w' a pm g t kf (Stv.runB 3 W0 (l.take k)).1) => pick_run h hGx x0 x1
   rw [← hcnt.out] at hnc
   have htb : (Stv.runB 3 W0 (l.take (k + 1))).2.2 ≤ 121 := by have := htot.out; omega
   obtain ⟨ev, hev⟩ : ∃ ev, ev = (pick (Stv.runB 3 W0 (l.take k)).1 x0 x1).1 := ⟨_, rfl⟩
   simp only [← hev, ← hnw] at hpick
   replace hokn : ev.notes.all Stv.okN = true := by rw [hev]; exact hokn
   rw [← hev] at hnc
   replace hpick := Lib.hid hpick
   replace hnc := Lib.hid hnc
   replace hokn := Lib.hid hokn
   replace htb := Lib.hid htb
   replace hx := Lib.hid hx
   clear hnext hbnd hnw hGx hev
   go_upto_region 14 with (go_at_call 17; go_must (refine (hpick.out _ hW.out).mono ?_; rintro e w5 ⟨nv, rfl, hR5, hW5, hB5⟩; have hB5' := Lib.hid (below_bt2 hB.out hB5 hB.out.size hg ht); obtain ⟨An, cp, rfl⟩ := Kd.R_slice hR5; have hN5 := Lib.hid (Kd.R_reads' hR5).2.2; obtain ⟨nl, hnl⟩ : ∃ nl, nl = ev.notes.length := ⟨_, rfl⟩; rw [← hnl] at hN5 ⊢; unfold evV; replace hnl := Lib.hid hnl; replace hW5 := Lib.hid hW5; clear hR5 hB5 hW hB))
   have hz5 : Below w5.heap.size w5 (w5.alloc (.cells #[.bool ev.ran, .int .i64 ev.acc.kind, .int .i64 ev.acc.cell, .int .u32 ev.acc.x, .int .u32 ev.acc.y, .int .u32 ev.acc.old, .slice An nl cp] 41)) := below_alloc (Below.refl _ w5) _
   have hu6 := heap_alloc_new w5 (.cells #[.bool ev.ran, .int .i64 ev.acc.kind, .int .i64 ev.acc.cell, .int .u32 ev.acc.x, .int .u32 ev.acc.y, .int .u32 ev.acc.old, .slice An nl cp] 41)
   have hW6 := Lib.hid (hW5.out.below hz5)
   have hB6 := Lib.hid (below_then hB5'.out hB5'.out.size hz5)
   have hN6 := Lib.hid (Kd.C_below hN5.out hz5)
   have hmx := Kd.C_max hN6.out
   replace hu6 := Lib.hid hu6
   clear hz5 hW5 hB5' hN5 hpick d0 d1
   generalize (w5.alloc (.cells #[.bool ev.ran, .int .i64 ev.acc.kind, .int .i64 ev.acc.cell, .int .u32 ev.acc.x, .int .u32 ev.acc.y, .int .u32 ev.acc.old, .slice An nl cp] 41)) = V5 at hu6 hW6 hB6 hN6 ⊢
   generalize w5.heap.size = bu at hu6 ⊢
   go_upto_region 15 with (fail)
   go_loopw [20, 17] (fun i c wv => ∃ j cj : Nat, j ≤ nl ∧ cj ≤ 121 ∧ i = .int .i64 j ∧ c = .int .i64 cj ∧ Hid (cj = cn + ((ev.notes.take j).filter (Stv.isN 3)).length) ∧ Hid (Below V5.heap.size V5 wv)) (fun i _ _ => nl - (intOf i).toNat)
   case atStart => exact ⟨0, cn, Nat.zero_le _, hcn, rfl, rfl, Lib.hid rfl, Lib.hid (Below.refl _ _)⟩
   case round =>
    obtain ⟨j, cj, hj, hcj, rfl, rfl, hcc, hBj⟩ := hrel
    have u6 := cell_of_heap (j := 6) (blk_below hu6.out hBj.out) rfl
    by_cases hjl : j < nl
    ·obtain ⟨an, rfl, s0, s1, s2, s3⟩ := at_nk (Kd.C_below hN6.out hBj.out) j hjl
     have hjn : j < ev.notes.length := by rw [← hnl.out]; exact hjl
     obtain ⟨y, hy⟩ : ∃ y, y = ev.notes.getD j ⟨0, 0, 0, 0⟩ := ⟨_, rfl⟩
     have hyo : Stv.okN y = true := by
      have hmem : y ∈ ev.notes := by
       rw [hy, List.getD_eq_getElem?_getD, List.getElem?_eq_getElem hjn]
       exact List.getElem_mem hjn
      exact List.all_eq_true.1 hokn.out y hmem
     have hfn := filt_next (p := Stv.isN 3) hjn
     rw [← hy] at s0 s1 s2 s3 hfn
     have hle : ((ev.notes.take (j + 1)).filter (Stv.isN 3)).length ≤ (ev.notes.filter (Stv.isN 3)).length := ((List.take_sublist (j + 1) ev.notes).filter _).length_le
     have hcb : cj + (if Stv.isN 3 y = true then 1 else 0) ≤ 121 := by have h1 := hcc.out; have h2 := hnc.out; have h3 := htb.out; omega
     have hcc' : cj + (if Stv.isN 3 y = true then 1 else 0) = cn + ((ev.notes.take (j + 1)).filter (Stv.isN 3)).length := by have h1 := hcc.out; omega
     clear hle hfn
     obtain ⟨yt, yw, yo, ya⟩ := y
     replace s0 : wr.cell? (an.add (j * 4)) = some (.int .i64 yt) := s0
     replace s1 : wr.cell? ⟨(an.add (j * 4)).block, (an.add (j * 4)).off + 1, none⟩ = some (.int .i64 yw) := s1
     replace s2 : wr.cell? ⟨(an.add (j * 4)).block, (an.add (j * 4)).off + 2, none⟩ = some (.int .i64 yo) := s2
     replace s3 : wr.cell? ⟨(an.add (j * 4)).block, (an.add (j * 4)).off + 3, none⟩ = some (.int .i64 ya) := s3
     replace hy := Lib.hid hy
     replace hjn := Lib.hid hjn
     go_upto_region 18 with (fail)
     have hz : Below wr.heap.size wr (wr.alloc (.cells #[.int .i64 yt, .int .i64 yw, .int .i64 yo, .int .i64 ya] 44)) := below_alloc (Below.refl _ wr) _
     have hxx := heap_alloc_new wr (.cells #[.int .i64 yt, .int .i64 yw, .int .i64 yo, .int .i64 ya] 44)
     have hBn := Lib.hid (below_then hBj.out hBj.out.size hz)
     have e0 := cell_of_heap (j := 0) hxx rfl
     have e1 := cell_of_heap (j := 1) hxx rfl
     have e2 := cell_of_heap (j := 2) hxx rfl
     have e3 := cell_of_heap (j := 3) hxx rfl
     replace hxx := Lib.hid hxx
     clear hz s0 s1 s2 s3 u6 hBj
     generalize wr.alloc (.cells #[.int .i64 yt, .int .i64 yw, .int .i64 yo, .int .i64 ya] 44) = V9 at hxx hBn e0 e1 e2 e3 ⊢
     generalize wr.heap.size = bn at hxx e0 e1 e2 e3 ⊢
     by_cases hw : yw = 11
     ·subst hw
      have ht0 : (yt == 0) = false := by
       cases hq : (yt == 0)
       ·rfl
       ·rw [beq_iff_eq] at hq
        subst hq
        exact absurd hyo (by unfold Stv.okN; simp)
      by_cases ho : yo = 3
      ·subst ho
       by_cases hr : ya = 2
       ·subst hr
        have hi : Stv.isN 3 ⟨yt, 11, 3, 2⟩ = true := rfl
        rw [if_pos hi] at hcb hcc'
        replace hcc' := Lib.hid hcc'
        clear hi hyo hcc
        go_wp2
        go_roundw
        case rel => exact ⟨j + 1, cj + 1, by omega, hcb, by go_num, by go_num, hcc', hBn⟩
        case measure => simp [intOf]; omega
       ·have hab : (ya == 2) = false := beq_eq_false_iff_ne.mpr hr
        have hi : ¬ Stv.isN 3 ⟨yt, 11, 3, ya⟩ = true := by unfold Stv.isN; simp [hr]
        rw [if_neg hi] at hcc'
        replace hcc' := Lib.hid hcc'
        clear hi hyo hcc hcb hr
        go_wp2
        go_roundw
        case rel => exact ⟨j + 1, cj, by omega, hcj, by go_num, rfl, hcc', hBn⟩
        case measure => simp [intOf]; omega
      ·have hob : (yo == 3) = false := beq_eq_false_iff_ne.mpr ho
       have hi : ¬ Stv.isN 3 ⟨yt, 11, yo, ya⟩ = true := by unfold Stv.isN; simp [ho]
       rw [if_neg hi] at hcc'
       replace hcc' := Lib.hid hcc'
       clear hi hyo hcc hcb ho
       go_wp2
       go_roundw
       case rel => exact ⟨j + 1, cj, by omega, hcj, by go_num, rfl, hcc', hBn⟩
       case measure => simp [intOf]; omega
     ·have hwb : (yw == 11) = false := beq_eq_false_iff_ne.mpr hw
      have hi : ¬ Stv.isN 3 ⟨yt, yw, yo, ya⟩ = true := by unfold Stv.isN; simp [hw]
      rw [if_neg hi] at hcc'
      replace hcc' := Lib.hid hcc'
      clear hi hyo hcc hcb hw
      go_wp2
      go_roundw
      case rel => exact ⟨j + 1, cj, by omega, hcj, by go_num, rfl, hcc', hBn⟩
      case measure => simp [intOf]; omega
    ·obtain rfl : nl = j := by omega
     have hce : cj = (Stv.runB 3 W0 (l.take (k + 1))).2.2 := by
      have h1 := hcc.out
      rw [hnl.out, List.take_length] at h1
      rw [hnc.out, h1]
     replace hce := Lib.hid hce
     go_wp2
     go_roundw
     case rel => exact ⟨k + 1, cj, by omega, hcj, by go_num, rfl, hce, Lib.hid (hW6.out.below hBj.out), Lib.hid (below_then hB6.out hB6.out.size hBj.out)⟩
     case measure => simp [intOf]; omega
  ·obtain rfl : m = k := by omega
   have hall : l.take m = l := by rw [hm.out, List.take_length]
   have hW' := hW.out
   have hc' := hcnt.out
   rw [hall] at hW' hc'
   rw [hfin.out] at hW'
   rw [htot.out] at hc'
   have hce : (cn : Int) = 1 + 2 * (N : Int) := by omega
   replace hW' := Lib.hid hW'
   obtain ⟨f0, f1, f2, f3⟩ := hend.out
   have hcb : ((cn : Int) == 1 + 2 * (N : Int)) = true := by rw [hce]; exact beq_self_eq_true _
   replace hce := Lib.hid hce
   replace f0 := Lib.hid f0
   replace f1 := Lib.hid f1
   replace f2 := Lib.hid f2
   replace f3 := Lib.hid f3
   clear hW hcnt hc'
   go_wp2_with (first
    | (go_at_call 22; go_must (refine (busy_walk hW'.out _).mono ?_; rintro e w4 ⟨rfl, rfl⟩; rw [f0.out]))
    | (go_at_call 21; go_must (refine (hold_walk hW'.out _).mono ?_; rintro e w4 ⟨rfl, rfl⟩; first | rw [f1.out] | rw [f2.out] | rw [f3.out]))
    | (go_at_call 35; go_must (refine (awake25_walk _).mono ?_; rintro e w11 ⟨rfl, hB12⟩; have hB13 := Lib.hid (below_then hB.out hB.out.size hB12))))
   go_ret
   exact ⟨rfl, below_then hB1.out hB1.out.size hB13.out⟩
theorem waits_walk (wr : Bool) (mode base rounds : Int) (hmd : u8ok2 mode) (hb : W32 base) (hrd : u8ok2 rounds) (w : World) : Calls Tryz.prog 11 #[.bool wr, .int .u8 mode, .int .u32 base, .int .u8 rounds] w fun e w' => e = .returned (.bool true) ∧ Below w.heap.size w w' := by
 cases wr
 ·exact waits5 mode base rounds hmd hb hrd w
 ·exact waits6 mode base rounds hmd hb hrd w
end Go.Proofs.YtkmlefbdhdlfmaaGreat.Wo
