/- The law ExclTogether: walk. -/
import Derived.Test.YtkmlefbdhdlfmaaGreatEx
namespace Go.Proofs.YtkmlefbdhdlfmaaGreat.Wo
open Go.RowKit Go.Proofs.YtkmlefbdhdlfmaaGreatW.PrintWords Go.Proofs.YtkmlefbdhdlfmaaGreatW.PrintMore Go.Proofs.YtkmlefbdhdlfmaaGreatW.PrintLast
open Stile
set_option linter.unusedSimpArgs false
set_option linter.unusedVariables false
set_option maxRecDepth 100000
variable {w w1 w2 w0 V V1 : World} {a pm g t kf n b B p cap gc gt mb : Nat} {W : Stile.W} {l : List Int} {ok : Nat → Prop}
theorem most_walk {A : Option Addr} {len : Nat} {xs : List Note} (n : Nat) (hn : 1 ≤ n ∧ n ≤ 64) (c : Nat) (hlen : len = xs.length) (hC : nk.C w A len xs) :
    Calls Tryz.prog 25 #[.int .i64 n, .slice A len c] w fun e w' => e = .returned (.int .i64 (exMost n xs (List.replicate n 0) 0)) ∧ Below w.heap.size w w' := by
  have hr := exright_walk (n : Int) (by omega)
  have hz : Below w.heap.size w (w.alloc (.cells #[.int .i64 0] 3)) := below_alloc (Below.refl _ w) _
  have hb0 := heap_alloc_new w (.cells #[.int .i64 0] 3)
  have hsz : w.heap.size < (w.alloc (.cells #[.int .i64 0] 3)).heap.size := blk_lt hb0
  have hm := walk_most (w := w.alloc (.cells #[.int .i64 0] 3)) (A := A) (xs := xs) n hn c hlen hsz (fun w' hb => Kd.C_below hC ⟨hb.os.trans hz.os, hb.tape.trans hz.tape, hb.output.trans hz.output, Nat.le_trans hz.size hb.size, fun q hq => (hb.block q (Nat.lt_of_lt_of_le hq hz.size) (Nat.ne_of_lt hq)).trans (hz.block q hq)⟩) 0 hb0
  obtain ⟨R, hR⟩ : ∃ R, R = exMost n xs (List.replicate n 0) 0 := ⟨_, rfl⟩
  rw [← hR] at hm ⊢
  obtain ⟨m0, hm0⟩ : ∃ m0, m0 = w.heap.size := ⟨_, rfl⟩
  rw [← hm0] at hm ⊢
  replace hR := Lib.hid hR
  replace hr := Lib.hid hr
  replace hm := Lib.hid hm
  replace hz := Lib.hid hz
  replace hb0 := Lib.hid hb0
  replace hC := Lib.hid hC
  replace hlen := Lib.hid hlen
  replace hsz := Lib.hid hsz
  clear hn
  go_enter Tryz.func25, Tryz.ntmps25
  go_upto_region 4 with (go_at_call 50; go_must (refine (hr.out _).mono ?_; rintro e w1 ⟨rfl, rfl⟩))
  try rw [← hm0]
  replace hm0 := Lib.hid hm0
  go_upto_region 5 with (go_at_call 51; go_must (refine hm.out.mono ?_; rintro e w2 ⟨⟨v, rfl⟩, hx2, hb2⟩; have c0 := cell_of_heap (j := 0) hx2 rfl; have hq : Below w1.heap.size w1 w2 := ⟨hb2.os.trans hz.out.os, hb2.tape.trans hz.out.tape, hb2.output.trans hz.out.output, Nat.le_trans hz.out.size hb2.size, fun q hq => (hb2.block q (Nat.lt_of_lt_of_le hq hz.out.size) (by have := hm0.out; omega)).trans (hz.out.block q hq)⟩; rw [← hm0.out] at hq; have hB2 := Lib.hid hq; clear hq hx2 hb2))
  go_wp2
  go_ret
  exact ⟨rfl, hB2.out⟩
theorem reps_nk4 (x y z u : Note) : Reps (nk.M w B ok) 4 [x, y, z, u] [.int .i64 x.task, .int .i64 x.what, .int .i64 x.op, .int .i64 x.arg, .int .i64 y.task, .int .i64 y.what, .int .i64 y.op, .int .i64 y.arg, .int .i64 z.task, .int .i64 z.what, .int .i64 z.op, .int .i64 z.arg, .int .i64 u.task, .int .i64 u.what, .int .i64 u.op, .int .i64 u.arg] := by
  refine ⟨rfl, fun j p hj => ?_⟩
  match j, hj with
  | 0, hj => obtain rfl := Option.some.inj hj; exact nk_M _
  | 1, hj => obtain rfl := Option.some.inj hj; exact nk_M _
  | 2, hj => obtain rfl := Option.some.inj hj; exact nk_M _
  | 3, hj => obtain rfl := Option.some.inj hj; exact nk_M _
  | j + 4, hj => cases hj
theorem aw22 : exMost (2 : Nat) [⟨0, 1, 1, 0⟩, ⟨0, 11, 1, 2⟩, ⟨1, 1, 1, 0⟩, ⟨1, 11, 1, 2⟩] (List.replicate 2 0) 0 = 2 := by decide
theorem awake22_walk (w : World) : Calls Tryz.prog 26 #[] w fun e w' => e = .returned (.bool true) ∧ Below w.heap.size w w' := by
  have h2 := aw22
  replace h2 := Lib.hid h2
  go_enter Tryz.func26, Tryz.ntmps26
  go_wp2_with (first
    | ((with_reducible refine gate_dst (N := 6) rfl ?_); go_must (refine Kd.R_lit nk _ 44 rfl (N := 6) rfl (xs := [(⟨0, 1, 1, 0⟩ : Note), ⟨0, 11, 1, 2⟩, ⟨1, 1, 1, 0⟩, ⟨1, 11, 1, 2⟩]) (inner := [.int .i64 0, .int .i64 1, .int .i64 1, .int .i64 0, .int .i64 0, .int .i64 11, .int .i64 1, .int .i64 2, .int .i64 1, .int .i64 1, .int .i64 1, .int .i64 0, .int .i64 1, .int .i64 11, .int .i64 1, .int .i64 2]) (ok := fun _ => True) (okp := fun _ => False) ?hr (reps_nk4 _ _ _ _) (fun _ hk => hk.elim) trivial (Below.refl _ _) (Nat.le_refl _) (by simp) ?_; (case hr => first | (go_simp; done) | (go_simp; rfl)); intro v2 w2 hR2 hB2 _ _; obtain ⟨gp, cp, rfl, _, _, _⟩ := Kd.R_form hR2 (by decide); replace hB2 := Lib.hid hB2; have hC2 := Lib.hid (Kd.R_reads' hR2).2.2; clear hR2))
    | (go_at_call 25; go_must (refine (most_walk 2 (by decide) _ rfl hC2.out).mono ?_; rintro e w3 ⟨rfl, hB3⟩; rw [h2.out]; replace hB3 := Lib.hid (below_then hB2.out hB2.out.size hB3))))
  go_ret
  exact ⟨rfl, hB3.out⟩

def u8ok (x : Int) : Prop := 0 ≤ x ∧ x ≤ 255
theorem u8_wf {x : Int} (h : (Lit.int .u8 x).wf = true) : u8ok x := by
  have h1 : (decide (IntKind.u8.min ≤ x) && decide (x ≤ IntKind.u8.max)) = true := h
  rw [Bool.and_eq_true, decide_eq_true_eq, decide_eq_true_eq] at h1
  have e0 : IntKind.u8.min = 0 := by decide
  have e1 : IntKind.u8.max = 255 := by decide
  unfold u8ok
  omega
theorem drive_end (W : Stile.W) (i : Int) (s : Nat) (h : busy W i = 0) : drive W i s = ([], W) := by
  cases s with
  | zero => rfl
  | succ s => unfold drive; rw [if_neg (by rw [h]; decide)]
theorem drive_on (W : Stile.W) (i : Int) (s : Nat) (h : busy W i ≠ 0) : drive W i (s + 1) = ((pick W i 0).1.notes ++ (drive (pick W i 0).2 i s).1, (drive (pick W i 0).2 i s).2) := by
  rw [drive, if_pos h]
set_option maxHeartbeats 4000000 in
theorem together_walk (kind mode n base : Int) (hkd : u8ok kind) (hmd : u8ok mode) (hnd : u8ok n) (hb : W32 base) (w : World) :
    Calls Tryz.prog 6 #[.int .u8 kind, .int .u8 mode, .int .u8 n, .int .u32 base] w fun e w' => e = .returned (.bool true) ∧ Below w.heap.size w w' := by
  unfold u8ok at hkd hmd hnd
  have hk1 : 1 ≤ 1 + kind % 6 ∧ 1 + kind % 6 ≤ 6 := by omega
  have hm1 : 1 + mode % 2 = 1 ∨ 1 + mode % 2 = 2 := by omega
  obtain ⟨N, hN⟩ : ∃ N : Nat, (N : Int) = 1 + n % 64 := ⟨(1 + n % 64).toNat, by omega⟩
  have hN1 : 1 ≤ N ∧ N ≤ 64 := by omega
  have hnew := new_run (1 + kind % 6) (1 + mode % 2) N base hk1 hm1 (by omega) hb w
  have hG0 := newW_good (1 + kind % 6) (1 + mode % 2) N base hk1 hm1 (by omega) hb
  have htog := together (1 + kind % 6) (1 + mode % 2) base N hk1 hm1 hN1
  obtain ⟨W0, hW0⟩ : ∃ W0, W0 = newW (1 + kind % 6) (1 + mode % 2) N base := ⟨_, rfl⟩
  rw [← hW0] at hnew hG0 htog
  have hNb : N ≤ 64 := hN1.2
  replace hnew := Lib.hid hnew
  replace hG0 := Lib.hid hG0
  replace htog := Lib.hid htog
  replace hW0 := Lib.hid hW0
  replace hk1 := Lib.hid hk1
  replace hm1 := Lib.hid hm1
  replace hb := Lib.hid hb
  replace hN1 := Lib.hid hN1
  go_enter Tryz.func6, Tryz.ntmps6
  go_upto_region 2 with (fail)
  rw [← hN]
  replace hN := Lib.hid hN
  go_upto_region 7 with (go_at_call 13; go_must (refine hnew.out.mono ?_; rintro e w8 ⟨a, pm, g, t, kf, rfl, hW, hB, ha, hp, hg, ht⟩; have hlt8 := Lib.hid hW.lt; replace hW := Lib.hid hW; replace hB := Lib.hid hB; clear hnew hkd hmd hnd))
  go_loopw [13, 12] (fun i v wr => ∃ j : Nat, j ≤ N ∧ i = .int .i64 j ∧ Hid (nk.R 44 wr w8.heap.size (fun k => k ≠ g ∧ k ≠ t) v (readAll W0 j).1) ∧ Hid (Wd wr a pm g t kf (readAll W0 j).2) ∧ Hid (Bt g t w8 wr) ∧ Hid (Stile.Good (readAll W0 j).2) ∧ Hid ((readAll W0 j).1.length ≤ 3700 * j)) (fun i _ _ => N - (intOf i).toNat)
  case atStart => exact ⟨0, Nat.zero_le _, rfl, Lib.hid (Kd.R_nil _ _ _ _ _), hW, Lib.hid (Bt.refl _ _ _), hG0, Lib.hid (Nat.le_refl _)⟩
  case round =>
    clear hW
    obtain ⟨j, hj, rfl, hR, hW, hBt, hGj, hfew⟩ := hrel
    by_cases hjN : j < N
    · have hnext : readAll W0 (j + 1) = ((readAll W0 j).1 ++ ((pick (readAll W0 j).2 j 1).1.notes ++ (drive (pick (readAll W0 j).2 j 1).2 j 300).1), (drive (pick (readAll W0 j).2 j 1).2 j 300).2) := rfl
      have hf1 := pick_few hGj.out (j : Int) 1
      have hG1 := pick_good hGj.out (j : Int) 1
      have hcap : ((readAll W0 j).1.length + (pick (readAll W0 j).2 j 1).1.notes.length) * 32 ≤ 140737488355328 := by have := hfew.out; omega
      have hl1 : ((readAll W0 j).1 ++ (pick (readAll W0 j).2 j 1).1.notes).length ≤ 3700 * j + 12 := by have := hfew.out; rw [List.length_append]; omega
      replace hnext := Lib.hid hnext
      replace hcap := Lib.hid hcap
      replace hl1 := Lib.hid hl1
      replace hG1 := Lib.hid hG1
      clear hf1
      go_upto_region 10 with (first
            | (go_at_call 17; go_must (refine (pick_run hW.out hGj.out (j : Int) 1).mono ?_; rintro e w9 ⟨nv, rfl, hN9, hW9, hB9⟩; have hR9 := Lib.hid (Kd.R_step hR.out (fun q hq hlt => hB9.block q hlt hq.1 hq.2)); have hBt9 := Lib.hid (hBt.out.trans hB9); obtain ⟨Ao, co, rfl⟩ := Kd.R_slice hN9; have hNC := Lib.hid (Kd.R_reads' hN9).2.2; have hlt9 := Lib.hid hW9.lt; replace hW9 := Lib.hid hW9; clear hN9 hB9 hR hW hBt; unfold evV; obtain ⟨ev, hev⟩ : ∃ ev, ev = (pick (readAll W0 j).2 (j : Int) 1).1 := ⟨_, rfl⟩; rw [← hev] at hNC hcap ⊢; replace hev := Lib.hid hev))
            | ((with_reducible refine gate_ (.field 41 (.tmp 48) 2) rfl ?_); go_must (refine wp_value (v := .slice Ao ev.notes.length co) (some 49) rfl rfl (field_exec rfl rfl (field_notes _ _ _ _ _ _ _ _ rfl)) ?_))
            | ((with_reducible refine gate_builtin (b := .append) (xs := #[.tmp 44, .tmp 49]) rfl ?_); at_builtin; go_must (
                refine Kd.R_append_rows nk (w0 := w9) (W := w9) w8.heap.size rfl (.tmp 44) (.tmp 49) 39 44 (.agg #[.int .i64 0, .int .i64 0, .int .i64 0, .int .i64 0]) 32 rfl Tryz.underlying39 info_note rfl (by decide) (by decide) u12 (readAll W0 j).1 ev.notes Ao ev.notes.length co (fun k => k ≠ g ∧ k ≠ t) (fun _ => False) rfl rfl hR9.out hNC.out (fun x cs h => by rw [nk_K h]; exact nk_M x) (fun _ hk => hk.elim) (fun q hq => ⟨by have := hlt9.out.2.2.1; omega, by have := hlt9.out.2.2.2; omega⟩) (Below.refl _ _) hBt9.out.size hcap.out ?_;
                intro v3 w3 hR3 hb3 _ _;
                (have hW3 := Lib.hid (hW9.out.blocks (hb3.block a hlt8.out.1) (hb3.block pm hlt8.out.2.1) (hb3.block g hlt8.out.2.2.1) (hb3.block t hlt8.out.2.2.2)));
                (have hB4 : Hid (Bt g t w8 w3) := Lib.hid ⟨hb3.os.trans hBt9.out.os, hb3.tape.trans hBt9.out.tape, hb3.output.trans hBt9.out.output, Nat.le_trans hBt9.out.size hb3.size, fun q hq h1 h2 => (hb3.block q hq).trans (hBt9.out.block q hq h1 h2)⟩);
                replace hR3 := Lib.hid hR3)))
      have hR1 : Hid (nk.R 44 w3 w8.heap.size (fun k => k ≠ g ∧ k ≠ t) v3 ((readAll W0 j).1 ++ (pick (readAll W0 j).2 j 1).1.notes)) := Lib.hid (by rw [← hev.out]; exact hR3.out)
      clear hR3 hev hNC hR9 hBt9 hlt9 hcap hW9
      rw [← List.append_assoc] at hnext
      generalize (readAll W0 j).1 ++ (pick (readAll W0 j).2 j 1).1.notes = N1 at hR1 hnext hl1
      generalize (pick (readAll W0 j).2 j 1).2 = X1 at hW3 hnext hG1
      go_upto_region 11 with (fail)
      go_loopw [14, 12] (fun i v wv => ∃ (s : Nat) (Wc : Stile.W) (Nc : List Note), s ≤ 300 ∧ i = .int .i64 s ∧ Hid (nk.R 44 wv w8.heap.size (fun k => k ≠ g ∧ k ≠ t) v Nc) ∧ Hid (Wd wv a pm g t kf Wc) ∧ Hid (Bt g t w8 wv) ∧ Hid (Stile.Good Wc) ∧ Hid (readAll W0 (j + 1) = (Nc ++ (drive Wc j (300 - s)).1, (drive Wc j (300 - s)).2)) ∧ Hid (Nc.length ≤ 3700 * j + 12 + 12 * s)) (fun i _ _ => 300 - (intOf i).toNat)
      case atStart => exact ⟨0, X1, N1, Nat.zero_le _, rfl, hR1, hW3, hB4, hG1, hnext, hl1⟩
      case round =>
        clear hR1 hW3 hB4 hG1 hnext hl1 hGj hfew
        obtain ⟨s, Wc, Nc, hs, rfl, hR, hW, hBt, hGc, hnext, hfew⟩ := hrel
        by_cases hs3 : s < 300
        · have hsb : decide ((s : Int) < 300) = true := decide_eq_true (by omega)
          obtain ⟨bz, hbz⟩ : ∃ bz, bz = busy Wc j := ⟨_, rfl⟩
          have hbw := fun (V : World) (h : Wd V a pm g t kf Wc) => busy_walk h (j : Int)
          rw [← hbz] at hbw
          replace hbw := Lib.hid hbw
          by_cases hb0 : bz = 0
          · have hbb : (bz != 0) = false := by rw [hb0]; rfl
            have hd := drive_end Wc j (300 - s) (hbz.symm.trans hb0)
            have hn2 : readAll W0 (j + 1) = (Nc, Wc) := by rw [hnext.out, hd]; simp
            replace hn2 := Lib.hid hn2
            replace hb0 := Lib.hid hb0
            replace hbz := Lib.hid hbz
            clear hd
            go_wp2_with (go_at_call 22; go_must (refine (hbw.out _ hW.out).mono ?_; rintro e w4 ⟨rfl, rfl⟩))
            go_roundw
            case rel => exact ⟨j + 1, by omega, by go_num, Lib.hid (by rw [hn2.out]; exact hR.out), Lib.hid (by rw [hn2.out]; exact hW.out), hBt, Lib.hid (by rw [hn2.out]; exact hGc.out), Lib.hid (by rw [hn2.out]; have := hfew.out; show Nc.length ≤ _; omega)⟩
            case measure => simp [intOf]; omega
          · have hbb : (bz != 0) = true := bne_iff_ne.mpr hb0
            have hd := drive_on Wc j (299 - s) (fun q => hb0 (hbz.trans q))
            rw [show 299 - s + 1 = 300 - s by omega] at hd
            have hf1 := pick_few hGc.out (j : Int) 0
            have hG1 := pick_good hGc.out (j : Int) 0
            have hcap : (Nc.length + (pick Wc j 0).1.notes.length) * 32 ≤ 140737488355328 := by have := hfew.out; omega
            have hl1 : (Nc ++ (pick Wc j 0).1.notes).length ≤ 3700 * j + 12 + 12 * (s + 1) := by have := hfew.out; rw [List.length_append]; omega
            have hn2 : readAll W0 (j + 1) = ((Nc ++ (pick Wc j 0).1.notes) ++ (drive (pick Wc j 0).2 j (300 - (s + 1))).1, (drive (pick Wc j 0).2 j (300 - (s + 1))).2) := by
              rw [hnext.out, hd, show 300 - (s + 1) = 299 - s by omega, List.append_assoc]
            replace hn2 := Lib.hid hn2
            replace hcap := Lib.hid hcap
            replace hl1 := Lib.hid hl1
            replace hG1 := Lib.hid hG1
            replace hb0 := Lib.hid hb0
            replace hbz := Lib.hid hbz
            clear hf1 hd hnext
            go_upto_region 13 with (go_at_call 22; go_must (refine (hbw.out _ hW.out).mono ?_; rintro e w4 ⟨rfl, rfl⟩))
            go_wp2_with (first
                  | (go_at_call 17; go_must (refine (pick_run hW.out hGc.out (j : Int) 0).mono ?_; rintro e w9 ⟨nv, rfl, hN9, hW9, hB9⟩; have hR9 := Lib.hid (Kd.R_step hR.out (fun q hq hlt => hB9.block q hlt hq.1 hq.2)); have hBt9 := Lib.hid (hBt.out.trans hB9); obtain ⟨Ao, co, rfl⟩ := Kd.R_slice hN9; have hNC := Lib.hid (Kd.R_reads' hN9).2.2; have hlt9 := Lib.hid hW9.lt; replace hW9 := Lib.hid hW9; clear hN9 hB9 hR hW hBt; unfold evV; obtain ⟨ev, hev⟩ : ∃ ev, ev = (pick Wc (j : Int) 0).1 := ⟨_, rfl⟩; rw [← hev] at hNC hcap ⊢; replace hev := Lib.hid hev))
                  | ((with_reducible refine gate_ (.field 41 (.tmp 65) 2) rfl ?_); go_must (refine wp_value (v := .slice Ao ev.notes.length co) (some 66) rfl rfl (field_exec rfl rfl (field_notes _ _ _ _ _ _ _ _ rfl)) ?_))
                  | ((with_reducible refine gate_builtin (b := .append) (xs := #[.tmp 61, .tmp 66]) rfl ?_); at_builtin; go_must (
                      refine Kd.R_append_rows nk (w0 := w9) (W := w9) w8.heap.size rfl (.tmp 61) (.tmp 66) 39 44 (.agg #[.int .i64 0, .int .i64 0, .int .i64 0, .int .i64 0]) 32 rfl Tryz.underlying39 info_note rfl (by decide) (by decide) u12 Nc ev.notes Ao ev.notes.length co (fun k => k ≠ g ∧ k ≠ t) (fun _ => False) rfl rfl hR9.out hNC.out (fun x cs h => by rw [nk_K h]; exact nk_M x) (fun _ hk => hk.elim) (fun q hq => ⟨by have := hlt9.out.2.2.1; omega, by have := hlt9.out.2.2.2; omega⟩) (Below.refl _ _) hBt9.out.size hcap.out ?_;
                      intro v3 w3 hR3 hb3 _ _;
                      (have hW3 := Lib.hid (hW9.out.blocks (hb3.block a hlt8.out.1) (hb3.block pm hlt8.out.2.1) (hb3.block g hlt8.out.2.2.1) (hb3.block t hlt8.out.2.2.2)));
                      (have hB4 : Hid (Bt g t w8 w3) := Lib.hid ⟨hb3.os.trans hBt9.out.os, hb3.tape.trans hBt9.out.tape, hb3.output.trans hBt9.out.output, Nat.le_trans hBt9.out.size hb3.size, fun q hq h1 h2 => (hb3.block q hq).trans (hBt9.out.block q hq h1 h2)⟩);
                      replace hR3 := Lib.hid hR3)))
            go_roundw
            case rel => exact ⟨s + 1, _, _, by omega, by go_num, Lib.hid (by rw [← hev.out]; exact hR3.out), hW3, hB4, hG1, hn2, hl1⟩
            case measure => simp [intOf]; omega
        · obtain rfl : s = 300 := by omega
          have hn2 : readAll W0 (j + 1) = (Nc, Wc) := by rw [hnext.out]; simp [drive]
          replace hn2 := Lib.hid hn2
          go_wp2
          go_roundw
          case rel => exact ⟨j + 1, by omega, by go_num, Lib.hid (by rw [hn2.out]; exact hR.out), Lib.hid (by rw [hn2.out]; exact hW.out), hBt, Lib.hid (by rw [hn2.out]; exact hGc.out), Lib.hid (by rw [hn2.out]; have := hfew.out; show Nc.length ≤ _; omega)⟩
          case measure => simp [intOf]; omega
    · obtain rfl : N = j := by omega
      obtain ⟨Ao, co, rfl⟩ := Kd.R_slice hR.out
      have hB9 := Lib.hid (below_bt hB.out hBt.out hB.out.size hg ht)
      have hC := Lib.hid (Kd.R_reads' hR.out).2.2
      have hwr := Lib.hid hN1.out
      generalize hxs : (readAll W0 N).1 = xs at hC hR htog
      go_wp2_with (first
        | (go_at_call 25; go_must (refine (most_walk N hN1.out co rfl hC.out).mono ?_; rintro e w10 ⟨rfl, hB10⟩; rw [htog.out]; have hB11 := Lib.hid (below_then hB9.out hB9.out.size hB10); clear hB10))
        | (go_at_call 26; go_must (refine (awake22_walk _).mono ?_; rintro e w11 ⟨rfl, hB12⟩; have hB13 := Lib.hid (below_then hB11.out hB11.out.size hB12))))
      go_ret
      exact ⟨rfl, hB13.out⟩

end Go.Proofs.YtkmlefbdhdlfmaaGreat.Wo
