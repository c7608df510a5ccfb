/- The law WorldAccess: walk. -/
import Derived.Test.YtkmlefbdhdlfmaaGreatDor
namespace Go.Proofs.YtkmlefbdhdlfmaaGreat.Wo
open Go.RowKit Go.Proofs.YtkmlefbdhdlfmaaGreatW.PrintWords Go.Proofs.YtkmlefbdhdlfmaaGreatW.PrintMore Go.Proofs.YtkmlefbdhdlfmaaGreatW.PrintLast
open Stile
set_option linter.unusedSimpArgs false
set_option linter.unusedVariables false
set_option maxRecDepth 100000
variable {w w1 w2 w0 V V1 : World} {a pm g t kf n b B p cap gc gt : Nat} {W : Stile.W} {ok : Nat → Prop}
theorem same_rows2 {l : List Int} {g0 g1 c0 c1 : Nat} (n n1 : Nat) (hn : l.length = n) (hn1 : n1 = n) (h0 : Wr w g0 l) (h1 : Wr w g1 l) (hl : n ≤ 2000) (hc0 : n ≤ c0) (hc1 : n ≤ c1) : Calls Tryz.prog 18 #[.slice (some ⟨g0, 0, none⟩) n c0, .slice (some ⟨g1, 0, none⟩) n1 c1] w fun e w' => e = .returned (.bool true) ∧ Below w.heap.size w w' := by
  subst hn
  subst hn1
  exact same_rows h0 h1 hl hc0 hc1
theorem field_cells (k m n : Int) (gc lc cc gt lt ct : Nat) (w : World) : (Instr.field 35 (.agg #[.int .i64 k, .int .i64 m, .int .i64 n, .slice (some ⟨gc, 0, none⟩) lc cc, .slice (some ⟨gt, 0, none⟩) lt ct]) 3).run Tryz.prog w = .ok (.slice (some ⟨gc, 0, none⟩) lc cc) w := by
  unfold Instr.field
  simp [run_underlying Tryz.underlying35, asAgg, part]
theorem below_but {B : Nat} (h : Below B w w1) (hb : But g w1 w2) (hs : B ≤ w1.heap.size) (hg : B ≤ g) : Below B w w2 :=
  ⟨hb.os.trans h.os, hb.tape.trans h.tape, hb.output.trans h.output, Nat.le_trans h.size hb.size, fun k hk => (hb.block k (Nat.lt_of_lt_of_le hk hs) (by omega)).trans (h.block k hk)⟩
set_option maxHeartbeats 4000000 in
theorem access_walk (kind mode n base : Int) (hb : W32 base) (A : Option Addr) (c : Nat) (l : List (Int × Int)) (w : World) (hC : pk.C w A l.length l) :
    Calls Tryz.prog 4 #[.int .i64 kind, .int .i64 mode, .int .i64 n, .int .u32 base, .slice A l.length c] w fun e w' => e = .returned (.bool true) ∧ Below w.heap.size w w' := by
  by_cases hgood : (1 ≤ kind ∧ kind ≤ 6) ∧ (mode = 1 ∨ mode = 2) ∧ (1 ≤ n ∧ n ≤ 64)
  · obtain ⟨hk, hm, hn⟩ := hgood
    have hG0 := newW_good kind mode n base hk hm hn hb
    have hnew := new_run kind mode n base hk hm hn hb w
    obtain ⟨W0, hW0⟩ : ∃ W0, W0 = newW kind mode n base := ⟨_, rfl⟩
    rw [← hW0] at hG0 hnew
    obtain ⟨m, hml⟩ : ∃ m, m = l.length := ⟨_, rfl⟩
    have hmax := Kd.C_max hC
    rw [← hml] at hC hmax ⊢
    have hlen0 := good_len hG0
    replace hlen0 := Lib.hid hlen0
    replace hW0 := Lib.hid hW0
    replace hnew := Lib.hid hnew
    replace hG0 := Lib.hid hG0
    replace hk := Lib.hid hk
    replace hm := Lib.hid hm
    replace hn := Lib.hid hn
    replace hC := Lib.hid hC
    replace hml := Lib.hid hml
    replace hb := Lib.hid hb
    by_cases hlong : m > 1000
    · have hl : decide ((m : Int) > 1000) = true := decide_eq_true (by omega)
      go_enter Tryz.func4, Tryz.ntmps4
      go_wp2_with (first
        | (go_at_call 13; go_must (refine hnew.out.mono ?_; rintro e w1 ⟨a, pm, g, t, kf, rfl, hW, hB, _⟩; clear hW; replace hB := Lib.hid hB))
        | (go_at_call 14; go_must (refine (awake_walk _).mono ?_; rintro e w2 ⟨rfl, hB2⟩; replace hB2 := Lib.hid (below_then hB.out hB.out.size hB2))))
      go_ret
      exact ⟨rfl, hB2.out⟩
    · have hl : decide ((m : Int) > 1000) = false := decide_eq_false (by omega)
      go_enter Tryz.func4, Tryz.ntmps4
      go_wp2_with (first
        | (go_at_call 13; go_must (refine hnew.out.mono ?_; rintro e w1 ⟨a, pm, g, t, kf, rfl, hW, hB, ha, hp, hg, ht⟩; replace hW := Lib.hid hW; replace hB := Lib.hid hB; clear hnew))
        | (go_at_call 16; go_must (refine (state_walk hW.out hlen0.out.1 hlen0.out.2.1 hlen0.out.2.2.1 hlen0.out.2.2.2).mono ?_; rintro e w3 ⟨gw, cw, gt, ct, rfl, hS3, hgc, hgt, hB3, hcc⟩; have hR3 := Lib.hid hS3.cells; have hgw := Lib.hid (And.intro hgc (And.intro hB.out.size hW.out.lt)); replace hcc := Lib.hid hcc; replace hW := Lib.hid (hW.out.below hB3); replace hB := Lib.hid (below_then hB.out hB.out.size hB3); clear hB3 hgc hgt hS3))
        | ((with_reducible refine gate_ (.field 35 (.tmp 47) 3) rfl ?_); go_must (refine wp_value (v := .slice (some ⟨gw, 0, none⟩) W0.l.length cw) (some 48) rfl rfl (field_exec rfl rfl (field_cells _ _ _ _ _ _ _ _ _ _)) ?_)))
      have hgw2 := Lib.hid (show w.heap.size ≤ gw ∧ gw ≠ a ∧ gw ≠ pm ∧ gw ≠ g ∧ gw ≠ t by have := hgw.out; omega)
      clear hgw
      go_loopw [14, 13] (fun i v wr => ∃ k gw cw : Nat, k ≤ m ∧ i = .int .i64 k ∧ v = .slice (some ⟨gw, 0, none⟩) (runPicks W0 (l.take k)).2.l.length cw ∧ Hid ((runPicks W0 (l.take k)).2.l.length ≤ cw) ∧ Hid (Wr wr gw (runPicks W0 (l.take k)).2.l) ∧ Hid (w.heap.size ≤ gw ∧ gw ≠ a ∧ gw ≠ pm ∧ gw ≠ g ∧ gw ≠ t) ∧ Hid (Wd wr a pm g t kf (runPicks W0 (l.take k)).2) ∧ Hid (Below w.heap.size w wr)) (fun i _ _ => m - (intOf i).toNat)
      case atStart => exact ⟨0, gw, cw, Nat.zero_le _, rfl, rfl, hcc, hR3, hgw2, hW, hB⟩
      case round =>
        clear hW hB hR3 hcc hgw2
        obtain ⟨k, gw, cw, hkm, rfl, rfl, hcc, hR, hgw, hW, hB⟩ := hrel
        by_cases hlt : k < m
        · obtain ⟨ad, x, rfl, hx, d0, d1⟩ := at_pk (Kd.C_below hC.out hB.out) k hlt
          obtain ⟨x0, x1⟩ := x
          have hnext : (runPicks W0 (l.take (k + 1))).2 = (pick (runPicks W0 (l.take k)).2 x0 x1).2 := by rw [take_next hx, runPicks_snoc]
          have hGk := runPicks_good (l.take k) hG0.out
          have hlen : 1 ≤ (runPicks W0 (l.take k)).2.l.length ∧ (runPicks W0 (l.take k)).2.l.length ≤ 2000 ∧ 1 ≤ (runPicks W0 (l.take k)).2.t.length ∧ (runPicks W0 (l.take k)).2.t.length ≤ 2000 := good_len hGk
          have hlen' := good_len (runPicks_good (l.take (k + 1)) hG0.out)
          obtain ⟨X', hX'⟩ : ∃ X', X' = (runPicks W0 (l.take (k + 1))).2 := ⟨_, rfl⟩
          rw [← hX'] at hnext hlen'
          have hlaw := pick_acd hGk x0 x1
          have hpick := fun (w' : World) (h : Wd w' a pm g t kf (runPicks W0 (l.take k)).2) => pick_run h hGk x0 x1
          rw [← hnext] at hlaw hpick
          generalize (runPicks W0 (l.take k)).2 = X at hW hlen hlaw hpick hnext hR hcc ⊢
          obtain ⟨ev, hev0⟩ : ∃ ev, ev = (pick X x0 x1).1 := ⟨_, rfl⟩
          rw [← hev0] at hlaw
          simp only [← hev0] at hpick
          replace hX' := Lib.hid hX'
          replace hlen := Lib.hid hlen
          replace hlen' := Lib.hid hlen'
          replace hpick := Lib.hid hpick
          replace hx := Lib.hid hx
          clear hev0 hnext hGk
          replace hlaw := Lib.hid hlaw
          go_upto_region 9 with (go_at_call 17; go_must (refine (hpick.out _ hW.out).mono ?_; rintro e w5 ⟨nv, rfl, hN, hW5, hB5⟩; have hR5 := Lib.hid (hR.out.of_block (hB5.block gw hR.out.lt hgw.out.2.2.2.1 hgw.out.2.2.2.2)); have hB5' := Lib.hid (below_bt hB.out hB5 hB.out.size hg ht); obtain ⟨An, cn, rfl⟩ := Kd.R_slice hN; generalize ev.notes.length = nl at *; unfold evV; replace hW5 := Lib.hid hW5; clear hN hB5 hR hW hB))
          have hz5 : Below w5.heap.size w5 (w5.alloc (.cells #[.bool ev.ran, .int .i64 ev.acc.kind, .int .i64 ev.acc.cell, .int .u32 ev.acc.x, .int .u32 ev.acc.y, .int .u32 ev.acc.old, .slice An nl cn] 41)) := below_alloc (Below.refl _ w5) _
          have hu6 := heap_alloc_new w5 (.cells #[.bool ev.ran, .int .i64 ev.acc.kind, .int .i64 ev.acc.cell, .int .u32 ev.acc.x, .int .u32 ev.acc.y, .int .u32 ev.acc.old, .slice An nl cn] 41)
          have hR6 := Lib.hid (hR5.out.below hz5)
          have hW6 := Lib.hid (hW5.out.below hz5)
          have hB6 := Lib.hid (below_then hB5'.out hB5'.out.size hz5)
          replace hu6 := Lib.hid hu6
          have hub := Lib.hid (And.intro hB5'.out.size hR5.out.lt)
          clear hz5 hR5 hW5 hB5' hpick d0 d1
          generalize (w5.alloc (.cells #[.bool ev.ran, .int .i64 ev.acc.kind, .int .i64 ev.acc.cell, .int .u32 ev.acc.x, .int .u32 ev.acc.y, .int .u32 ev.acc.old, .slice An nl cn] 41)) = V5 at hu6 hR6 hW6 hB6 ⊢
          generalize w5.heap.size = bu at hu6 hub ⊢
          go_upto_region 10 with (first
            | (go_at_call 16; go_must (refine (state_walk hW6.out hlen'.out.1 hlen'.out.2.1 hlen'.out.2.2.1 hlen'.out.2.2.2).mono ?_; rintro e w7 ⟨gx, cx, gt, ct, rfl, hS7, hgc, hgt, hB7, hcx⟩; have hN7 := Lib.hid hS7.cells; have hR7 := Lib.hid (hR6.out.below hB7); have hu7 := Lib.hid (blk_below hu6.out hB7); have hgx := Lib.hid (And.intro hgc (And.intro hB6.out.size (And.intro hR6.out.lt hW6.out.lt))); replace hcx := Lib.hid hcx; have hW7 := Lib.hid (hW6.out.below hB7); have hB7' := Lib.hid (below_then hB6.out hB6.out.size hB7); clear hB7 hgc hgt hS7 hR6 hu6 hW6 hB6))
            | ((with_reducible refine gate_ (.field 35 (.tmp 62) 3) rfl ?_); go_must (refine wp_value (v := .slice (some ⟨gx, 0, none⟩) X'.l.length cx) (some 63) rfl rfl (field_exec rfl rfl (field_cells _ _ _ _ _ _ _ _ _ _)) ?_)))
          have hgx2 := Lib.hid (show w.heap.size ≤ gx ∧ gx ≠ a ∧ gx ≠ pm ∧ gx ≠ g ∧ gx ≠ t ∧ gx ≠ gw by have := hgx.out; omega)
          clear hgx
          have u1 := cell_of_heap (j := 1) hu7.out rfl
          have u2 := cell_of_heap (j := 2) hu7.out rfl
          have u3 := cell_of_heap (j := 3) hu7.out rfl
          have u4 := cell_of_heap (j := 4) hu7.out rfl
          have u5 := cell_of_heap (j := 5) hu7.out rfl
          rcases hlaw.out with ⟨hacc, hX⟩ | ⟨ak, ac, ax, ay, hok, hacc, hX⟩
          · rw [hacc] at u1 u2 u3 u4 u5
            replace u1 : w7.cell? ⟨bu, 1, none⟩ = some (.int .i64 0) := u1
            replace u2 : w7.cell? ⟨bu, 2, none⟩ = some (.int .i64 0) := u2
            replace u3 : w7.cell? ⟨bu, 3, none⟩ = some (.int .u32 0) := u3
            replace u4 : w7.cell? ⟨bu, 4, none⟩ = some (.int .u32 0) := u4
            replace u5 : w7.cell? ⟨bu, 5, none⟩ = some (.int .u32 0) := u5
            rw [← hX] at hR7 hcc
            have hXl : X.l.length = X'.l.length := by rw [hX]
            replace hX := Lib.hid hX
            rw [hXl]
            clear hacc hlaw hXl
            go_wp2_with (go_at_call 18; go_must (refine (same_rows2 X'.l.length _ rfl rfl hR7.out hN7.out hlen'.out.2.1 hcc.out hcx.out).mono ?_; rintro e w8 ⟨rfl, hB8⟩; have hN8 := Lib.hid (hN7.out.below hB8); have hW8 := Lib.hid (hW7.out.below hB8); have hB8' := Lib.hid (below_then hB7'.out hB7'.out.size hB8); clear hB8))
            go_roundw
            case rel => exact ⟨k + 1, gx, cx, by omega, by go_num, by rw [← hX'.out], by rw [← hX'.out]; exact hcx, by rw [← hX'.out]; exact hN8, Lib.hid (by have := hgx2.out; omega), by rw [← hX'.out]; exact hW8, hB8'⟩
            case measure => simp [intOf]; omega
          · obtain ⟨f1, f2, f3, f4, f5, f6⟩ := do_facts hok
            have hv : accV (doAcc X.l ak ac ax ay).1 = .agg #[.int .i64 ak, .int .i64 ac, .int .u32 ax, .int .u32 ay, .int .u32 ev.acc.old] := by
              unfold accV
              rw [f1, f2, f3, f4, hacc]
            have g1 : ev.acc.kind = ak := by rw [hacc]; exact f1
            have g2 : ev.acc.cell = ac := by rw [hacc]; exact f2
            have g3 : ev.acc.x = ax := by rw [hacc]; exact f3
            have g4 : ev.acc.y = ay := by rw [hacc]; exact f4
            rw [g1] at u1
            rw [g2] at u2
            rw [g3] at u3
            rw [g4] at u4
            have hu7' := hu7.out
            rw [g1, g2, g3, g4] at hu7'
            clear hu7
            have hrd := rdo_walk hR7.out ak ac ax ay ev.acc.old cw hcc.out hok
            rw [hv, ← hX] at hrd
            have hXl : X'.l.length = X.l.length := by rw [hX]; exact f6
            have hk0 : (ak == 0) = false := beq_eq_false_iff_ne.mpr f5
            clear f1 f2 f3 f4 f5 f6 g1 g2 g3 g4 hacc hv hlaw hok
            replace hX := Lib.hid hX
            replace hrd := Lib.hid hrd
            replace hXl := Lib.hid hXl
            generalize ev.acc.old = old at hrd u5 hu7'
            have hu7 := Lib.hid hu7'
            clear hu7'
            go_upto_region 12 with (go_at_call 19; go_must (refine hrd.out.mono ?_; rintro e w8 ⟨rfl, hR8, hB8⟩; have hN8 := Lib.hid (hN7.out.of_block (hB8.block gx hN7.out.lt hgx2.out.2.2.2.2.2)); have hu8 := Lib.hid ((hB8.block bu (blk_lt hu7.out) (Nat.ne_of_gt hub.out.2)).trans hu7.out); have hW8 := Lib.hid (hW7.out.blocks (hB8.block a hW7.out.lt.1 (Ne.symm hgw.out.2.1)) (hB8.block pm hW7.out.lt.2.1 (Ne.symm hgw.out.2.2.1)) (hB8.block g hW7.out.lt.2.2.1 (Ne.symm hgw.out.2.2.2.1)) (hB8.block t hW7.out.lt.2.2.2 (Ne.symm hgw.out.2.2.2.2))); have hB8' := Lib.hid (below_but hB7'.out hB8 hB7'.out.size hgw.out.1); replace hR8 := Lib.hid hR8; clear hB8 hR7 hN7 hu7 hW7 hB7' u1 u2 u3 u4 u5 hrd))
            have hz8 : Below w8.heap.size w8 (w8.alloc (.cells #[.int .i64 ak, .int .i64 ac, .int .u32 ax, .int .u32 ay, .int .u32 old] 38)) := below_alloc (Below.refl _ w8) _
            have hv9 := heap_alloc_new w8 (.cells #[.int .i64 ak, .int .i64 ac, .int .u32 ax, .int .u32 ay, .int .u32 old] 38)
            have hu9 := blk_below hu8.out hz8
            have hR9 := Lib.hid (hR8.out.below hz8)
            have hN9 := Lib.hid (hN8.out.below hz8)
            have hW9 := Lib.hid (hW8.out.below hz8)
            have hB9 := Lib.hid (below_then hB8'.out hB8'.out.size hz8)
            have v0 := cell_of_heap (j := 0) hv9 rfl
            have v1 := cell_of_heap (j := 1) hv9 rfl
            have v2 := cell_of_heap (j := 2) hv9 rfl
            have v3 := cell_of_heap (j := 3) hv9 rfl
            have v4 := cell_of_heap (j := 4) hv9 rfl
            have u1 := cell_of_heap (j := 1) hu9 rfl
            have u2 := cell_of_heap (j := 2) hu9 rfl
            have u3 := cell_of_heap (j := 3) hu9 rfl
            have u4 := cell_of_heap (j := 4) hu9 rfl
            have u5 := cell_of_heap (j := 5) hu9 rfl
            replace hu9 := Lib.hid hu9
            replace hv9 := Lib.hid hv9
            clear hz8 hR8 hN8 hW8 hB8' hu8
            go_wp2_with (go_at_call 18; go_must (refine (same_rows2 X.l.length _ hXl.out hXl.out hR9.out hN9.out hlen.out.2.1 hcc.out (hXl.out ▸ hcx.out)).mono ?_; rintro e w10 ⟨rfl, hB10⟩; have hN10 := Lib.hid (hN9.out.below hB10); have hW10 := Lib.hid (hW9.out.below hB10); have hB10' := Lib.hid (below_then hB9.out hB9.out.size hB10); clear hB10))
            go_roundw
            case rel => exact ⟨k + 1, gx, cx, by omega, by go_num, by rw [← hX'.out], by rw [← hX'.out]; exact hcx, by rw [← hX'.out]; exact hN10, Lib.hid (by have := hgx2.out; omega), by rw [← hX'.out]; exact hW10, hB10'⟩
            case measure => simp [intOf]; omega
        · obtain rfl : m = k := by omega
          go_wp2_with (go_at_call 14; go_must (refine (awake_walk _).mono ?_; rintro e w2 ⟨rfl, hB2⟩; replace hB2 := Lib.hid (below_then hB.out hB.out.size hB2)))
          go_ret
          exact ⟨rfl, hB2.out⟩
  · have hnew := new_no kind mode n base hgood w
    have hmax := Kd.C_max hC
    generalize l.length = m at *
    replace hnew := Lib.hid hnew
    clear hC hgood
    go_enter Tryz.func4, Tryz.ntmps4
    go_wp2_with (first
      | (go_at_call 13; go_must (refine hnew.out.mono ?_; rintro e w1 ⟨er, her, rfl, hB⟩; replace hB := Lib.hid hB))
      | (go_at_call 14; go_must (refine (awake_walk _).mono ?_; rintro e w2 ⟨rfl, hB2⟩; replace hB2 := Lib.hid (below_then hB.out hB.out.size hB2))))
    go_ret
    exact ⟨rfl, hB2.out⟩

end Go.Proofs.YtkmlefbdhdlfmaaGreat.Wo
