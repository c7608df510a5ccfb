/- The law WorldRuns: the walk. -/
import Derived.Test.YtkmlefbdhdlfmaaGreatRu
namespace Go.Proofs.YtkmlefbdhdlfmaaGreat.Wo
open Go.RowKit Go.Proofs.YtkmlefbdhdlfmaaGreatW.PrintWords Go.Proofs.YtkmlefbdhdlfmaaGreatW.PrintMore Go.Proofs.YtkmlefbdhdlfmaaGreatW.PrintLast
open Stile
set_option linter.unusedSimpArgs false
set_option linter.unusedVariables false
set_option maxRecDepth 100000
variable {w w1 w2 w0 V V1 : World} {a pm g t kf n b B p cap gc gt : Nat} {W : Stile.W} {ok : Nat → Prop}
theorem wr_frozen {l : List Int} (h : Wr w g l) (j : Nat) : w.frozen? ⟨g, j, none⟩ = false := by
  obtain ⟨cells, hc, _⟩ := h.row
  exact blk_frozen hc j
theorem wr_set {l : List Int} (h : Wr w g l) (i : Nat) (hi : i < l.length) (x : Int) : Wr (w.setCell ⟨g, i, none⟩ (.int .u32 x)) g (l.set i x) := by
  obtain ⟨cells, hc, hr⟩ := h.row
  have hsz : i < cells.size := (Array.getElem?_eq_some_iff.1 (hr i hi)).1
  refine ⟨_, blk_set hc i _, fun j hj => ?_⟩
  rw [List.length_set] at hj
  by_cases e : j = i
  · subst e
    rw [Array.getElem?_setIfInBounds_self_of_lt hsz]
    simp [List.getD_eq_getElem?_getD, hj]
  · rw [Array.getElem?_setIfInBounds_ne (by omega), hr j hj]
    simp [List.getD_eq_getElem?_getD, List.getElem?_set_ne (by omega : i ≠ j)]
theorem tk11 {xs : List Task} (h : Tk w t xs.length (fun i j => taskV (xs.getD i ⟨0, .zero⟩) j)) {i : Nat} (hi : i < xs.length) (x : Task) (hx : x = xs.getD i ⟨0, .zero⟩) :
    w.cell? ⟨t, i * 11, none⟩ = some (.int .i64 x.hold) ∧ w.cell? ⟨t, i * 11 + 1, none⟩ = some (.int .i64 x.f.op) ∧ w.cell? ⟨t, i * 11 + 2, none⟩ = some (.int .i64 x.f.line) ∧ w.cell? ⟨t, i * 11 + 3, none⟩ = some (.int .u32 x.f.a) ∧ w.cell? ⟨t, i * 11 + 4, none⟩ = some (.int .u32 x.f.b) ∧ w.cell? ⟨t, i * 11 + 5, none⟩ = some (.int .i64 x.f.stage) ∧ w.cell? ⟨t, i * 11 + 6, none⟩ = some (.bool x.f.on) ∧ w.cell? ⟨t, i * 11 + 7, none⟩ = some (.int .i64 x.f.wc) ∧ w.cell? ⟨t, i * 11 + 8, none⟩ = some (.int .i64 x.f.wi) ∧ w.cell? ⟨t, i * 11 + 9, none⟩ = some (.bool x.f.hit) ∧ w.cell? ⟨t, i * 11 + 10, none⟩ = some (.int .i64 x.f.ret) := by
  subst hx
  exact ⟨h.cell (j := 0) hi (by decide), h.cell (j := 1) hi (by decide), h.cell (j := 2) hi (by decide), h.cell (j := 3) hi (by decide), h.cell (j := 4) hi (by decide), h.cell (j := 5) hi (by decide), h.cell (j := 6) hi (by decide), h.cell (j := 7) hi (by decide), h.cell (j := 8) hi (by decide), h.cell (j := 9) hi (by decide), h.cell (j := 10) hi (by decide)⟩
set_option maxHeartbeats 8000000 in
theorem runs_walk (kind mode n base : Int) (hb : W32 base) (A : Option Addr) (c : Nat) (l : List (Int × Int)) (w : World) (hC : pk.C w A l.length l) :
    Calls Tryz.prog 5 #[.int .i64 kind, .int .i64 mode, .int .i64 n, .int .u32 base, .slice A l.length c] w fun e w' => e = .returned (.bool true) ∧ Below w.heap.size w w' := by
  by_cases hgood : (1 ≤ kind ∧ kind ≤ 6) ∧ (mode = 1 ∨ mode = 2) ∧ (1 ≤ n ∧ n ≤ 64)
  · obtain ⟨hk, hm, hn⟩ := hgood
    have hG0 := newW_good kind mode n base hk hm hn hb
    have hnew := fun w => new_run kind mode n base hk hm hn hb w
    obtain ⟨W0, hW0⟩ : ∃ W0, W0 = newW kind mode n base := ⟨_, rfl⟩
    rw [← hW0] at hG0
    simp only [← hW0] at hnew
    obtain ⟨m, hml⟩ : ∃ m, m = l.length := ⟨_, rfl⟩
    have hmax := Kd.C_max hC
    have hrun := fun (w' : World) (a pm g t kf : Nat) (hl : l.length ≤ 2000) (h : Wd w' a pm g t kf W0) (hCC : ∀ w'', Bt g t w' w'' → pk.C w'' A l.length l) => run_picks h hG0 A c hCC hl
    rw [← hml] at hC hmax ⊢
    simp only [← hml] at hrun
    replace hW0 := Lib.hid hW0
    replace hnew := Lib.hid hnew
    replace hrun := Lib.hid hrun
    replace hG0 := Lib.hid hG0
    replace hk := Lib.hid hk
    replace hm := Lib.hid hm
    replace hn := Lib.hid hn
    replace hC := Lib.hid hC
    replace hml := Lib.hid hml
    replace hb := Lib.hid hb
    go_enter Tryz.func5, Tryz.ntmps5
    go_upto_region 2 with (go_at_call 13; go_must (refine (hnew.out _).mono ?_; rintro e w1 ⟨a, pm, g, t, kf, rfl, hV, hB, ha, hp, hg, ht⟩; have hlt := Lib.hid hV.lt; replace hV := Lib.hid hV; replace hB := Lib.hid hB))
    go_upto_region 4 with (go_at_call 13; go_must (refine (hnew.out _).mono ?_; rintro e w2 ⟨a2, pm2, g2, t2, kf2, rfl, hW, hB2, ha2, hp2, hg2, ht2⟩; replace hV := Lib.hid (hV.out.below hB2); have hB' := Lib.hid (below_then hB.out hB.out.size hB2); have hge := Lib.hid (And.intro hB.out.size (And.intro ha2 (And.intro hp2 (And.intro hg2 ht2)))); replace hW := Lib.hid hW; clear hB2 hB ha2 hp2 hg2 ht2))
    generalize w1.heap.size = s1 at hlt hge ⊢
    go_upto_region 6 with (first
      | (go_at_call 20; go_must (refine (n_nil _).mono ?_; rintro e w3 ⟨rfl, rfl⟩))
      | (go_at_call 21; go_must (refine (hold_nil 0 _).mono ?_; rintro e w3 ⟨rfl, rfl⟩))
      | (go_at_call 22; go_must (refine (busy_nil 0 _).mono ?_; rintro e w3 ⟨rfl, rfl⟩))
      | (go_at_call 15; go_must (refine (stuck_nil 0 _).mono ?_; rintro e w3 ⟨rfl, rfl⟩))
      | (go_at_call 17; go_must (refine (pick_nil 0 1 _).mono ?_; rintro e w5 ⟨rfl, hB5⟩; replace hV := Lib.hid (hV.out.below hB5); replace hW := Lib.hid (hW.out.below hB5); have hB5' := Lib.hid (below_then hB'.out hB'.out.size hB5); clear hB5 hB'))
      | ((with_reducible refine gate_ (.field 41 (.tmp 61) 0) rfl ?_); go_must (refine wp_valueG (v := .bool false) (some 62) rfl rfl (field_exec rfl rfl (field_ran _ _ _ _ _ _ _ _)) ?_))
      | (go_at_call 23; go_must (refine (run_nil A c m l (Kd.C_below hC.out hB5'.out)).mono ?_; rintro e w6 ⟨An, cn, rfl, hB6⟩; replace hV := Lib.hid (hV.out.below hB6); replace hW := Lib.hid (hW.out.below hB6); have hB6' := Lib.hid (below_then hB5'.out hB5'.out.size hB6); clear hB6 hB5'))
      | (go_at_call 16; go_must (refine (state_nil _).mono ?_; rintro e w7 ⟨rfl, hB7⟩; replace hV := Lib.hid (hV.out.below hB7); replace hW := Lib.hid (hW.out.below hB7); have hB := Lib.hid (below_then hB6'.out hB6'.out.size hB7); clear hB7 hB6'))
      | ((with_reducible refine gate_ (.field 35 (.tmp 73) 3) rfl ?_); go_must (refine wp_valueG (v := .slice none 0 0) (some 74) rfl rfl (field_exec rfl rfl (field_cells0 _)) ?_)))
    by_cases hlong : m > 1000
    · have hl : decide ((m : Int) > 1000) = true := decide_eq_true (by omega)
      clear hV hW
      go_wp2_with (go_at_call 14; go_must (refine (awake_walk _).mono ?_; rintro e w8 ⟨rfl, hB8⟩; replace hB8 := Lib.hid (below_then hB.out hB.out.size hB8)))
      go_ret
      exact ⟨rfl, hB8.out⟩
    · have hl : decide ((m : Int) > 1000) = false := decide_eq_false (by omega)
      have hm2 := Lib.hid (show m ≤ 2000 by omega)
      have hfew := runPicks_few l hG0.out
      replace hfew := Lib.hid hfew
      have hGX := runPicks_good l hG0.out
      replace hGX := Lib.hid hGX
      go_upto_region 9 with (go_at_call 23; go_must (refine (hrun.out _ _ _ _ _ _ hm2.out hV.out (fun w' hb => Kd.C_below hC.out (below_bt hB.out hb hB.out.size hg ht))).mono ?_; rintro e w8 ⟨nv, rfl, hN, hV8, hb8⟩; have hW8 := Lib.hid (hW.out.blocks (hb8.block a2 hW.out.lt.1 (by have := hlt.out; have := hge.out; omega) (by have := hlt.out; have := hge.out; omega)) (hb8.block pm2 hW.out.lt.2.1 (by have := hlt.out; have := hge.out; omega) (by have := hlt.out; have := hge.out; omega)) (hb8.block g2 hW.out.lt.2.2.1 (by have := hlt.out; have := hge.out; omega) (by have := hlt.out; have := hge.out; omega)) (hb8.block t2 hW.out.lt.2.2.2 (by have := hlt.out; have := hge.out; omega) (by have := hlt.out; have := hge.out; omega))); have hB8 := Lib.hid (below_bt hB.out hb8 hB.out.size hg ht); obtain ⟨An, cn, rfl⟩ := Kd.R_slice hN; have hN8 := Lib.hid (Kd.R_mono (Kd.R_bound hN) (fun q hq => show q ≠ g2 ∧ q ≠ t2 by have h1 := hq.2.1; have h2 := hW.out.lt; omega)); have hlt8 := Lib.hid hV8.lt; replace hV8 := Lib.hid hV8; clear hN hb8 hB hV hW))
      obtain ⟨ns, hns⟩ : ∃ ns, ns = (runPicks W0 l).1 := ⟨_, rfl⟩
      obtain ⟨X, hX⟩ : ∃ X, X = (runPicks W0 l).2 := ⟨_, rfl⟩
      rw [← hns] at hN8 ⊢
      rw [← hX] at hV8 hGX
      replace hns := Lib.hid hns
      replace hX := Lib.hid hX
      go_upto_region 11 with (fail)
      go_loopw [18, 17] (fun i v wr => ∃ k : Nat, k ≤ m ∧ i = .int .i64 k ∧ Hid (nk.R 44 wr w8.heap.size (fun k => k ≠ g2 ∧ k ≠ t2) v (runPicks W0 (l.take k)).1) ∧ Hid (Wd wr a2 pm2 g2 t2 kf2 (runPicks W0 (l.take k)).2) ∧ Hid (Bt g2 t2 w8 wr)) (fun i _ _ => m - (intOf i).toNat)
      case atStart => exact ⟨0, Nat.zero_le _, rfl, Lib.hid (Kd.R_nil _ _ _ _ _), hW8, Lib.hid (Bt.refl _ _ _)⟩
      case round =>
        obtain ⟨k, hk, rfl, hR, hW, hBt⟩ := hrel
        have hlt82 := Lib.hid hW8.out.lt
        clear hW8
        have hB9 := Lib.hid (below_bt hB8.out hBt.out hB8.out.size (by have := hge.out; omega) (by have := hge.out; omega))
        by_cases hkm : k < m
        · obtain ⟨ad, x, rfl, hx, d0, d1⟩ := at_pk (Kd.C_below hC.out hB9.out) k hkm
          obtain ⟨x0, x1⟩ := x
          have hnext : runPicks W0 (l.take (k + 1)) = ((runPicks W0 (l.take k)).1 ++ (pick (runPicks W0 (l.take k)).2 x0 x1).1.notes, (pick (runPicks W0 (l.take k)).2 x0 x1).2) := by rw [take_next hx, runPicks_snoc]
          have hGk := runPicks_good (l.take k) hG0.out
          have hfew1 := runPicks_few (l.take k) hG0.out
          have hfew2 := pick_few hGk x0 x1
          have hlen : (l.take k).length ≤ 2000 := by rw [List.length_take]; omega
          have hcap : ((runPicks W0 (l.take k)).1.length + (pick (runPicks W0 (l.take k)).2 x0 x1).1.notes.length) * 32 ≤ 140737488355328 := by omega
          replace hnext := Lib.hid hnext
          replace hGk := Lib.hid hGk
          replace hcap := Lib.hid hcap
          clear hfew1 hfew2 hlen
          replace hx := Lib.hid hx
          go_wp2_with (first
            | (go_at_call 17; go_must (refine (pick_run hW.out hGk.out x0 x1).mono ?_; rintro e w9 ⟨nv, rfl, hN, hW9, hB9⟩; have hR9 := Lib.hid (Kd.R_step hR.out (fun q hq hlt => hB9.block q hlt hq.1 hq.2)); have hBt9 := Lib.hid (hBt.out.trans hB9); obtain ⟨Ao, co, rfl⟩ := Kd.R_slice hN; have hNC := Lib.hid (Kd.R_reads' hN).2.2; have hlt9 := Lib.hid (And.intro hW.out.lt hW9.lt); replace hW9 := Lib.hid hW9; clear hN hB9 hR hW hBt d0 d1; unfold evV; obtain ⟨ev, hev⟩ : ∃ ev, ev = (pick (runPicks W0 (l.take k)).2 x0 x1).1 := ⟨_, rfl⟩; rw [← hev] at hNC hcap ⊢; replace hev := Lib.hid hev))
            | ((with_reducible refine gate_ (.field 41 (.tmp 136) 2) rfl ?_); go_must (refine wp_value (v := .slice Ao ev.notes.length co) (some 137) rfl rfl (field_exec rfl rfl (field_notes _ _ _ _ _ _ _ _ rfl)) ?_))
            | ((with_reducible refine gate_builtin (b := .append) (xs := #[.tmp 130, .tmp 137]) rfl ?_); at_builtin; go_must (
                refine Kd.R_append_rows nk (w0 := w9) (W := w9) w8.heap.size rfl (.tmp 130) (.tmp 137) 39 44 (.agg #[.int .i64 0, .int .i64 0, .int .i64 0, .int .i64 0]) 32 rfl Tryz.underlying39 info_note rfl (by decide) (by decide) u17 (runPicks W0 (l.take k)).1 ev.notes Ao ev.notes.length co (fun k => k ≠ g2 ∧ k ≠ t2) (fun _ => False) rfl rfl hR9.out hNC.out (fun x cs h => by rw [nk_K h]; exact nk_M x) (fun _ hk => hk.elim) (fun q hq => ⟨by have := hlt9.out.2.2.2.1; omega, by have := hlt9.out.2.2.2.2; omega⟩) (Below.refl _ _) hBt9.out.size hcap.out ?_;
                intro v3 w3 hR3 hb3 _ _;
                (have hW3 := Lib.hid (hW9.out.blocks (hb3.block a2 hlt82.out.1) (hb3.block pm2 hlt82.out.2.1) (hb3.block g2 hlt82.out.2.2.1) (hb3.block t2 hlt82.out.2.2.2)));
                (have hB4 : Hid (Bt g2 t2 w8 w3) := Lib.hid ⟨hb3.os.trans hBt9.out.os, hb3.tape.trans hBt9.out.tape, hb3.output.trans hBt9.out.output, Nat.le_trans hBt9.out.size hb3.size, fun q hq h1 h2 => (hb3.block q hq).trans (hBt9.out.block q hq h1 h2)⟩);
                replace hR3 := Lib.hid hR3)))
          go_roundw
          case rel => exact ⟨k + 1, by omega, by go_num, Lib.hid (by rw [hnext.out, ← hev.out]; exact hR3.out), Lib.hid (by rw [hnext.out]; exact hW3.out), hB4⟩
          case measure => simp [intOf]; omega
        · obtain rfl : m = k := by omega
          rename World => Z
          have hall : l.take m = l := by rw [hml.out, List.take_length]
          rw [hall] at hR hW
          rw [← hns.out] at hR
          rw [← hX.out] at hW
          obtain ⟨Ao, co, rfl⟩ := Kd.R_slice hR.out
          have hO := Lib.hid (Kd.R_reads' hR.out).2.2
          have hNC := Lib.hid (Kd.R_reads' (Kd.R_step hN8.out (fun q hq hlt => hBt.out.block q hlt hq.1 hq.2))).2.2
          have hV := Lib.hid (hV8.out.blocks (hBt.out.block a hlt8.out.1 (by have := hlt.out; have := hge.out; omega) (by have := hlt.out; have := hge.out; omega)) (hBt.out.block pm hlt8.out.2.1 (by have := hlt.out; have := hge.out; omega) (by have := hlt.out; have := hge.out; omega)) (hBt.out.block g hlt8.out.2.2.1 (by have := hlt.out; have := hge.out; omega) (by have := hlt.out; have := hge.out; omega)) (hBt.out.block t hlt8.out.2.2.2 (by have := hlt.out; have := hge.out; omega) (by have := hlt.out; have := hge.out; omega)))
          have hlen := Lib.hid (good_len hGX.out)
          clear hBt hV8 hN8 hR hB8
          go_upto_region 15 with (go_at_call 16; go_must (refine (state_walk hV.out hlen.out.1 hlen.out.2.1 hlen.out.2.2.1 hlen.out.2.2.2).mono ?_; rintro e w10 ⟨gc, cc, gt, ct, rfl, hS, hgc, hgt, hZ10, hcc⟩; have hsz := Lib.hid hZ10.size; replace hgc := Lib.hid hgc; replace hgt := Lib.hid hgt; replace hZ10 := Lib.hid hZ10; replace hS := Lib.hid hS; clear hcc))
          have hz := heap_alloc_new w10 (.cells #[.int .i64 X.kind, .int .i64 X.mode, .int .i64 X.n, .slice (some ⟨gc, 0, none⟩) X.l.length cc, .slice (some ⟨gt, 0, none⟩) X.t.length ct] 35)
          have hzb : Below w10.heap.size w10 (w10.alloc (.cells #[.int .i64 X.kind, .int .i64 X.mode, .int .i64 X.n, .slice (some ⟨gc, 0, none⟩) X.l.length cc, .slice (some ⟨gt, 0, none⟩) X.t.length ct] 35)) := below_alloc (Below.refl _ w10) _
          have hS11 := Lib.hid (hS.out.below hzb)
          have hZ := Lib.hid (below_then hZ10.out hZ10.out.size hzb)
          have hne := Lib.hid (show gc ≠ w10.heap.size ∧ gt ≠ w10.heap.size ∧ gc ≠ gt from by
            have h1 := hS.out.lt
            obtain ⟨x1, e1, _⟩ := hS.out.cells.row
            obtain ⟨x2, e2, _⟩ := hS.out.tasks.row
            exact ⟨Nat.ne_of_lt h1.1, Nat.ne_of_lt h1.2, blk_ne e1 e2 (by decide)⟩)
          have hbz := Lib.hid (show Z.heap.size ≤ w10.heap.size from hsz.out)
          replace hz := Lib.hid hz
          clear hzb hS hZ10 hsz
          generalize (w10.alloc (.cells #[.int .i64 X.kind, .int .i64 X.mode, .int .i64 X.n, .slice (some ⟨gc, 0, none⟩) X.l.length cc, .slice (some ⟨gt, 0, none⟩) X.t.length ct] 35)) = V1 at hz hS11 hZ ⊢
          generalize w10.heap.size = bz at hz hne hbz ⊢
          have hcap : X.l.length ≤ 2000 := hlen.out.2.1
          have htap : X.t.length ≤ 2000 := hlen.out.2.2.2
          go_upto_region 16 with (fail)
          go_loopw [20] (fun i wv => ∃ (j : Nat) (l' : List Int), j ≤ X.l.length ∧ i = .int .i64 j ∧ Hid (l'.length = X.l.length) ∧ Hid (Wr wv gc l') ∧ Hid (Tk wv gt X.t.length (fun i j => taskV (X.t.getD i ⟨0, .zero⟩) j)) ∧ Hid (wv.heap[bz]? = some (.cells #[.int .i64 X.kind, .int .i64 X.mode, .int .i64 X.n, .slice (some ⟨gc, 0, none⟩) X.l.length cc, .slice (some ⟨gt, 0, none⟩) X.t.length ct] 35 (0, 0))) ∧ Hid (Below Z.heap.size Z wv)) (fun i _ => X.l.length - (intOf i).toNat)
          case atStart => exact ⟨0, X.l, Nat.zero_le _, rfl, Lib.hid rfl, Lib.hid hS11.out.cells, Lib.hid hS11.out.tasks, hz, hZ⟩
          case round =>
            clear hS11 hz hZ
            obtain ⟨j, l', hj, rfl, hl', hWr, hTk, hz, hZ⟩ := hrel
            have y3 := cell_of_heap (j := 3) hz.out rfl
            by_cases hjl : j < X.l.length
            · have hjl' : j < l'.length := by rw [hl'.out]; exact hjl
              have c0 := hWr.out.cell hjl'
              have c1 := wr_frozen hWr.out j
              replace hjl' := Lib.hid hjl'
              go_wp2
              have k1 := wr_set hWr.out j hjl'.out (IntKind.u32.wrap (l'.getD j 0 + 1))
              have k2 := hTk.out.far ⟨gc, j, none⟩ (Ne.symm hne.out.2.2) (.int .u32 (IntKind.u32.wrap (l'.getD j 0 + 1)))
              have k3 := blk_far hz.out (p := ⟨gc, j, none⟩) (Ne.symm hne.out.1) (.int .u32 (IntKind.u32.wrap (l'.getD j 0 + 1)))
              have k4 := hZ.out.setCell (p := ⟨gc, j, none⟩) hgc.out (.int .u32 (IntKind.u32.wrap (l'.getD j 0 + 1)))
              replace k1 := Lib.hid k1
              replace k2 := Lib.hid k2
              replace k3 := Lib.hid k3
              replace k4 := Lib.hid k4
              go_roundw
              case rel => exact ⟨j + 1, _, by omega, by go_num, Lib.hid ((List.length_set ..).trans hl'.out), k1, k2, k3, k4⟩
              case measure => simp [intOf]; omega
            · obtain rfl : j = X.l.length := by omega
              clear hWr hl'
              go_upto_region 20 with (fail)
              clear y3
              go_loopw [21] (fun i wv => ∃ (j : Nat) (f : Nat → Nat → Value), j ≤ X.t.length ∧ i = .int .i64 j ∧ Hid (Tk wv gt X.t.length f) ∧ Hid (wv.heap[bz]? = some (.cells #[.int .i64 X.kind, .int .i64 X.mode, .int .i64 X.n, .slice (some ⟨gc, 0, none⟩) X.l.length cc, .slice (some ⟨gt, 0, none⟩) X.t.length ct] 35 (0, 0))) ∧ Hid (Below Z.heap.size Z wv)) (fun i _ => X.t.length - (intOf i).toNat)
              case atStart => exact ⟨0, _, Nat.zero_le _, rfl, hTk, hz, hZ⟩
              case round =>
                clear hTk hz hZ
                obtain ⟨j, f, hj, rfl, hTk, hz, hZ⟩ := hrel
                have y4 := cell_of_heap (j := 4) hz.out rfl
                by_cases hjl : j < X.t.length
                · have c1 := hTk.out.frozen (j * 11)
                  have c2 : wr.cell? ⟨gt, j * 11, none⟩ = some (f j 0) := hTk.out.cell (j := 0) hjl (by decide)
                  go_wp2
                  have k2 := Lib.hid (hTk.out.set j 0 hjl (by decide) (.int .i64 9))
                  have k3 := Lib.hid (blk_far hz.out (p := ⟨gt, j * 11, none⟩) (Ne.symm hne.out.2.1) (.int .i64 9))
                  have k4 := Lib.hid (hZ.out.setCell (p := ⟨gt, j * 11, none⟩) hgt.out (.int .i64 9))
                  go_roundw
                  case rel => exact ⟨j + 1, _, by omega, by go_num, k2, k3, k4⟩
                  case measure => simp [intOf]; omega
                · obtain rfl : j = X.t.length := by omega
                  have hW2 := Lib.hid (hW.out.below hZ.out)
                  have hV2 := Lib.hid (hV.out.below hZ.out)
                  have hB2 := Lib.hid (below_then hB9.out hB9.out.size hZ.out)
                  have hO2 := Lib.hid (Kd.C_below hO.out hZ.out)
                  have hN2 := Lib.hid (Kd.C_below hNC.out hZ.out)
                  clear hW hV hB9 hO hNC hTk hz hZ
                  go_upto_region 24 with (first
                    | (go_at_call 16; go_must (first
                        | (refine (state_walk hV2.out hlen.out.1 hlen.out.2.1 hlen.out.2.2.1 hlen.out.2.2.2).mono ?_; rintro e w12 ⟨gA, cA, tA, uA, rfl, hSA, _, _, hZA, hcA⟩; replace hcA := Lib.hid hcA; replace hSA := Lib.hid hSA; have hW3 := Lib.hid (hW2.out.below hZA); have hB3 := Lib.hid (below_then hB2.out hB2.out.size hZA); have hO3 := Lib.hid (Kd.C_below hO2.out hZA); have hN3 := Lib.hid (Kd.C_below hN2.out hZA); clear hZA hW2 hV2 hB2 hO2 hN2)
                        | (refine (state_walk hW3.out hlen.out.1 hlen.out.2.1 hlen.out.2.2.1 hlen.out.2.2.2).mono ?_; rintro e w13 ⟨gB, cB, tB, uB, rfl, hSB, _, _, hZB, hcB⟩; replace hcB := Lib.hid hcB; replace hSB := Lib.hid hSB; replace hSA := Lib.hid (hSA.out.below hZB); have hB4 := Lib.hid (below_then hB3.out hB3.out.size hZB); have hO4 := Lib.hid (Kd.C_below hO3.out hZB); have hN4 := Lib.hid (Kd.C_below hN3.out hZB); clear hZB hW3 hB3 hO3 hN3)))
                    | ((with_reducible refine gate_store (p := 22) rfl ?_); go_must (
                        have hxA := blk_alloc (heap_alloc_new w13 (.cells #[.int .i64 0, .int .i64 0, .int .i64 0, .slice none 0 0, .slice none 0 0] 35)) (.cells #[.int .i64 0, .int .i64 0, .int .i64 0, .slice none 0 0, .slice none 0 0] 35);
                        have hxB : ((w13.alloc (.cells #[.int .i64 0, .int .i64 0, .int .i64 0, .slice none 0 0, .slice none 0 0] 35)).alloc (.cells #[.int .i64 0, .int .i64 0, .int .i64 0, .slice none 0 0, .slice none 0 0] 35)).heap[w13.heap.size + 1]? = some (.cells #[.int .i64 0, .int .i64 0, .int .i64 0, .slice none 0 0, .slice none 0 0] 35 (0, 0)) := by simpa using heap_alloc_new (w13.alloc (.cells #[.int .i64 0, .int .i64 0, .int .i64 0, .slice none 0 0, .slice none 0 0] 35)) (.cells #[.int .i64 0, .int .i64 0, .int .i64 0, .slice none 0 0, .slice none 0 0] 35);
                        have hzV := Lib.hid (below_alloc (below_alloc (Below.refl w13.heap.size w13) (.cells #[.int .i64 0, .int .i64 0, .int .i64 0, .slice none 0 0, .slice none 0 0] 35)) (.cells #[.int .i64 0, .int .i64 0, .int .i64 0, .slice none 0 0, .slice none 0 0] 35));
                        generalize ((w13.alloc (.cells #[.int .i64 0, .int .i64 0, .int .i64 0, .slice none 0 0, .slice none 0 0] 35)).alloc (.cells #[.int .i64 0, .int .i64 0, .int .i64 0, .slice none 0 0, .slice none 0 0] 35)) = V3 at hxA hxB hzV ⊢;
                        replace hxA := Lib.hid hxA;
                        replace hxB := Lib.hid ((setCells_far (g := w13.heap.size) [.int .i64 X.kind, .int .i64 X.mode, .int .i64 X.n, .slice (some ⟨gA, 0, none⟩) X.l.length cA, .slice (some ⟨tA, 0, none⟩) X.t.length uA] 0 (w13.heap.size + 1) (Nat.succ_ne_self _)).trans hxB);
                        refine wp_store rfl rfl rfl rfl rfl (run_store_run 35 (.agg #[.int .i64 X.kind, .int .i64 X.mode, .int .i64 X.n, .slice (some ⟨gA, 0, none⟩) X.l.length cA, .slice (some ⟨tA, 0, none⟩) X.t.length uA]) [.int .i64 X.kind, .int .i64 X.mode, .int .i64 X.n, .slice (some ⟨gA, 0, none⟩) X.l.length cA, .slice (some ⟨tA, 0, none⟩) X.t.length uA] (o := 0) hxA.out rfl (by kernel_rfl) (Nat.le_refl _) (by simp [Value.oneCell'])) ?_))
                    | ((with_reducible refine gate_store (p := 23) rfl ?_); go_must (
                        refine wp_store rfl rfl rfl rfl rfl (run_store_run 35 (.agg #[.int .i64 X.kind, .int .i64 X.mode, .int .i64 X.n, .slice (some ⟨gB, 0, none⟩) X.l.length cB, .slice (some ⟨tB, 0, none⟩) X.t.length uB]) [.int .i64 X.kind, .int .i64 X.mode, .int .i64 X.n, .slice (some ⟨gB, 0, none⟩) X.l.length cB, .slice (some ⟨tB, 0, none⟩) X.t.length uB] (o := 0) hxB.out rfl (by kernel_rfl) (Nat.le_refl _) (by simp [Value.oneCell'])) ?_)))
                  have hzW := Lib.hid (below_setCells (below_setCells hzV.out w13.heap.size 0 (Nat.le_refl _) [.int .i64 X.kind, .int .i64 X.mode, .int .i64 X.n, .slice (some ⟨gA, 0, none⟩) X.l.length cA, .slice (some ⟨tA, 0, none⟩) X.t.length uA]) (w13.heap.size + 1) 0 (Nat.le_succ _) [.int .i64 X.kind, .int .i64 X.mode, .int .i64 X.n, .slice (some ⟨gB, 0, none⟩) X.l.length cB, .slice (some ⟨tB, 0, none⟩) X.t.length uB])
                  have hA5 := (setCells_far (g := w13.heap.size + 1) [.int .i64 X.kind, .int .i64 X.mode, .int .i64 X.n, .slice (some ⟨gB, 0, none⟩) X.l.length cB, .slice (some ⟨tB, 0, none⟩) X.t.length uB] 0 w13.heap.size (Nat.ne_of_lt (Nat.lt_succ_self _))).trans (blk_setAll hxA.out [.int .i64 X.kind, .int .i64 X.mode, .int .i64 X.n, .slice (some ⟨gA, 0, none⟩) X.l.length cA, .slice (some ⟨tA, 0, none⟩) X.t.length uA] rfl)
                  have hB5 := blk_setAll hxB.out [.int .i64 X.kind, .int .i64 X.mode, .int .i64 X.n, .slice (some ⟨gB, 0, none⟩) X.l.length cB, .slice (some ⟨tB, 0, none⟩) X.t.length uB] rfl
                  have hSA5 := Lib.hid (hSA.out.below hzW.out)
                  have hSB5 := Lib.hid (hSB.out.below hzW.out)
                  have hO5 := Lib.hid (Kd.C_below hO4.out hzW.out)
                  have hN5 := Lib.hid (Kd.C_below hN4.out hzW.out)
                  have hBB := Lib.hid (below_then hB4.out hB4.out.size hzW.out)
                  clear hxA hxB hzV hSA hSB hO4 hN4 hB4 hzW
                  generalize ((V3.setCells w13.heap.size 0 [.int .i64 X.kind, .int .i64 X.mode, .int .i64 X.n, .slice (some ⟨gA, 0, none⟩) X.l.length cA, .slice (some ⟨tA, 0, none⟩) X.t.length uA]).setCells (w13.heap.size + 1) 0 [.int .i64 X.kind, .int .i64 X.mode, .int .i64 X.n, .slice (some ⟨gB, 0, none⟩) X.l.length cB, .slice (some ⟨tB, 0, none⟩) X.t.length uB]) = V5 at hA5 hB5 hSA5 hSB5 hO5 hN5 hBB ⊢
                  generalize w13.heap.size = sA at hA5 hB5 ⊢
                  have y3 := cell_of_heap (j := 3) hA5 rfl
                  have z3 := cell_of_heap (j := 3) hB5 rfl
                  replace hA5 := Lib.hid hA5
                  replace hB5 := Lib.hid hB5
                  go_upto_region 26 with (first
                    | (go_at_call 24; go_must (refine (notes_same _ _ hN5.out hO5.out).mono ?_; rintro e w14 ⟨rfl, hX14⟩; replace hA5 := blk_below hA5.out hX14; replace hB5 := blk_below hB5.out hX14; have y3 := cell_of_heap (j := 3) hA5 rfl; have z3 := cell_of_heap (j := 3) hB5 rfl; replace hA5 := Lib.hid hA5; replace hB5 := Lib.hid hB5; replace hSA5 := Lib.hid (hSA5.out.below hX14); replace hSB5 := Lib.hid (hSB5.out.below hX14); replace hBB := Lib.hid (below_then hBB.out hBB.out.size hX14); clear hX14 hO5 hN5))
                    | (go_at_call 18; go_must (refine (same_rows hSA5.out.cells hSB5.out.cells hlen.out.2.1 hcA.out hcB.out).mono ?_; rintro e w15 ⟨rfl, hX15⟩; replace hA5 := blk_below hA5.out hX15; replace hB5 := blk_below hB5.out hX15; have y4 := cell_of_heap (j := 4) hA5 rfl; have z4 := cell_of_heap (j := 4) hB5 rfl; replace hA5 := Lib.hid hA5; replace hB5 := Lib.hid hB5; replace hSA5 := Lib.hid (hSA5.out.below hX15); replace hSB5 := Lib.hid (hSB5.out.below hX15); replace hBB := Lib.hid (below_then hBB.out hBB.out.size hX15); clear hX15)))
                  replace y4 := Lib.hid y4
                  replace z4 := Lib.hid z4
                  go_wp2
                  go_loopw [24] (fun i wv => ∃ j : Nat, j ≤ X.t.length ∧ i = .int .i64 j ∧ Hid (Below w15.heap.size w15 wv)) (fun i _ => X.t.length - (intOf i).toNat)
                  case atStart => exact ⟨0, Nat.zero_le _, rfl, Lib.hid (Below.refl _ _)⟩
                  case round =>
                    obtain ⟨j, hj, rfl, hBj⟩ := hrel
                    have y4j := cell_of_heap (j := 4) (blk_below hA5.out hBj.out) rfl
                    have z4j := cell_of_heap (j := 4) (blk_below hB5.out hBj.out) rfl
                    by_cases hjt : j < X.t.length
                    · obtain ⟨x, hx⟩ : ∃ x, x = X.t.getD j ⟨0, .zero⟩ := ⟨_, rfl⟩
                      have hs := tk11 (hSA5.out.tasks.below hBj.out) hjt x hx
                      have ht := tk11 (hSB5.out.tasks.below hBj.out) hjt x hx
                      obtain ⟨s0, s1, s2, s3, s4, s5, s6, s7, s8, s9, s10⟩ := hs
                      obtain ⟨t0, t1, t2, t3, t4, t5, t6, t7, t8, t9, t10⟩ := ht
                      replace hx := Lib.hid hx
                      go_upto_region 29 with (fail)
                      go_quiet (fail)
                      go_wp2
                      go_roundw
                      case rel => exact ⟨j + 1, by omega, by go_num, Lib.hid (pw_below_drewN hBj.out nq)⟩
                      case measure => simp [intOf]; omega
                    · obtain rfl : j = X.t.length := by omega
                      have hBe := Lib.hid (below_then hBB.out hBB.out.size hBj.out)
                      go_wp2_with (go_at_call 14; go_must (refine (awake_walk _).mono ?_; rintro e w16 ⟨rfl, hB16⟩; replace hB16 := Lib.hid (below_then hBe.out hBe.out.size hB16)))
                      go_ret
                      exact ⟨rfl, hB16.out⟩
  · obtain ⟨er, her, hnew⟩ := new_err kind mode n base hgood
    have hmax := Kd.C_max hC
    obtain ⟨m, hml⟩ : ∃ m, m = l.length := ⟨_, rfl⟩
    rw [← hml] at hC hmax ⊢
    replace hml := Lib.hid hml
    replace hnew := Lib.hid hnew
    replace hC := Lib.hid hC
    clear hgood
    go_enter Tryz.func5, Tryz.ntmps5
    go_upto_region 2 with (go_at_call 13; go_must (refine (hnew.out _).mono ?_; rintro e w1 ⟨rfl, hB⟩; replace hB := Lib.hid hB))
    go_upto_region 4 with (go_at_call 13; go_must (refine (hnew.out _).mono ?_; rintro e w2 ⟨rfl, hB2⟩; have hB' := Lib.hid (below_then hB.out hB.out.size hB2); clear hB2 hB))
    go_upto_region 6 with (first
      | (go_at_call 20; go_must (refine (n_nil _).mono ?_; rintro e w3 ⟨rfl, rfl⟩))
      | (go_at_call 21; go_must (refine (hold_nil 0 _).mono ?_; rintro e w3 ⟨rfl, rfl⟩))
      | (go_at_call 22; go_must (refine (busy_nil 0 _).mono ?_; rintro e w3 ⟨rfl, rfl⟩))
      | (go_at_call 15; go_must (refine (stuck_nil 0 _).mono ?_; rintro e w3 ⟨rfl, rfl⟩))
      | (go_at_call 17; go_must (refine (pick_nil 0 1 _).mono ?_; rintro e w5 ⟨rfl, hB5⟩; have hB5' := Lib.hid (below_then hB'.out hB'.out.size hB5); clear hB5 hB'))
      | ((with_reducible refine gate_ (.field 41 (.tmp 61) 0) rfl ?_); go_must (refine wp_valueG (v := .bool false) (some 62) rfl rfl (field_exec rfl rfl (field_ran _ _ _ _ _ _ _ _)) ?_))
      | (go_at_call 23; go_must (refine (run_nil A c m l (Kd.C_below hC.out hB5'.out)).mono ?_; rintro e w6 ⟨An, cn, rfl, hB6⟩; have hB6' := Lib.hid (below_then hB5'.out hB5'.out.size hB6); clear hB6 hB5'))
      | (go_at_call 16; go_must (refine (state_nil _).mono ?_; rintro e w7 ⟨rfl, hB7⟩; have hB := Lib.hid (below_then hB6'.out hB6'.out.size hB7); clear hB7 hB6'))
      | ((with_reducible refine gate_ (.field 35 (.tmp 73) 3) rfl ?_); go_must (refine wp_valueG (v := .slice none 0 0) (some 74) rfl rfl (field_exec rfl rfl (field_cells0 _)) ?_)))
    go_wp2_with (go_at_call 14; go_must (refine (awake_walk _).mono ?_; rintro e w8 ⟨rfl, hB8⟩; replace hB8 := Lib.hid (below_then hB.out hB.out.size hB8)))
    go_ret
    exact ⟨rfl, hB8.out⟩

end Go.Proofs.YtkmlefbdhdlfmaaGreat.Wo
