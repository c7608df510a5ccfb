/- The example of the world's laws. -/
import Derived.Test.YtkmlefbdhdlfmaaGreatRn
namespace Go.Proofs.YtkmlefbdhdlfmaaGreat.Wo
open Go.RowKit Go.Proofs.YtkmlefbdhdlfmaaGreatW.PrintWords Go.Proofs.YtkmlefbdhdlfmaaGreatW.PrintMore Go.Proofs.YtkmlefbdhdlfmaaGreatW.PrintLast
open Stile
set_option linter.unusedSimpArgs false
set_option linter.unusedVariables false
set_option maxRecDepth 100000
variable {w w1 w2 w0 V V1 : World} {a pm g t kf n b B p cap gc gt : Nat} {W : Stile.W} {l : List (Int × Int)} {ok : Nat → Prop}
theorem below_bt (h : Below B w w1) (hb : Bt g t w1 w2) (hs : B ≤ w1.heap.size) (hg : B ≤ g) (ht : B ≤ t) : Below B w w2 :=
  ⟨hb.os.trans h.os, hb.tape.trans h.tape, hb.output.trans h.output, Nat.le_trans h.size hb.size, fun k hk => (hb.block k (Nat.lt_of_lt_of_le hk hs) (by omega) (by omega)).trans (h.block k hk)⟩
theorem aw_8 : (runPicks (newW 5 2 2 0) [(0, 1), (1, 1)]).1.length = 8 := by decide
theorem aw_0 : holdOf (runPicks (newW 5 2 2 0) [(0, 1), (1, 1)]).2 0 = 1 := by decide
theorem aw_1 : holdOf (runPicks (newW 5 2 2 0) [(0, 1), (1, 1)]).2 1 = 1 := by decide
theorem reps_pk2 (x y : Int × Int) : Reps (pk.M w B ok) 2 [x, y] [.int .i64 x.1, .int .i64 x.2, .int .i64 y.1, .int .i64 y.2] := by
  refine ⟨rfl, fun j p hj => ?_⟩
  match j, hj with
  | 0, hj => obtain rfl := Option.some.inj hj; exact pk_M _
  | 1, hj => obtain rfl := Option.some.inj hj; exact pk_M _
  | j + 2, hj => cases hj
theorem awake_walk (w : World) : Calls Tryz.prog 14 #[] w fun e w' => e = .returned (.bool true) ∧ Below w.heap.size w w' := by
  have hG : Stile.Good (newW 5 2 2 0) := newW_good 5 2 2 0 (by decide) (by decide) (by decide) (by decide)
  have h8 := aw_8
  have h0 := aw_0
  have h1 := aw_1
  have hn := new_run 5 2 2 0 (by decide) (by decide) (by decide) (by decide) w
  obtain ⟨W0, hW0⟩ : ∃ W0, W0 = newW 5 2 2 0 := ⟨_, rfl⟩
  rw [← hW0] at hG h8 h0 h1 hn
  replace hW0 := Lib.hid hW0
  obtain ⟨W1, hW1⟩ : ∃ W1, W1 = (runPicks W0 [(0, 1), (1, 1)]).2 := ⟨_, rfl⟩
  obtain ⟨ns, hns⟩ : ∃ ns, ns = (runPicks W0 [(0, 1), (1, 1)]).1 := ⟨_, rfl⟩
  rw [← hW1] at h0 h1
  rw [← hns] at h8
  replace hW1 := Lib.hid hW1
  replace hns := Lib.hid hns
  replace hG := Lib.hid hG
  replace h8 := Lib.hid h8
  replace h0 := Lib.hid h0
  replace h1 := Lib.hid h1
  replace hn := Lib.hid hn
  go_enter Tryz.func14, Tryz.ntmps14
  go_wp2_with (first
    | (go_at_call 13; go_must (refine hn.out.mono ?_; rintro e w1 ⟨a, pm, g, t, kf, rfl, hW, hB, ha, hp, hg, ht⟩; have hlt := Lib.hid hW.lt; replace hW := Lib.hid hW; replace hB := Lib.hid hB; clear hn))
    | ((with_reducible refine gate_dst (N := 13) rfl ?_); go_must (refine Kd.R_lit pk (w0 := w1) w1.heap.size 30 rfl (N := 13) rfl (xs := [((0 : Int), (1 : Int)), ((1 : Int), (1 : Int))]) (inner := [.int .i64 0, .int .i64 1, .int .i64 1, .int .i64 1]) (ok := fun k => k ≠ g ∧ k ≠ t) (okp := fun _ => False) ?hr (reps_pk2 _ _) (fun _ hk => hk.elim) ⟨by have := hlt.out; omega, by have := hlt.out; omega⟩ (Below.refl _ _) (Nat.le_refl _) (by simp) ?_; (case hr => first | (go_simp; done) | (go_simp; rfl)); intro v2 w2 hR2 hB2 _ _; obtain ⟨gp, cp, rfl, _, _, _⟩ := Kd.R_form hR2 (by decide); have hW2 := Lib.hid (hW.out.below hB2); have hB3 := Lib.hid (below_then hB.out hB.out.size hB2); replace hR2 := Lib.hid hR2; clear hB2))
    | (go_at_call 23; go_must (refine (run_picks hW2.out hG.out (some ⟨gp, 0, none⟩) cp (l := [(0, 1), (1, 1)]) (fun w' hb => (Kd.R_reads' (Kd.R_step hR2.out (fun q hq hlt => hb.block q hlt hq.1 hq.2))).2.2) (by decide)).mono ?_; rintro e w3 ⟨nv, rfl, hN, hW3, hb3⟩; obtain ⟨An, cn, rfl⟩ := Kd.R_slice hN; rw [← hns.out, h8.out] at *; rw [← hW1.out] at hW3; have hB4 := Lib.hid (below_bt hB3.out hb3 hB3.out.size hg ht); replace hW3 := Lib.hid hW3; clear hN hb3))
    | (go_at_call 21; go_must (refine (hold_walk hW3.out _).mono ?_; rintro e w4 ⟨rfl, rfl⟩; first | rw [h0.out] | rw [h1.out])))
  go_ret
  exact ⟨rfl, hB4.out⟩

end Go.Proofs.YtkmlefbdhdlfmaaGreat.Wo
