/- The law AccTexts: the walk. -/
import Derived.Test.YtejmbmhehbcflaaDoorAPt
namespace Go.Proofs.YtejmbmhehbcflaaDoor.Acc
open Go.RowKit Go.Proofs.YtejmbmhehbcflaaDoorW.PrintWords Go.Proofs.YtejmbmhehbcflaaDoorW.PrintMore Go.Proofs.YtejmbmhehbcflaaDoorW.PrintLast Go.Proofs.YtejmbmhehbcflaaDoor.Pr Go.Proofs.YtejmbmhehbcflaaDoor.Jn Go.Proofs.YtejmbmhehbcflaaDoor.Fu Go.Proofs.YtejmbmhehbcflaaDoor.Digs
set_option linter.unusedSimpArgs false
set_option linter.unusedVariables false
set_option maxRecDepth 100000
/-- A mask of n bits. -/
def mk (n m : Nat) : Array Bool := ((List.range n).map fun i => m.testBit i).toArray
theorem out_text_no {k c x y : Int} (o : Int) (h : ¬ Right k c x y) : outG (textB k c x y o) = .tuple #[aggV 0 0 0 0 0, .int .i64 4] := by
  rw [text_none o h]
  exact out_none (by rintro ⟨k, c, x, y, o, hR, _, _, _, e⟩; have := text_full o hR; rw [e] at this; exact absurd this (by decide +kernel))
theorem text_small {k c x y o : Int} (hx : 0 ≤ x ∧ x < 4294967296) (hy : 0 ≤ y ∧ y < 4294967296) (ho : 0 ≤ o ∧ o < 4294967296) : (textB k c x y o).size ≤ 1000 ∧ ∀ p ∈ Note.cut (textB k c x y o), p.size ≤ 1000 := by
  by_cases h : Right k c x y
  · have hp := parts_len h hx hy ho
    have hl : (parts k c x y o).length ≤ 6 := by
      unfold parts
      split <;> split <;> simp
    have e : textB k c x y o = joined (parts k c x y o) := if_pos h
    constructor
    · rw [e]
      have hj := join_len hp
      show (Lib.join _ [32]).toArray.size ≤ 1000
      rw [List.size_toArray]
      omega
    · rw [cut_text h]
      intro p hpp
      have : p.data.toList.length ≤ 100 := hp p hpp
      rw [Array.length_toList] at this
      show p.data.size ≤ 1000
      omega
  · rw [text_none o h]
    decide +kernel

set_option maxHeartbeats 4000000 in
theorem texts_walk (k c x y o : Int) (w : World) (hV : Note.Vars w) (hT : Tabs w) (hx : 0 ≤ x ∧ x < 4294967296) (hy : 0 ≤ y ∧ y < 4294967296) (ho : 0 ≤ o ∧ o < 4294967296) : Calls Tryd.prog 10 #[.agg #[.int .i64 k, .int .i64 c, .int .u32 x, .int .u32 y, .int .u32 o]] w fun e w' => e = .returned (.bool true) ∧ Below w.heap.size w w' := by
  obtain ⟨w0, hw0⟩ : ∃ w0 : World, w0 = w.alloc (.cells #[.int .i64 k, .int .i64 c, .int .u32 x, .int .u32 y, .int .u32 o] 48) := ⟨_, rfl⟩
  obtain ⟨b, hbb⟩ : ∃ b, b = w.heap.size := ⟨_, rfl⟩
  have hs0 : w0.heap.size = w.heap.size + 1 := by rw [hw0]; simp
  have hb0 : b < w0.heap.size := by omega
  have h0 := heap_alloc_new w (.cells #[.int .i64 k, .int .i64 c, .int .u32 x, .int .u32 y, .int .u32 o] 48)
  rw [← hw0, ← hbb] at h0
  have hBw : Below w.heap.size w w0 := by rw [hw0]; exact below_alloc (Below.refl _ _) _
  have hV0 := Lib.hid (hV.below hBw)
  have hT0 := Lib.hid (hT.below hBw)
  have fin : ∀ W : World, Below w0.heap.size w0 W → Below w.heap.size w W := fun W hW => below_then hBw hBw.size hW
  have htx := Lib.hid (fun W hT => text_walk k c x y o W hT hx hy ho)
  have hs1 := Lib.hid (text_small (k := k) (c := c) hx hy ho)
  clear hV hT
  replace hBw := Lib.hid hBw
  replace fin := Lib.hid fin
  replace hs0 := Lib.hid hs0
  go_enter Tryd.func10, Tryd.ntmps10
  go_upto_region 1 with (fail)
  rw [← hw0, ← hbb]
  replace hw0 := Lib.hid hw0
  replace hbb := Lib.hid hbb
  have q0 := cell_of_heap (j := 0) h0 rfl
  have q1 := cell_of_heap (j := 1) h0 rfl
  have q2 := cell_of_heap (j := 2) h0 rfl
  have q3 := cell_of_heap (j := 3) h0 rfl
  have q4 := cell_of_heap (j := 4) h0 rfl
  replace h0 := Lib.hid h0
  go_upto_region 2 with (go_at_call 32; refine (htx.out _ hT0.out).mono ?_; rintro e w1 ⟨rfl, hB1⟩)
  have hBz := below_drew hB1
  have hz := (hBz.block b hb0).trans h0.out
  clear q0 q1 q2 q3 q4
  by_cases hR : Right k c x y
  · skip
    have hr1 := Lib.hid (fun w => right_yes o hR w)
    have hr2 := Lib.hid (fun w => rright_walk k c x y o w)
    rw [decide_eq_true hR] at hr2
    have hr3 := Lib.hid (fun w => rtext_walk k c x y o w hx hy ho)
    have hp := Lib.hid (out_of hR hx hy ho)
    replace hR := Lib.hid hR
    refine start_ (n := 11) (S := fun w' => w'.cell? ⟨b, 0, none⟩ = some (.int .i64 k) ∧ w'.cell? ⟨b, 1, none⟩ = some (.int .i64 c) ∧ w'.cell? ⟨b, 2, none⟩ = some (.int .u32 x) ∧ w'.cell? ⟨b, 3, none⟩ = some (.int .u32 y) ∧ w'.cell? ⟨b, 4, none⟩ = some (.int .u32 o)) (ds := []) #[false, false, false, false, false, false, false, false, false, false, false] (by kernel_rfl) rfl rfl ⟨(cell_of_heap hz rfl), (cell_of_heap hz rfl), (cell_of_heap hz rfl), (cell_of_heap hz rfl), (cell_of_heap hz rfl)⟩ (fun hHeld => ?_)
    refine take_ (i := 0) (N := some 8) (v := ?_) (a' := ?_) (mk 11 1) rfl rfl (by kernel_rfl) (fun _ _ _ h => h) (Or.inl ⟨by rfl, ?_⟩) hHeld ?_ ?_
    rotate_left
    · rintro w' ⟨s0, s1, s2, s3, s4⟩
      go_simp
      with_reducible rfl
    rotate_left
    · simp only [Act.put, List.setIfInBounds_toArray, List.set_cons_zero, List.set_cons_succ, i64_w, i32_w]
      rfl
    refine take_ (i := 2) (N := some 10) (v := ?_) (a' := ?_) (mk 11 5) rfl rfl (by kernel_rfl) (fun _ _ _ h => h) (Or.inl ⟨by rfl, ?_⟩) hHeld ?_ ?_
    rotate_left
    · rintro w' ⟨s0, s1, s2, s3, s4⟩
      go_simp
      with_reducible rfl
    rotate_left
    · simp only [Act.put, List.setIfInBounds_toArray, List.set_cons_zero, List.set_cons_succ, i64_w, i32_w]
      rfl
    refine one_ (i := 1) (N := some 9) (mk 11 7) rfl rfl (by kernel_rfl) (by decide) (fun K hK => ?_)
    refine goes_ Tryd.func33 (by kernel_rfl) rfl #[.agg #[.int .i64 k, .int .i64 c, .int .u32 x, .int .u32 y, .int .u32 o]] (by rfl) rfl rfl (by simp only [List.map_toArray, List.map_cons, List.map_nil]; rfl) ?_
    with_reducible refine (hr1.out _).mono ?_
    rintro e wc1 ⟨rfl, hbc1⟩
    refine ⟨_, rfl, ?_⟩
    have hBc1 := below_then hBz hBz.size hbc1
    have hc1 := (hBc1.block b hb0).trans h0.out
    refine hK.out _ _ ⟨(cell_of_heap hc1 rfl), (cell_of_heap hc1 rfl), (cell_of_heap hc1 rfl), (cell_of_heap hc1 rfl), (cell_of_heap hc1 rfl)⟩ (fun hHeld => ?_)
    clear hK K
    refine norm_ (a' := ?_) ?_ ?_
    rotate_left
    · show Act.put _ (some 9) _ = _
      simp only [Act.put, List.setIfInBounds_toArray, List.set_cons_zero, List.set_cons_succ, i64_w, i32_w]
      rfl
    refine one_ (i := 3) (N := some 11) (mk 11 15) rfl rfl (by kernel_rfl) (by decide) (fun K hK => ?_)
    refine goes_ Tryd.func44 (by kernel_rfl) rfl #[.agg #[.int .i64 k, .int .i64 c, .int .u32 x, .int .u32 y, .int .u32 o]] (by rfl) rfl rfl (by simp only [List.map_toArray, List.map_cons, List.map_nil]; rfl) ?_
    with_reducible refine (hr2.out _).mono ?_
    rintro e wc2 ⟨rfl, hbc2⟩
    refine ⟨_, rfl, ?_⟩
    have hBc2 := below_then hBc1 hBc1.size hbc2
    have hc2 := (hBc2.block b hb0).trans h0.out
    refine hK.out _ _ ⟨(cell_of_heap hc2 rfl), (cell_of_heap hc2 rfl), (cell_of_heap hc2 rfl), (cell_of_heap hc2 rfl), (cell_of_heap hc2 rfl)⟩ (fun hHeld => ?_)
    clear hK K
    refine norm_ (a' := ?_) ?_ ?_
    rotate_left
    · show Act.put _ (some 11) _ = _
      simp only [Act.put, List.setIfInBounds_toArray, List.set_cons_zero, List.set_cons_succ, i64_w, i32_w]
      rfl
    refine pure_ (i := 4) (N := some 12) (v := ?_) (a' := ?_) (mk 11 31) rfl rfl (by kernel_rfl) (fun _ _ _ h => h) (Or.inl ⟨by rfl, ?_⟩) ?_ ?_
    rotate_left
    · intro w'
      go_simp
      with_reducible rfl
    rotate_left
    · simp only [Act.put, List.setIfInBounds_toArray, List.set_cons_zero, List.set_cons_succ, i64_w, i32_w]
      rfl
    refine pure_ (i := 5) (N := some 13) (v := ?_) (a' := ?_) (mk 11 63) rfl rfl (by kernel_rfl) (fun _ _ _ h => h) (Or.inl ⟨by rfl, ?_⟩) ?_ ?_
    rotate_left
    · intro w'
      go_simp
      with_reducible rfl
    rotate_left
    · simp only [Act.put, List.setIfInBounds_toArray, List.set_cons_zero, List.set_cons_succ, i64_w, i32_w]
      rfl
    refine pure_ (i := 6) (N := some 14) (v := ?_) (a' := ?_) (mk 11 127) rfl rfl (by kernel_rfl) (fun _ _ _ h => h) (Or.inl ⟨by rfl, ?_⟩) ?_ ?_
    rotate_left
    · intro w'
      go_simp
      with_reducible rfl
    rotate_left
    · simp only [Act.put, List.setIfInBounds_toArray, List.set_cons_zero, List.set_cons_succ, i64_w, i32_w]
      rfl
    refine take_ (i := 7) (N := some 15) (v := ?_) (a' := ?_) (mk 11 255) rfl rfl (by kernel_rfl) (fun _ _ _ h => h) (Or.inl ⟨by rfl, ?_⟩) hHeld ?_ ?_
    rotate_left
    · rintro w' ⟨s0, s1, s2, s3, s4⟩
      go_simp
      with_reducible rfl
    rotate_left
    · simp only [Act.put, List.setIfInBounds_toArray, List.set_cons_zero, List.set_cons_succ, i64_w, i32_w]
      rfl
    refine one_ (i := 8) (N := some 16) (mk 11 511) rfl rfl (by kernel_rfl) (by decide) (fun K hK => ?_)
    refine goes_ Tryd.func45 (by kernel_rfl) rfl #[.agg #[.int .i64 k, .int .i64 c, .int .u32 x, .int .u32 y, .int .u32 o]] (by rfl) rfl rfl (by simp only [List.map_toArray, List.map_cons, List.map_nil]; rfl) ?_
    with_reducible refine (hr3.out _).mono ?_
    rintro e wc3 ⟨rfl, hbc3⟩
    refine ⟨_, rfl, ?_⟩
    have hBc3 := below_then hBc2 hBc2.size hbc3
    have hc3 := (hBc3.block b hb0).trans h0.out
    refine hK.out _ _ ⟨(cell_of_heap hc3 rfl), (cell_of_heap hc3 rfl), (cell_of_heap hc3 rfl), (cell_of_heap hc3 rfl), (cell_of_heap hc3 rfl)⟩ (fun hHeld => ?_)
    clear hK K
    refine norm_ (a' := ?_) ?_ ?_
    rotate_left
    · show Act.put _ (some 16) _ = _
      simp only [Act.put, List.setIfInBounds_toArray, List.set_cons_zero, List.set_cons_succ, i64_w, i32_w]
      rfl
    refine pure_ (i := 9) (N := some 17) (v := ?_) (a' := ?_) (mk 11 1023) rfl rfl (by kernel_rfl) (fun _ _ _ h => h) (Or.inl ⟨by rfl, ?_⟩) ?_ ?_
    rotate_left
    · intro w'
      go_simp
      with_reducible rfl
    rotate_left
    · simp only [Act.put, List.setIfInBounds_toArray, List.set_cons_zero, List.set_cons_succ, i64_w, i32_w]
      rfl
    refine pure_ (i := 10) (N := some 18) (v := ?_) (a' := ?_) (mk 11 2047) rfl rfl (by kernel_rfl) (fun _ _ _ h => h) (Or.inl ⟨by rfl, ?_⟩) ?_ ?_
    rotate_left
    · intro w'
      go_simp
      with_reducible rfl
    rotate_left
    · simp only [Act.put, List.setIfInBounds_toArray, List.set_cons_zero, List.set_cons_succ, i64_w, i32_w]
      rfl
    refine done_ (by kernel_rfl) ?_
    have hq := fun w => acc_eql w k c x y o k c x y o true (by simp)
    replace hs1 := hs1.out
    have hpw := Lib.hid (fun W hW hT => parse_walk (textB k c x y o) hs1.1 W hW hT hs1.2)
    rw [hp.out] at hpw
    have e4 : ∀ k c x y o : Int, aggV k c x y o = .agg #[.int .i64 k, .int .i64 c, .int .u32 x, .int .u32 y, .int .u32 o] := fun _ _ _ _ _ => rfl
    rw [e4] at hpw
    clear hs1 e4
    have hVc := hV0.out.below hBc3
    have hTc := hT0.out.below hBc3
    go_wp2_with (first
      | (go_at_call 46; refine (hpw.out _ hVc hTc).mono ?_; rintro e wp ⟨rfl, hbp⟩; clear hpw; have hBp := below_then hBc3 hBc3.size hbp; have h4 := heap_alloc_new wp (.cells #[.int .i64 k, .int .i64 c, .int .u32 x, .int .u32 y, .int .u32 o] 48); have hBq := below_alloc hBp (.cells #[.int .i64 k, .int .i64 c, .int .u32 x, .int .u32 y, .int .u32 o] 48); have hbq := below_alloc (Below.refl wp.heap.size wp) (.cells #[.int .i64 k, .int .i64 c, .int .u32 x, .int .u32 y, .int .u32 o] 48); have hq1 := (hBq.block b hb0).trans h0.out; have g0 := cell_of_heap (j := 0) hq1 rfl; have g1 := cell_of_heap (j := 1) hq1 rfl; have g2 := cell_of_heap (j := 2) hq1 rfl; have g3 := cell_of_heap (j := 3) hq1 rfl; have g4 := cell_of_heap (j := 4) hq1 rfl)
      | (go_at_call 44; refine (hr2.out _).mono ?_; rintro e wr ⟨rfl, hbr⟩; have hBr := below_then hBq hBq.size hbr; have hr1_ := (hBr.block b hb0).trans h0.out; have hr4 := blk_below h4 hbr; have g0 := cell_of_heap (j := 0) hr1_ rfl; have g1 := cell_of_heap (j := 1) hr1_ rfl; have g2 := cell_of_heap (j := 2) hr1_ rfl; have g3 := cell_of_heap (j := 3) hr1_ rfl; have g4 := cell_of_heap (j := 4) hr1_ rfl; have f0 := cell_of_heap (j := 0) hr4 rfl; have f1 := cell_of_heap (j := 1) hr4 rfl; have f2 := cell_of_heap (j := 2) hr4 rfl; have f3 := cell_of_heap (j := 3) hr4 rfl; have f4 := cell_of_heap (j := 4) hr4 rfl)
      | (go_at_call 34; refine (awake_walk _ (hT0.out.below hBr)).mono ?_; rintro e wa ⟨rfl, hba⟩; have hBa := below_then hBr hBr.size hba))
    go_ret
    exact ⟨by simp, fin.out _ hBa⟩
  · skip
    have hr1 := Lib.hid (fun w => right_no o hR w)
    have hr2 := Lib.hid (fun w => rright_walk k c x y o w)
    rw [decide_eq_false hR] at hr2
    have hr3 := Lib.hid (fun w => rtext_walk k c x y o w hx hy ho)
    have hp := Lib.hid (out_text_no (x := x) (y := y) o hR)
    replace hR := Lib.hid hR
    refine start_ (n := 11) (S := fun w' => w'.cell? ⟨b, 0, none⟩ = some (.int .i64 k) ∧ w'.cell? ⟨b, 1, none⟩ = some (.int .i64 c) ∧ w'.cell? ⟨b, 2, none⟩ = some (.int .u32 x) ∧ w'.cell? ⟨b, 3, none⟩ = some (.int .u32 y) ∧ w'.cell? ⟨b, 4, none⟩ = some (.int .u32 o)) (ds := []) #[false, false, false, false, false, false, false, false, false, false, false] (by kernel_rfl) rfl rfl ⟨(cell_of_heap hz rfl), (cell_of_heap hz rfl), (cell_of_heap hz rfl), (cell_of_heap hz rfl), (cell_of_heap hz rfl)⟩ (fun hHeld => ?_)
    refine take_ (i := 0) (N := some 8) (v := ?_) (a' := ?_) (mk 11 1) rfl rfl (by kernel_rfl) (fun _ _ _ h => h) (Or.inl ⟨by rfl, ?_⟩) hHeld ?_ ?_
    rotate_left
    · rintro w' ⟨s0, s1, s2, s3, s4⟩
      go_simp
      with_reducible rfl
    rotate_left
    · simp only [Act.put, List.setIfInBounds_toArray, List.set_cons_zero, List.set_cons_succ, i64_w, i32_w]
      rfl
    refine take_ (i := 2) (N := some 10) (v := ?_) (a' := ?_) (mk 11 5) rfl rfl (by kernel_rfl) (fun _ _ _ h => h) (Or.inl ⟨by rfl, ?_⟩) hHeld ?_ ?_
    rotate_left
    · rintro w' ⟨s0, s1, s2, s3, s4⟩
      go_simp
      with_reducible rfl
    rotate_left
    · simp only [Act.put, List.setIfInBounds_toArray, List.set_cons_zero, List.set_cons_succ, i64_w, i32_w]
      rfl
    refine one_ (i := 1) (N := some 9) (mk 11 7) rfl rfl (by kernel_rfl) (by decide) (fun K hK => ?_)
    refine goes_ Tryd.func33 (by kernel_rfl) rfl #[.agg #[.int .i64 k, .int .i64 c, .int .u32 x, .int .u32 y, .int .u32 o]] (by rfl) rfl rfl (by simp only [List.map_toArray, List.map_cons, List.map_nil]; rfl) ?_
    with_reducible refine (hr1.out _).mono ?_
    rintro e wc1 ⟨rfl, hbc1⟩
    refine ⟨_, rfl, ?_⟩
    have hBc1 := below_then hBz hBz.size hbc1
    have hc1 := (hBc1.block b hb0).trans h0.out
    refine hK.out _ _ ⟨(cell_of_heap hc1 rfl), (cell_of_heap hc1 rfl), (cell_of_heap hc1 rfl), (cell_of_heap hc1 rfl), (cell_of_heap hc1 rfl)⟩ (fun hHeld => ?_)
    clear hK K
    refine norm_ (a' := ?_) ?_ ?_
    rotate_left
    · show Act.put _ (some 9) _ = _
      simp only [Act.put, List.setIfInBounds_toArray, List.set_cons_zero, List.set_cons_succ, i64_w, i32_w]
      rfl
    refine one_ (i := 3) (N := some 11) (mk 11 15) rfl rfl (by kernel_rfl) (by decide) (fun K hK => ?_)
    refine goes_ Tryd.func44 (by kernel_rfl) rfl #[.agg #[.int .i64 k, .int .i64 c, .int .u32 x, .int .u32 y, .int .u32 o]] (by rfl) rfl rfl (by simp only [List.map_toArray, List.map_cons, List.map_nil]; rfl) ?_
    with_reducible refine (hr2.out _).mono ?_
    rintro e wc2 ⟨rfl, hbc2⟩
    refine ⟨_, rfl, ?_⟩
    have hBc2 := below_then hBc1 hBc1.size hbc2
    have hc2 := (hBc2.block b hb0).trans h0.out
    refine hK.out _ _ ⟨(cell_of_heap hc2 rfl), (cell_of_heap hc2 rfl), (cell_of_heap hc2 rfl), (cell_of_heap hc2 rfl), (cell_of_heap hc2 rfl)⟩ (fun hHeld => ?_)
    clear hK K
    refine norm_ (a' := ?_) ?_ ?_
    rotate_left
    · show Act.put _ (some 11) _ = _
      simp only [Act.put, List.setIfInBounds_toArray, List.set_cons_zero, List.set_cons_succ, i64_w, i32_w]
      rfl
    refine pure_ (i := 4) (N := some 12) (v := ?_) (a' := ?_) (mk 11 31) rfl rfl (by kernel_rfl) (fun _ _ _ h => h) (Or.inl ⟨by rfl, ?_⟩) ?_ ?_
    rotate_left
    · intro w'
      go_simp
      with_reducible rfl
    rotate_left
    · simp only [Act.put, List.setIfInBounds_toArray, List.set_cons_zero, List.set_cons_succ, i64_w, i32_w]
      rfl
    refine pure_ (i := 5) (N := some 13) (v := ?_) (a' := ?_) (mk 11 63) rfl rfl (by kernel_rfl) (fun _ _ _ h => h) (Or.inl ⟨by rfl, ?_⟩) ?_ ?_
    rotate_left
    · intro w'
      go_simp
      with_reducible rfl
    rotate_left
    · simp only [Act.put, List.setIfInBounds_toArray, List.set_cons_zero, List.set_cons_succ, i64_w, i32_w]
      rfl
    refine pure_ (i := 6) (N := some 14) (v := ?_) (a' := ?_) (mk 11 127) rfl rfl (by kernel_rfl) (fun _ _ _ h => h) (Or.inl ⟨by rfl, ?_⟩) ?_ ?_
    rotate_left
    · intro w'
      go_simp
      with_reducible rfl
    rotate_left
    · simp only [Act.put, List.setIfInBounds_toArray, List.set_cons_zero, List.set_cons_succ, i64_w, i32_w]
      rfl
    refine take_ (i := 7) (N := some 15) (v := ?_) (a' := ?_) (mk 11 255) rfl rfl (by kernel_rfl) (fun _ _ _ h => h) (Or.inl ⟨by rfl, ?_⟩) hHeld ?_ ?_
    rotate_left
    · rintro w' ⟨s0, s1, s2, s3, s4⟩
      go_simp
      with_reducible rfl
    rotate_left
    · simp only [Act.put, List.setIfInBounds_toArray, List.set_cons_zero, List.set_cons_succ, i64_w, i32_w]
      rfl
    refine one_ (i := 8) (N := some 16) (mk 11 511) rfl rfl (by kernel_rfl) (by decide) (fun K hK => ?_)
    refine goes_ Tryd.func45 (by kernel_rfl) rfl #[.agg #[.int .i64 k, .int .i64 c, .int .u32 x, .int .u32 y, .int .u32 o]] (by rfl) rfl rfl (by simp only [List.map_toArray, List.map_cons, List.map_nil]; rfl) ?_
    with_reducible refine (hr3.out _).mono ?_
    rintro e wc3 ⟨rfl, hbc3⟩
    refine ⟨_, rfl, ?_⟩
    have hBc3 := below_then hBc2 hBc2.size hbc3
    have hc3 := (hBc3.block b hb0).trans h0.out
    refine hK.out _ _ ⟨(cell_of_heap hc3 rfl), (cell_of_heap hc3 rfl), (cell_of_heap hc3 rfl), (cell_of_heap hc3 rfl), (cell_of_heap hc3 rfl)⟩ (fun hHeld => ?_)
    clear hK K
    refine norm_ (a' := ?_) ?_ ?_
    rotate_left
    · show Act.put _ (some 16) _ = _
      simp only [Act.put, List.setIfInBounds_toArray, List.set_cons_zero, List.set_cons_succ, i64_w, i32_w]
      rfl
    refine pure_ (i := 9) (N := some 17) (v := ?_) (a' := ?_) (mk 11 1023) rfl rfl (by kernel_rfl) (fun _ _ _ h => h) (Or.inl ⟨by rfl, ?_⟩) ?_ ?_
    rotate_left
    · intro w'
      go_simp
      with_reducible rfl
    rotate_left
    · simp only [Act.put, List.setIfInBounds_toArray, List.set_cons_zero, List.set_cons_succ, i64_w, i32_w]
      rfl
    refine pure_ (i := 10) (N := some 18) (v := ?_) (a' := ?_) (mk 11 2047) rfl rfl (by kernel_rfl) (fun _ _ _ h => h) (Or.inl ⟨by rfl, ?_⟩) ?_ ?_
    rotate_left
    · intro w'
      go_simp
      with_reducible rfl
    rotate_left
    · simp only [Act.put, List.setIfInBounds_toArray, List.set_cons_zero, List.set_cons_succ, i64_w, i32_w]
      rfl
    refine done_ (by kernel_rfl) ?_
    have hq := fun w => acc_eql w 0 0 0 0 0 0 0 0 0 0 true (by simp)
    replace hs1 := hs1.out
    have hpw := Lib.hid (fun W hW hT => parse_walk (textB k c x y o) hs1.1 W hW hT hs1.2)
    rw [hp.out] at hpw
    have e4 : ∀ k c x y o : Int, aggV k c x y o = .agg #[.int .i64 k, .int .i64 c, .int .u32 x, .int .u32 y, .int .u32 o] := fun _ _ _ _ _ => rfl
    rw [e4] at hpw
    clear hs1 e4
    have hVc := hV0.out.below hBc3
    have hTc := hT0.out.below hBc3
    go_wp2_with (first
      | (go_at_call 46; refine (hpw.out _ hVc hTc).mono ?_; rintro e wp ⟨rfl, hbp⟩; clear hpw; have hBp := below_then hBc3 hBc3.size hbp; have h4 := heap_alloc_new wp (.cells #[.int .i64 0, .int .i64 0, .int .u32 0, .int .u32 0, .int .u32 0] 48); have hBq := below_alloc hBp (.cells #[.int .i64 0, .int .i64 0, .int .u32 0, .int .u32 0, .int .u32 0] 48); have hbq := below_alloc (Below.refl wp.heap.size wp) (.cells #[.int .i64 0, .int .i64 0, .int .u32 0, .int .u32 0, .int .u32 0] 48); have hq1 := (hBq.block b hb0).trans h0.out; have g0 := cell_of_heap (j := 0) hq1 rfl; have g1 := cell_of_heap (j := 1) hq1 rfl; have g2 := cell_of_heap (j := 2) hq1 rfl; have g3 := cell_of_heap (j := 3) hq1 rfl; have g4 := cell_of_heap (j := 4) hq1 rfl)
      | (go_at_call 44; refine (hr2.out _).mono ?_; rintro e wr ⟨rfl, hbr⟩; have hBr := below_then hBq hBq.size hbr; have hr1_ := (hBr.block b hb0).trans h0.out; have hr4 := blk_below h4 hbr; have g0 := cell_of_heap (j := 0) hr1_ rfl; have g1 := cell_of_heap (j := 1) hr1_ rfl; have g2 := cell_of_heap (j := 2) hr1_ rfl; have g3 := cell_of_heap (j := 3) hr1_ rfl; have g4 := cell_of_heap (j := 4) hr1_ rfl; have f0 := cell_of_heap (j := 0) hr4 rfl; have f1 := cell_of_heap (j := 1) hr4 rfl; have f2 := cell_of_heap (j := 2) hr4 rfl; have f3 := cell_of_heap (j := 3) hr4 rfl; have f4 := cell_of_heap (j := 4) hr4 rfl)
      | (go_at_call 34; refine (awake_walk _ (hT0.out.below hBr)).mono ?_; rintro e wa ⟨rfl, hba⟩; have hBa := below_then hBr hBr.size hba))
    go_ret
    exact ⟨by simp, fin.out _ hBa⟩
theorem texts_args {W : World} (hV : Note.Vars W) (hT : Tabs W) {x : Int × Int × Int × Int × Int} {g0 : Array Value} (q0 : Wf x) (K0 : (Kd.pair (Kd.int .i64) (Kd.pair (Kd.int .i64) (Kd.pair (Kd.int .u32) (Kd.pair (Kd.int .u32) (Kd.int .u32))))).K W x (Value.agg g0).cells.toList) :
    Calls Tryd.prog 10 #[.agg g0] W fun e w' => e = .returned (.bool true) ∧ Below W.heap.size W w' := by
  rw [agg_of K0]
  obtain ⟨_, _, h1, h2, h3⟩ := q0
  exact texts_walk _ _ _ _ _ W hV hT (wf_u32 h1) (wf_u32 h2) (wf_u32 h3)
end Go.Proofs.YtejmbmhehbcflaaDoor.Acc
