/- The law NoteApart: right notes have the same text just if they are the same. -/
import Derived.Test.YtejmbmhehbcflaaDoorAcc
import Derived.Test.YtejmbmhehbcflaaDoorDigs
import Derived.OpenShut
namespace Go.Proofs.YtejmbmhehbcflaaDoor.Acc
open Go.RowKit Go.Proofs.YtejmbmhehbcflaaDoor.Jn Go.Proofs.YtejmbmhehbcflaaDoor.Fu Go.Proofs.YtejmbmhehbcflaaDoor.Digs Go.Proofs.YtejmbmhehbcflaaDoorW.PrintWords Go.Proofs.YtejmbmhehbcflaaDoorW.PrintMore Go.Proofs.YtejmbmhehbcflaaDoorW.PrintLast Go.Proofs.YtejmbmhehbcflaaDoor.Pr
set_option linter.unusedSimpArgs false

/-! the plain law -/
theorem word_apart {k1 k2 : Int} (h1 : 1 ≤ k1 ∧ k1 ≤ 5) (h2 : 1 ≤ k2 ∧ k2 ≤ 5) (h : (wordA k1).data.toList = (wordA k2).data.toList) : k1 = k2 := by
  have a1 : k1 = 1 ∨ k1 = 2 ∨ k1 = 3 ∨ k1 = 4 ∨ k1 = 5 := by omega
  have a2 : k2 = 1 ∨ k2 = 2 ∨ k2 = 3 ∨ k2 = 4 ∨ k2 = 5 := by omega
  rcases a1 with rfl | rfl | rfl | rfl | rfl <;> rcases a2 with rfl | rfl | rfl | rfl | rfl <;> first | rfl | (exfalso; revert h; decide)
theorem word_no (k : Int) : (32 : UInt8) ∉ (wordA k).data.toList := by
  unfold wordA
  split
  · decide
  split
  · decide
  split
  · decide
  split
  · decide
  split
  · decide
  · decide
def tailP (k x y o : Int) : List ByteArray := (if k ≠ 1 then [(⟨(hex8 x.toNat).toArray⟩ : ByteArray)] else []) ++ ((if k = 5 then [(⟨(hex8 y.toNat).toArray⟩ : ByteArray)] else []) ++ [(⟨#[119, 97, 115]⟩ : ByteArray), ⟨(hex8 o.toNat).toArray⟩])
theorem parts_split (k c x y o : Int) : parts k c x y o = wordA k :: ⟨(Lib.itoa c).toArray⟩ :: tailP k x y o := by
  unfold parts tailP
  simp [List.append_assoc]
theorem tail_full (k x y o : Int) : ∃ p l, tailP k x y o = p :: l := by
  unfold tailP
  split
  · exact ⟨_, _, rfl⟩
  · split
    · exact ⟨_, _, rfl⟩
    · exact ⟨_, _, rfl⟩
theorem joined_parts (k c x y o : Int) : (joined (parts k c x y o)).data.toList = (wordA k).data.toList ++ 32 :: (Lib.itoa c ++ 32 :: (joined (tailP k x y o)).data.toList) := by
  rw [parts_split, joined_cons]
  obtain ⟨p, l, h⟩ := tail_full k x y o
  rw [h, joined_cons]
theorem tail_apart {k x1 y1 o1 x2 y2 o2 : Int} (hx1 : 0 ≤ x1) (hx2 : 0 ≤ x2) (hy1 : 0 ≤ y1) (hy2 : 0 ≤ y2) (ho1 : 0 ≤ o1) (ho2 : 0 ≤ o2)
    (h : (joined (tailP k x1 y1 o1)).data.toList = (joined (tailP k x2 y2 o2)).data.toList) : (k ≠ 1 → x1 = x2) ∧ (k = 5 → y1 = y2) ∧ o1 = o2 := by
  have hw : (32 : UInt8) ∉ ([119, 97, 115] : List UInt8) := by decide
  unfold tailP at h
  by_cases e1 : k = 1
  · rw [if_neg (by simpa using e1), if_neg (by omega)] at h
    simp only [List.nil_append, joined_cons, joined_one] at h
    rw [if_neg (by simpa using e1), if_neg (by omega)] at h
    simp only [List.nil_append, joined_cons, joined_one] at h
    obtain ⟨_, h2⟩ := cut_eq hw hw h
    have := hex8_inj h2
    exact ⟨fun h => absurd e1 h, fun h => by omega, by omega⟩
  · by_cases e5 : k = 5
    · rw [if_pos (by simpa using e1), if_pos e5, if_pos (by simpa using e1), if_pos e5] at h
      simp only [List.cons_append, List.nil_append, joined_cons, joined_one] at h
      obtain ⟨h1, h⟩ := cut_eq hex8_no hex8_no h
      obtain ⟨h2, h⟩ := cut_eq hex8_no hex8_no h
      obtain ⟨_, h3⟩ := cut_eq hw hw h
      have a1 := hex8_inj h1
      have a2 := hex8_inj h2
      have a3 := hex8_inj h3
      exact ⟨fun _ => by omega, fun _ => by omega, by omega⟩
    · rw [if_pos (by simpa using e1), if_neg e5, if_pos (by simpa using e1), if_neg e5] at h
      simp only [List.cons_append, List.nil_append, joined_cons, joined_one] at h
      obtain ⟨h1, h⟩ := cut_eq hex8_no hex8_no h
      obtain ⟨_, h3⟩ := cut_eq hw hw h
      have a1 := hex8_inj h1
      have a3 := hex8_inj h3
      exact ⟨fun _ => by omega, fun h => absurd h e5, by omega⟩
/-- Right accesses of one text are one. -/
theorem text_apart {k1 c1 x1 y1 o1 k2 c2 x2 y2 o2 : Int} (h1 : Right k1 c1 x1 y1) (h2 : Right k2 c2 x2 y2) (hx1 : 0 ≤ x1) (hx2 : 0 ≤ x2) (hy1 : 0 ≤ y1) (hy2 : 0 ≤ y2) (ho1 : 0 ≤ o1) (ho2 : 0 ≤ o2)
    (h : textB k1 c1 x1 y1 o1 = textB k2 c2 x2 y2 o2) : k1 = k2 ∧ c1 = c2 ∧ x1 = x2 ∧ y1 = y2 ∧ o1 = o2 := by
  unfold textB at h
  rw [if_pos h1, if_pos h2] at h
  have h3 := congrArg (fun s : ByteArray => s.data.toList) h
  simp only [joined_parts] at h3
  obtain ⟨e1, h4⟩ := cut_eq (word_no k1) (word_no k2) h3
  obtain ⟨a1, a2, a3, a4, a5, a6⟩ := h1
  obtain ⟨b1, b2, b3, b4, b5, b6⟩ := h2
  obtain rfl := word_apart ⟨a1, a2⟩ ⟨b1, b2⟩ e1
  rw [itoa_dec a3, itoa_dec b3] at h4
  obtain ⟨e2, h5⟩ := cut_eq dec_no dec_no h4
  have e3 := dec_inj e2
  obtain ⟨e4, e5, e6⟩ := tail_apart hx1 hx2 hy1 hy2 ho1 ho2 h5
  refine ⟨rfl, by omega, ?_, ?_, e6⟩
  · by_cases e : k1 = 1
    · rw [a5 e, b5 e]
    · exact e4 e
  · by_cases e : k1 = 5
    · exact e5 e
    · rw [a6 e, b6 e]
theorem joined_full (k c x y o : Int) : ¬ joined (parts k c x y o) = ⟨#[]⟩ := by
  intro h
  have h2 := congrArg (fun s : ByteArray => s.data.toList) h
  simp only [joined_parts] at h2
  simp at h2
theorem text_full {k c x y : Int} (o : Int) (h : Right k c x y) : (textB k c x y o).toList.isEmpty = false := by
  have h2 : ¬ textB k c x y o = ⟨#[]⟩ := by unfold textB; rw [if_pos h]; exact joined_full _ _ _ _ _
  exact list_full h2
theorem text_none {k c x y : Int} (o : Int) (h : ¬ Right k c x y) : textB k c x y o = ⟨#[]⟩ := if_neg h
theorem hexs_one : hexs 1 = [49] := by rw [hexs_small (by decide)]; decide
theorem hexs_top : hexs 4294967295 = [102, 102, 102, 102, 102, 102, 102, 102] := by
  rw [hexs_big (by decide), hexs_big (by decide), hexs_big (by decide), hexs_big (by decide), hexs_big (by decide), hexs_big (by decide), hexs_big (by decide), hexs_small (by decide)]
  decide
theorem awake_text : textB 3 0 1 0 4294967295 = ⟨#[97, 100, 100, 32, 48, 32, 48, 48, 48, 48, 48, 48, 48, 49, 32, 119, 97, 115, 32, 102, 102, 102, 102, 102, 102, 102, 102]⟩ := by
  have h1 : hex8 ((1 : Int).toNat) = [48, 48, 48, 48, 48, 48, 48, 49] := by show hex8 1 = _; unfold hex8; rw [hexs_one]; decide
  have h2 : hex8 ((4294967295 : Int).toNat) = [102, 102, 102, 102, 102, 102, 102, 102] := by show hex8 4294967295 = _; unfold hex8; rw [hexs_top]; decide
  unfold textB parts
  rw [if_pos (by decide), if_pos (by decide), if_neg (by decide), h1, h2]
  decide +kernel
theorem awake_walk (w : World) (hT : Tabs w) : Calls Tryd.prog 34 #[] w fun e w' => e = .returned (.bool true) ∧ Below w.heap.size w w' := by
  have h := awake_text
  replace hT := Lib.hid hT
  go_enter Tryd.func34, Tryd.ntmps34
  go_wp2_with (go_at_call 32; refine (text_walk 3 0 1 0 4294967295 _ hT.out (by decide) (by decide) (by decide)).mono ?_; rintro e w1 ⟨rfl, hb1⟩; replace hb1 := Lib.hid hb1)
  go_ret
  exact ⟨by simp, hb1.out⟩

/-! the walk -/
set_option maxRecDepth 100000 in
set_option maxHeartbeats 4000000 in
theorem apart_walk (k1 c1 x1 y1 o1 k2 c2 x2 y2 o2 : Int) (w : World) (hT : Tabs w) (hx1 : 0 ≤ x1 ∧ x1 < 4294967296) (hy1 : 0 ≤ y1 ∧ y1 < 4294967296) (ho1 : 0 ≤ o1 ∧ o1 < 4294967296) (hx2 : 0 ≤ x2 ∧ x2 < 4294967296) (hy2 : 0 ≤ y2 ∧ y2 < 4294967296) (ho2 : 0 ≤ o2 ∧ o2 < 4294967296) :
    Calls Tryd.prog 6 #[.agg #[.int .i64 k1, .int .i64 c1, .int .u32 x1, .int .u32 y1, .int .u32 o1], .agg #[.int .i64 k2, .int .i64 c2, .int .u32 x2, .int .u32 y2, .int .u32 o2]] w fun e w' => e = .returned (.bool true) ∧ Below w.heap.size w w' := by
  obtain ⟨w0, hw0⟩ : ∃ w0 : World, w0 = (w.alloc (.cells #[.int .i64 k1, .int .i64 c1, .int .u32 x1, .int .u32 y1, .int .u32 o1] 48)).alloc (.cells #[.int .i64 k2, .int .i64 c2, .int .u32 x2, .int .u32 y2, .int .u32 o2] 48) := ⟨_, rfl⟩
  obtain ⟨b1, hbb1⟩ : ∃ b, b = w.heap.size := ⟨_, rfl⟩
  obtain ⟨b2, hbb2⟩ : ∃ b, b = w.heap.size + 1 := ⟨_, rfl⟩
  have hs0 : w0.heap.size = w.heap.size + 2 := by rw [hw0]; simp
  have hb1 : b1 < w0.heap.size := by omega
  have hb2 : b2 < w0.heap.size := by omega
  have h10 : w0.heap[b1]? = some (.cells #[.int .i64 k1, .int .i64 c1, .int .u32 x1, .int .u32 y1, .int .u32 o1] 48 (0, 0)) := by rw [hw0, hbb1]; exact (Below.heap_alloc _ _ _ (by simp)).trans (heap_alloc_new w _)
  have h20 : w0.heap[b2]? = some (.cells #[.int .i64 k2, .int .i64 c2, .int .u32 x2, .int .u32 y2, .int .u32 o2] 48 (0, 0)) := by rw [hw0, hbb2]; have := heap_alloc_new (w.alloc (.cells #[.int .i64 k1, .int .i64 c1, .int .u32 x1, .int .u32 y1, .int .u32 o1] 48)) (.cells #[.int .i64 k2, .int .i64 c2, .int .u32 x2, .int .u32 y2, .int .u32 o2] 48); simpa using this
  have hBw : Below w.heap.size w w0 := by rw [hw0]; exact below_alloc (below_alloc (Below.refl _ _) _) _
  have hBz : Below w0.heap.size w0 w0.drew := below_drew (Below.refl _ _)
  replace h10 := Lib.hid h10
  replace h20 := Lib.hid h20
  replace hBw := Lib.hid hBw
  replace hT := Lib.hid hT
  replace hs0 := Lib.hid hs0
  go_enter Tryd.func6, Tryd.ntmps6
  go_upto_region 1 with (fail)
  rw [← hw0, ← hbb2, ← hbb1]
  replace hw0 := Lib.hid hw0
  replace hbb1 := Lib.hid hbb1
  replace hbb2 := Lib.hid hbb2
  have h1z := (hBz.block b1 hb1).trans h10.out
  have h2z := (hBz.block b2 hb2).trans h20.out
  refine start_ (n := 6) (S := fun w' => w'.cell? ⟨b1, 0, none⟩ = some (.int .i64 k1) ∧ w'.cell? ⟨b1, 1, none⟩ = some (.int .i64 c1) ∧ w'.cell? ⟨b1, 2, none⟩ = some (.int .u32 x1) ∧ w'.cell? ⟨b1, 3, none⟩ = some (.int .u32 y1) ∧ w'.cell? ⟨b1, 4, none⟩ = some (.int .u32 o1) ∧ w'.cell? ⟨b2, 0, none⟩ = some (.int .i64 k2) ∧ w'.cell? ⟨b2, 1, none⟩ = some (.int .i64 c2) ∧ w'.cell? ⟨b2, 2, none⟩ = some (.int .u32 x2) ∧ w'.cell? ⟨b2, 3, none⟩ = some (.int .u32 y2) ∧ w'.cell? ⟨b2, 4, none⟩ = some (.int .u32 o2)) (ds := []) #[false, false, false, false, false, false] (by kernel_rfl) rfl rfl ⟨(cell_of_heap h1z rfl), (cell_of_heap h1z rfl), (cell_of_heap h1z rfl), (cell_of_heap h1z rfl), (cell_of_heap h1z rfl), (cell_of_heap h2z rfl), (cell_of_heap h2z rfl), (cell_of_heap h2z rfl), (cell_of_heap h2z rfl), (cell_of_heap h2z rfl)⟩ (fun hHeld => ?_)
  refine take_ (i := 0) (N := some 7) (v := ?_) (a' := ?_) #[true, false, false, false, false, false] rfl rfl (by kernel_rfl) (fun _ _ _ h => h) (Or.inl ⟨by rfl, ?_⟩) hHeld ?_ ?_
  rotate_left
  · rintro w' ⟨s0, s1, s2, s3, s4, s5, s6, s7, s8, s9⟩
    go_simp
    with_reducible rfl
  rotate_left
  · simp only [Act.put, List.setIfInBounds_toArray, List.set_cons_zero, List.set_cons_succ, i64_w, i32_w]
    rfl
  refine take_ (i := 2) (N := some 9) (v := ?_) (a' := ?_) #[true, false, true, false, false, false] rfl rfl (by kernel_rfl) (fun _ _ _ h => h) (Or.inl ⟨by rfl, ?_⟩) hHeld ?_ ?_
  rotate_left
  · rintro w' ⟨s0, s1, s2, s3, s4, s5, s6, s7, s8, s9⟩
    go_simp
    with_reducible rfl
  rotate_left
  · simp only [Act.put, List.setIfInBounds_toArray, List.set_cons_zero, List.set_cons_succ, i64_w, i32_w]
    rfl
  refine one_ (i := 1) (N := some 8) #[true, true, true, false, false, false] rfl rfl (by kernel_rfl) (by decide) (fun K hK => ?_)
  refine goes_ Tryd.func32 (by kernel_rfl) rfl #[.agg #[.int .i64 k1, .int .i64 c1, .int .u32 x1, .int .u32 y1, .int .u32 o1]] (by rfl) rfl rfl (by simp only [List.map_toArray, List.map_cons, List.map_nil]; rfl) ?_
  with_reducible refine (text_walk k1 c1 x1 y1 o1 _ (hT.out.mono hBw.out hBz) hx1 hy1 ho1).mono ?_
  rintro e wx ⟨rfl, hbx⟩
  refine ⟨_, rfl, ?_⟩
  have hBx := below_then hBz hBz.size hbx
  have h1x := (hBx.block b1 hb1).trans h10.out
  have h2x := (hBx.block b2 hb2).trans h20.out
  refine hK.out _ _ ⟨(cell_of_heap h1x rfl), (cell_of_heap h1x rfl), (cell_of_heap h1x rfl), (cell_of_heap h1x rfl), (cell_of_heap h1x rfl), (cell_of_heap h2x rfl), (cell_of_heap h2x rfl), (cell_of_heap h2x rfl), (cell_of_heap h2x rfl), (cell_of_heap h2x rfl)⟩ (fun hHeld => ?_)
  clear hK K
  refine norm_ (a' := ?_) ?_ ?_
  rotate_left
  · show Act.put _ (some 8) _ = _
    simp only [Act.put, List.setIfInBounds_toArray, List.set_cons_zero, List.set_cons_succ, i64_w, i32_w]
    rfl
  refine one_ (i := 3) (N := some 10) #[true, true, true, true, false, false] rfl rfl (by kernel_rfl) (by decide) (fun K hK => ?_)
  refine goes_ Tryd.func32 (by kernel_rfl) rfl #[.agg #[.int .i64 k2, .int .i64 c2, .int .u32 x2, .int .u32 y2, .int .u32 o2]] (by rfl) rfl rfl (by simp only [List.map_toArray, List.map_cons, List.map_nil]; rfl) ?_
  with_reducible refine (text_walk k2 c2 x2 y2 o2 _ (hT.out.mono hBw.out hBx) hx2 hy2 ho2).mono ?_
  rintro e wy ⟨rfl, hby⟩
  refine ⟨_, rfl, ?_⟩
  have hBy := below_then hBx hBx.size hby
  have h1y := (hBy.block b1 hb1).trans h10.out
  have h2y := (hBy.block b2 hb2).trans h20.out
  refine hK.out _ _ ⟨(cell_of_heap h1y rfl), (cell_of_heap h1y rfl), (cell_of_heap h1y rfl), (cell_of_heap h1y rfl), (cell_of_heap h1y rfl), (cell_of_heap h2y rfl), (cell_of_heap h2y rfl), (cell_of_heap h2y rfl), (cell_of_heap h2y rfl), (cell_of_heap h2y rfl)⟩ (fun hHeld => ?_)
  clear hK K
  refine norm_ (a' := ?_) ?_ ?_
  rotate_left
  · show Act.put _ (some 10) _ = _
    simp only [Act.put, List.setIfInBounds_toArray, List.set_cons_zero, List.set_cons_succ, i64_w, i32_w]
    rfl
  refine pure_ (i := 4) (N := some 5) (v := ?_) (a' := ?_) #[true, true, true, true, true, false] rfl rfl (by kernel_rfl) (fun _ _ _ h => h) (Or.inl ⟨by rfl, ?_⟩) ?_ ?_
  rotate_left
  · intro w'
    go_simp
    with_reducible rfl
  rotate_left
  · simp only [Act.put, List.setIfInBounds_toArray, List.set_cons_zero, List.set_cons_succ, i64_w, i32_w]
    rfl
  refine pure_ (i := 5) (N := some 6) (v := ?_) (a' := ?_) #[true, true, true, true, true, true] rfl rfl (by kernel_rfl) (fun _ _ _ h => h) (Or.inl ⟨by rfl, ?_⟩) ?_ ?_
  rotate_left
  · intro w'
    go_simp
    with_reducible rfl
  rotate_left
  · simp only [Act.put, List.setIfInBounds_toArray, List.set_cons_zero, List.set_cons_succ, i64_w, i32_w]
    rfl
  refine done_ (by kernel_rfl) ?_
  have fin : ∀ W : World, Below w0.heap.size w0 W → Below w.heap.size w W := fun W hW => below_then hBw.out hBw.out.size hW
  replace fin := Lib.hid fin
  have q0 := cell_of_heap (j := 0) h1y rfl; have q1 := cell_of_heap (j := 1) h1y rfl; have q2 := cell_of_heap (j := 2) h1y rfl; have q3 := cell_of_heap (j := 3) h1y rfl; have q4 := cell_of_heap (j := 4) h1y rfl
  have r0 := cell_of_heap (j := 0) h2y rfl; have r1 := cell_of_heap (j := 1) h2y rfl; have r2 := cell_of_heap (j := 2) h2y rfl; have r3 := cell_of_heap (j := 3) h2y rfl; have r4 := cell_of_heap (j := 4) h2y rfl
  by_cases hR1 : Right k1 c1 x1 y1
  · by_cases hR2 : Right k2 c2 x2 y2
    · have f1 := text_full o1 hR1
      have g1 := text_full o2 hR2
      by_cases he : k1 = k2 ∧ c1 = c2 ∧ x1 = x2 ∧ y1 = y2 ∧ o1 = o2
      · obtain ⟨rfl, rfl, rfl, rfl, rfl⟩ := he
        have hq := fun w => acc_eql w k1 c1 x1 y1 o1 k1 c1 x1 y1 o1 true (by simp)
        go_wp2_with (go_at_call 34; refine (awake_walk _ (hT.out.mono hBw.out hBy)).mono ?_; rintro e wr ⟨rfl, hbr⟩; have hBr := below_then hBy hBy.size hbr; clear hbr)
        go_ret
        exact ⟨by simp, fin.out _ hBr⟩
      · have hne : ((textB k1 c1 x1 y1 o1).toList == (textB k2 c2 x2 y2 o2).toList) = false := by
          rw [beq_eq_false_iff_ne]
          exact fun h => he (text_apart hR1 hR2 hx1.1 hx2.1 hy1.1 hy2.1 ho1.1 ho2.1 (bytes_ext h))
        have hq := fun w => acc_eql w k1 c1 x1 y1 o1 k2 c2 x2 y2 o2 false (by simpa using he)
        go_wp2_with (go_at_call 34; refine (awake_walk _ (hT.out.mono hBw.out hBy)).mono ?_; rintro e wr ⟨rfl, hbr⟩; have hBr := below_then hBy hBy.size hbr; clear hbr)
        go_ret
        exact ⟨by simp [hne], fin.out _ hBr⟩
    · have f1 := text_full o1 hR1
      rw [text_none o2 hR2]
      go_wp2_with (first | (go_at_call 33; ((with_reducible refine (right_yes o1 hR1 _).mono ?_); rintro e wp ⟨rfl, hbp⟩; have hBp := below_then hBy hBy.size hbp; have h1p := (hBp.block b1 hb1).trans h10.out; have h2p := (hBp.block b2 hb2).trans h20.out; have dp0 := cell_of_heap (j := 0) h1p rfl; have dp1 := cell_of_heap (j := 1) h1p rfl; have dp2 := cell_of_heap (j := 2) h1p rfl; have dp3 := cell_of_heap (j := 3) h1p rfl; have dp4 := cell_of_heap (j := 4) h1p rfl; have ep0 := cell_of_heap (j := 0) h2p rfl; have ep1 := cell_of_heap (j := 1) h2p rfl; have ep2 := cell_of_heap (j := 2) h2p rfl; have ep3 := cell_of_heap (j := 3) h2p rfl; have ep4 := cell_of_heap (j := 4) h2p rfl; clear hbp)) | (go_at_call 33; ((with_reducible refine (right_no o2 hR2 _).mono ?_); rintro e wq ⟨rfl, hbq⟩; have hBq := below_then hBp hBp.size hbq; have h1q := (hBq.block b1 hb1).trans h10.out; have h2q := (hBq.block b2 hb2).trans h20.out; have dq0 := cell_of_heap (j := 0) h1q rfl; have dq1 := cell_of_heap (j := 1) h1q rfl; have dq2 := cell_of_heap (j := 2) h1q rfl; have dq3 := cell_of_heap (j := 3) h1q rfl; have dq4 := cell_of_heap (j := 4) h1q rfl; have eq0 := cell_of_heap (j := 0) h2q rfl; have eq1 := cell_of_heap (j := 1) h2q rfl; have eq2 := cell_of_heap (j := 2) h2q rfl; have eq3 := cell_of_heap (j := 3) h2q rfl; have eq4 := cell_of_heap (j := 4) h2q rfl; clear hbq)) | (go_at_call 34; refine (awake_walk _ (hT.out.mono hBw.out hBq)).mono ?_; rintro e wr ⟨rfl, hbr⟩; have hBr := below_then hBq hBq.size hbr; clear hbr))
      go_ret
      exact ⟨by simp, fin.out _ hBr⟩
  · rw [text_none o1 hR1]
    by_cases hR2 : Right k2 c2 x2 y2
    · have g1 := text_full o2 hR2
      go_wp2_with (first | (go_at_call 33; ((with_reducible refine (right_no o1 hR1 _).mono ?_); rintro e wp ⟨rfl, hbp⟩; have hBp := below_then hBy hBy.size hbp; have h1p := (hBp.block b1 hb1).trans h10.out; have h2p := (hBp.block b2 hb2).trans h20.out; have dp0 := cell_of_heap (j := 0) h1p rfl; have dp1 := cell_of_heap (j := 1) h1p rfl; have dp2 := cell_of_heap (j := 2) h1p rfl; have dp3 := cell_of_heap (j := 3) h1p rfl; have dp4 := cell_of_heap (j := 4) h1p rfl; have ep0 := cell_of_heap (j := 0) h2p rfl; have ep1 := cell_of_heap (j := 1) h2p rfl; have ep2 := cell_of_heap (j := 2) h2p rfl; have ep3 := cell_of_heap (j := 3) h2p rfl; have ep4 := cell_of_heap (j := 4) h2p rfl; clear hbp)) | (go_at_call 33; ((with_reducible refine (right_yes o2 hR2 _).mono ?_); rintro e wq ⟨rfl, hbq⟩; have hBq := below_then hBp hBp.size hbq; have h1q := (hBq.block b1 hb1).trans h10.out; have h2q := (hBq.block b2 hb2).trans h20.out; have dq0 := cell_of_heap (j := 0) h1q rfl; have dq1 := cell_of_heap (j := 1) h1q rfl; have dq2 := cell_of_heap (j := 2) h1q rfl; have dq3 := cell_of_heap (j := 3) h1q rfl; have dq4 := cell_of_heap (j := 4) h1q rfl; have eq0 := cell_of_heap (j := 0) h2q rfl; have eq1 := cell_of_heap (j := 1) h2q rfl; have eq2 := cell_of_heap (j := 2) h2q rfl; have eq3 := cell_of_heap (j := 3) h2q rfl; have eq4 := cell_of_heap (j := 4) h2q rfl; clear hbq)) | (go_at_call 34; refine (awake_walk _ (hT.out.mono hBw.out hBq)).mono ?_; rintro e wr ⟨rfl, hbr⟩; have hBr := below_then hBq hBq.size hbr; clear hbr))
      go_ret
      exact ⟨by simp, fin.out _ hBr⟩
    · rw [text_none o2 hR2]
      go_wp2_with (first | (go_at_call 33; ((with_reducible refine (right_no o1 hR1 _).mono ?_); rintro e wp ⟨rfl, hbp⟩; have hBp := below_then hBy hBy.size hbp; have h1p := (hBp.block b1 hb1).trans h10.out; have h2p := (hBp.block b2 hb2).trans h20.out; have dp0 := cell_of_heap (j := 0) h1p rfl; have dp1 := cell_of_heap (j := 1) h1p rfl; have dp2 := cell_of_heap (j := 2) h1p rfl; have dp3 := cell_of_heap (j := 3) h1p rfl; have dp4 := cell_of_heap (j := 4) h1p rfl; have ep0 := cell_of_heap (j := 0) h2p rfl; have ep1 := cell_of_heap (j := 1) h2p rfl; have ep2 := cell_of_heap (j := 2) h2p rfl; have ep3 := cell_of_heap (j := 3) h2p rfl; have ep4 := cell_of_heap (j := 4) h2p rfl; clear hbp)) | (go_at_call 33; ((with_reducible refine (right_no o2 hR2 _).mono ?_); rintro e wq ⟨rfl, hbq⟩; have hBq := below_then hBp hBp.size hbq; have h1q := (hBq.block b1 hb1).trans h10.out; have h2q := (hBq.block b2 hb2).trans h20.out; have dq0 := cell_of_heap (j := 0) h1q rfl; have dq1 := cell_of_heap (j := 1) h1q rfl; have dq2 := cell_of_heap (j := 2) h1q rfl; have dq3 := cell_of_heap (j := 3) h1q rfl; have dq4 := cell_of_heap (j := 4) h1q rfl; have eq0 := cell_of_heap (j := 0) h2q rfl; have eq1 := cell_of_heap (j := 1) h2q rfl; have eq2 := cell_of_heap (j := 2) h2q rfl; have eq3 := cell_of_heap (j := 3) h2q rfl; have eq4 := cell_of_heap (j := 4) h2q rfl; clear hbq)) | (go_at_call 34; refine (awake_walk _ (hT.out.mono hBw.out hBq)).mono ?_; rintro e wr ⟨rfl, hbr⟩; have hBr := below_then hBq hBq.size hbr; clear hbr))
      go_ret
      exact ⟨by simp, fin.out _ hBr⟩

theorem agg_of {W : World} {x : Int × Int × Int × Int × Int} {g : Array Value} (K : (Kd.pair (Kd.int .i64) (Kd.pair (Kd.int .i64) (Kd.pair (Kd.int .u32) (Kd.pair (Kd.int .u32) (Kd.int .u32))))).K W x (Value.agg g).cells.toList) : g = #[.int .i64 x.1, .int .i64 x.2.1, .int .u32 x.2.2.1, .int .u32 x.2.2.2.1, .int .u32 x.2.2.2.2] := by
  obtain ⟨_, _, hg, rfl, ⟨_, _, rfl, rfl, ⟨_, _, rfl, rfl, ⟨_, _, rfl, rfl, rfl⟩⟩⟩⟩ := K
  have hl : g.toList = _ := hg
  exact Array.toList_inj.1 (by simpa using hl)
def Wf (x : Int × Int × Int × Int × Int) : Prop := (Lit.int .i64 x.1).wf = true ∧ (Lit.int .i64 x.2.1).wf = true ∧ (Lit.int .u32 x.2.2.1).wf = true ∧ (Lit.int .u32 x.2.2.2.1).wf = true ∧ (Lit.int .u32 x.2.2.2.2).wf = true
theorem wf_u32 {x : Int} (h : (Lit.int .u32 x).wf = true) : 0 ≤ x ∧ x < 4294967296 := by
  have := bounds_u32 h
  omega
theorem apart_args {W : World} (hT : Tabs W) {x y : Int × Int × Int × Int × Int} {g0 g1 : Array Value} (q0 : Wf x) (q1 : Wf y) (K0 : (Kd.pair (Kd.int .i64) (Kd.pair (Kd.int .i64) (Kd.pair (Kd.int .u32) (Kd.pair (Kd.int .u32) (Kd.int .u32))))).K W x (Value.agg g0).cells.toList) (K1 : (Kd.pair (Kd.int .i64) (Kd.pair (Kd.int .i64) (Kd.pair (Kd.int .u32) (Kd.pair (Kd.int .u32) (Kd.int .u32))))).K W y (Value.agg g1).cells.toList) :
    Calls Tryd.prog 6 #[.agg g0, .agg g1] W fun e w' => e = .returned (.bool true) ∧ Below W.heap.size W w' := by
  rw [agg_of K0, agg_of K1]
  exact apart_walk _ _ _ _ _ _ _ _ _ _ W hT (wf_u32 q0.2.2.1) (wf_u32 q0.2.2.2.1) (wf_u32 q0.2.2.2.2) (wf_u32 q1.2.2.1) (wf_u32 q1.2.2.2.1) (wf_u32 q1.2.2.2.2)

end Go.Proofs.YtejmbmhehbcflaaDoor.Acc
