/- The law NoteApart: right notes have the same text just if they are the same. -/
import Derived.Test.YtejmbmhehbcflaaDoorText
import Derived.Test.YtejmbmhehbcflaaDoorWEqStruct
namespace Go.Proofs.YtejmbmhehbcflaaDoor.Note
open Go.RowKit Go.Proofs.YtejmbmhehbcflaaDoorW.PrintWords Go.Proofs.YtejmbmhehbcflaaDoorW.PrintMore Go.Proofs.YtejmbmhehbcflaaDoorW.PrintLast Go.Proofs.YtejmbmhehbcflaaDoor.Pr
set_option linter.unusedSimpArgs false

/-! the plain law -/
theorem joined_full (n : Nat) (wh o a : Int) (hn : n < 100) : ¬ joined (parts n wh o a) = ⟨#[]⟩ := by
  intro h
  have h1 : 1 ≤ (Lib.decDigits n).length := (by decide +kernel : ∀ i : Fin 100, 1 ≤ (Lib.decDigits i.val).length) ⟨n, hn⟩
  have h2 : (joined (parts n wh o a)).data.toList.length = 0 := by rw [h]; rfl
  unfold joined at h2
  unfold parts at h2
  cases hd : Lib.decDigits n with
  | nil => rw [hd] at h1; simp at h1
  | cons c l =>
    rw [hd] at h2
    split at h2 <;> split at h2 <;> simp [Lib.join, List.intercalate] at h2
/-- What stands behind the task's number and a blank. -/
def tailL (wh o a : Int) : List UInt8 :=
  Lib.join (((atv whatsL wh :: (if wh = 1 ∨ wh = 11 then [atv opsL o] else [])) ++ (if a ≠ 0 then [atv (argsL wh) a] else [])).map (·.data.toList)) [32]
theorem joined_data (n : Nat) (wh o a : Int) : (joined (parts n wh o a)).data.toList = Lib.decDigits n ++ 32 :: tailL wh o a := by
  unfold joined parts tailL Lib.join
  split <;> split <;> simp [List.intercalate]
/-- Right notes without their tasks. -/
def all : List (Int × Int × Int) :=
  (([1, 2, 3, 4, 5, 6, 7, 8] : List Int).map fun o => (1, o, 0)) ++ (([1, 2] : List Int).map fun a => (2, 0, a)) ++ (([3, 4, 5, 6, 7, 8, 9, 10] : List Int).map fun wh => (wh, 0, 0)) ++ (([1, 2, 3, 4, 5, 6, 7, 8] : List Int).flatMap fun o => ([1, 2, 3] : List Int).map fun a => (11, o, a))
theorem mem_all {t wh o a : Int} (h : Right t wh o a) : (wh, o, a) ∈ all := by
  unfold Right at h
  obtain ⟨h1, h2, h3, h4, h5, h6⟩ := h
  unfold all
  simp only [List.mem_append, List.mem_map, List.mem_flatMap]
  by_cases e1 : wh = 1
  · subst e1
    rw [if_pos (.inl rfl)] at h5
    rw [if_neg (by decide), if_neg (by decide)] at h6
    subst h6
    exact .inl (.inl (.inl ⟨o, by simp; omega, rfl⟩))
  · by_cases e11 : wh = 11
    · subst e11
      rw [if_pos (.inr rfl)] at h5
      rw [if_neg (by decide), if_pos rfl] at h6
      exact .inr ⟨o, by simp; omega, a, by simp; omega, rfl⟩
    · rw [if_neg (by omega)] at h5
      subst h5
      by_cases e2 : wh = 2
      · subst e2
        rw [if_pos rfl] at h6
        exact .inl (.inl (.inr ⟨a, by simp; omega, rfl⟩))
      · rw [if_neg e2, if_neg e11] at h6
        subst h6
        exact .inl (.inr ⟨wh, by simp; omega, rfl⟩)
theorem tails_apart : ∀ x ∈ all, ∀ y ∈ all, tailL x.1 x.2.1 x.2.2 = tailL y.1 y.2.1 y.2.2 → x = y := by decide +kernel
theorem digits_apart : ∀ i j : Fin 64, Lib.decDigits i.val = Lib.decDigits j.val → i = j := by decide +kernel
theorem digits_no : ∀ i : Fin 64, (32 : UInt8) ∉ Lib.decDigits i.val := by decide +kernel
theorem cut_eq {c : UInt8} : ∀ {l1 l2 r1 r2 : List UInt8}, c ∉ l1 → c ∉ l2 → l1 ++ c :: r1 = l2 ++ c :: r2 → l1 = l2 ∧ r1 = r2
  | [], [], _, _, _, _, h => ⟨rfl, by simpa using h⟩
  | [], b :: l2, _, _, _, h2, h => by
    simp only [List.nil_append, List.cons_append, List.cons.injEq] at h
    exact absurd (by simp [h.1]) h2
  | a :: l1, [], _, _, h1, _, h => by
    simp only [List.nil_append, List.cons_append, List.cons.injEq] at h
    exact absurd (by simp [h.1]) h1
  | a :: l1, b :: l2, _, _, h1, h2, h => by
    simp only [List.cons_append, List.cons.injEq] at h
    obtain ⟨k1, k2⟩ := cut_eq (fun k => h1 (by simp [k])) (fun k => h2 (by simp [k])) h.2
    exact ⟨by rw [h.1, k1], k2⟩
/-- Right notes of one text are one. -/
theorem text_apart {t1 wh1 o1 a1 t2 wh2 o2 a2 : Int} (h1 : Right t1 wh1 o1 a1) (h2 : Right t2 wh2 o2 a2) (h : textB t1 wh1 o1 a1 = textB t2 wh2 o2 a2) : t1 = t2 ∧ wh1 = wh2 ∧ o1 = o2 ∧ a1 = a2 := by
  unfold textB at h
  rw [if_pos h1, if_pos h2] at h
  have h3 := congrArg (fun s : ByteArray => s.data.toList) h
  simp only [joined_data] at h3
  have k1 := h1.1; have k2 := h1.2.1; have k3 := h2.1; have k4 := h2.2.1
  obtain ⟨e1, e2⟩ := cut_eq (digits_no ⟨t1.toNat, by omega⟩) (digits_no ⟨t2.toNat, by omega⟩) h3
  have e3 := digits_apart ⟨t1.toNat, by omega⟩ ⟨t2.toNat, by omega⟩ e1
  have e4 := tails_apart _ (mem_all h1) _ (mem_all h2) e2
  simp only [Fin.mk.injEq, Prod.mk.injEq] at e3 e4
  exact ⟨by omega, e4⟩
theorem text_full {t wh o a : Int} (h : Right t wh o a) : (textB t wh o a).toList.isEmpty = false ∧ ((textB t wh o a).toList == []) = false ∧ ((textB t wh o a).toList != []) = true := by
  have h0 := h.1; have h1 := h.2.1
  have h2 : ¬ textB t wh o a = ⟨#[]⟩ := by unfold textB; rw [if_pos h]; exact joined_full _ _ _ _ (by omega)
  have h3 := list_full h2
  cases hl : (textB t wh o a).toList with
  | nil => rw [hl] at h3; simp at h3
  | cons c l => simp
theorem text_none {t wh o a : Int} (h : ¬ Right t wh o a) : textB t wh o a = ⟨#[]⟩ := if_neg h

/-! the walk -/
theorem bytes_ext {a b : ByteArray} (h : a.toList = b.toList) : a = b := by
  rw [ByteArray.toList_eq, ByteArray.toList_eq] at h
  obtain ⟨⟨x⟩⟩ := a
  obtain ⟨⟨y⟩⟩ := b
  simpa using h
theorem note_eql (w : World) (x0 x1 x2 x3 y0 y1 y2 y3 : Int) (r : Bool) (hr : r = decide (x0 = y0 ∧ x1 = y1 ∧ x2 = y2 ∧ x3 = y3)) :
    (binOp .eql 35 (.agg #[.int .i64 x0, .int .i64 x1, .int .i64 x2, .int .i64 x3]) (.agg #[.int .i64 y0, .int .i64 y1, .int .i64 y2, .int .i64 y3])).run Tryd.prog w = .ok (.bool r) w := by
  subst hr
  go_simp
  by_cases e0 : x0 = y0 <;> by_cases e1 : x1 = y1 <;> by_cases e2 : x2 = y2 <;> by_cases e3 : x3 = y3 <;> simp [e0, e1, e2, e3]

set_option maxRecDepth 100000 in
set_option maxHeartbeats 4000000 in
theorem apart_walk (t1 wh1 o1 a1 t2 wh2 o2 a2 : Int) (w : World) :
    Calls Tryd.prog 4 #[.agg #[.int .i64 t1, .int .i64 wh1, .int .i64 o1, .int .i64 a1], .agg #[.int .i64 t2, .int .i64 wh2, .int .i64 o2, .int .i64 a2]] w fun e w' => e = .returned (.bool true) ∧ Below w.heap.size w w' := by
  obtain ⟨w0, hw0⟩ : ∃ w0 : World, w0 = (w.alloc (.cells #[.int .i64 t1, .int .i64 wh1, .int .i64 o1, .int .i64 a1] 35)).alloc (.cells #[.int .i64 t2, .int .i64 wh2, .int .i64 o2, .int .i64 a2] 35) := ⟨_, rfl⟩
  obtain ⟨b1, hbb1⟩ : ∃ b, b = w.heap.size := ⟨_, rfl⟩
  obtain ⟨b2, hbb2⟩ : ∃ b, b = w.heap.size + 1 := ⟨_, rfl⟩
  have hs0 : w0.heap.size = w.heap.size + 2 := by rw [hw0]; simp
  have hb1 : b1 < w0.heap.size := by omega
  have hb2 : b2 < w0.heap.size := by omega
  have h10 : w0.heap[b1]? = some (.cells #[.int .i64 t1, .int .i64 wh1, .int .i64 o1, .int .i64 a1] 35 (0, 0)) := by rw [hw0, hbb1]; exact (Below.heap_alloc _ _ _ (by simp)).trans (heap_alloc_new w _)
  have h20 : w0.heap[b2]? = some (.cells #[.int .i64 t2, .int .i64 wh2, .int .i64 o2, .int .i64 a2] 35 (0, 0)) := by rw [hw0, hbb2]; have := heap_alloc_new (w.alloc (.cells #[.int .i64 t1, .int .i64 wh1, .int .i64 o1, .int .i64 a1] 35)) (.cells #[.int .i64 t2, .int .i64 wh2, .int .i64 o2, .int .i64 a2] 35); simpa using this
  have hBw : Below w.heap.size w w0 := by rw [hw0]; exact below_alloc (below_alloc (Below.refl _ _) _) _
  have hBz : Below w0.heap.size w0 w0.drew := below_drew (Below.refl _ _)
  replace h10 := Lib.hid h10
  replace h20 := Lib.hid h20
  replace hBw := Lib.hid hBw
  replace hs0 := Lib.hid hs0
  go_enter Tryd.func4, Tryd.ntmps4
  go_upto_region 1 with (fail)
  rw [← hw0, ← hbb2, ← hbb1]
  replace hw0 := Lib.hid hw0
  replace hbb1 := Lib.hid hbb1
  replace hbb2 := Lib.hid hbb2
  have h1z := (hBz.block b1 hb1).trans h10.out
  have h2z := (hBz.block b2 hb2).trans h20.out
  refine start_ (n := 6) (S := fun w' => w'.cell? ⟨b1, 0, none⟩ = some (.int .i64 t1) ∧ w'.cell? ⟨b1, 1, none⟩ = some (.int .i64 wh1) ∧ w'.cell? ⟨b1, 2, none⟩ = some (.int .i64 o1) ∧ w'.cell? ⟨b1, 3, none⟩ = some (.int .i64 a1) ∧ w'.cell? ⟨b2, 0, none⟩ = some (.int .i64 t2) ∧ w'.cell? ⟨b2, 1, none⟩ = some (.int .i64 wh2) ∧ w'.cell? ⟨b2, 2, none⟩ = some (.int .i64 o2) ∧ w'.cell? ⟨b2, 3, none⟩ = some (.int .i64 a2)) (ds := []) #[false, false, false, false, false, false] (by kernel_rfl) rfl rfl ⟨(cell_of_heap h1z rfl), (cell_of_heap h1z rfl), (cell_of_heap h1z rfl), (cell_of_heap h1z rfl), (cell_of_heap h2z rfl), (cell_of_heap h2z rfl), (cell_of_heap h2z rfl), (cell_of_heap h2z rfl)⟩ (fun hHeld => ?_)
  refine take_ (i := 0) (N := some 7) (v := ?_) (a' := ?_) #[true, false, false, false, false, false] rfl rfl (by kernel_rfl) (fun _ _ _ h => h) (Or.inl ⟨by rfl, ?_⟩) hHeld ?_ ?_
  rotate_left
  · rintro w' ⟨s0, s1, s2, s3, s4, s5, s6, s7⟩
    go_simp
    with_reducible rfl
  rotate_left
  · simp only [Act.put, List.setIfInBounds_toArray, List.set_cons_zero, List.set_cons_succ, i64_w, i32_w]
    rfl
  refine take_ (i := 2) (N := some 9) (v := ?_) (a' := ?_) #[true, false, true, false, false, false] rfl rfl (by kernel_rfl) (fun _ _ _ h => h) (Or.inl ⟨by rfl, ?_⟩) hHeld ?_ ?_
  rotate_left
  · rintro w' ⟨s0, s1, s2, s3, s4, s5, s6, s7⟩
    go_simp
    with_reducible rfl
  rotate_left
  · simp only [Act.put, List.setIfInBounds_toArray, List.set_cons_zero, List.set_cons_succ, i64_w, i32_w]
    rfl
  refine one_ (i := 1) (N := some 8) #[true, true, true, false, false, false] rfl rfl (by kernel_rfl) (by decide) (fun K hK => ?_)
  refine goes_ Tryd.func24 (by kernel_rfl) rfl #[.agg #[.int .i64 t1, .int .i64 wh1, .int .i64 o1, .int .i64 a1]] (by rfl) rfl rfl (by simp only [List.map_toArray, List.map_cons, List.map_nil]; rfl) ?_
  with_reducible refine (text_walk t1 wh1 o1 a1 _).mono ?_
  rintro e wx ⟨rfl, hbx⟩
  refine ⟨_, rfl, ?_⟩
  have hBx := below_then hBz hBz.size hbx
  have h1x := (hBx.block b1 hb1).trans h10.out
  have h2x := (hBx.block b2 hb2).trans h20.out
  refine hK.out _ _ ⟨(cell_of_heap h1x rfl), (cell_of_heap h1x rfl), (cell_of_heap h1x rfl), (cell_of_heap h1x rfl), (cell_of_heap h2x rfl), (cell_of_heap h2x rfl), (cell_of_heap h2x rfl), (cell_of_heap h2x rfl)⟩ (fun hHeld => ?_)
  clear hK K
  refine norm_ (a' := ?_) ?_ ?_
  rotate_left
  · show Act.put _ (some 8) _ = _
    simp only [Act.put, List.setIfInBounds_toArray, List.set_cons_zero, List.set_cons_succ, i64_w, i32_w]
    rfl
  refine one_ (i := 3) (N := some 10) #[true, true, true, true, false, false] rfl rfl (by kernel_rfl) (by decide) (fun K hK => ?_)
  refine goes_ Tryd.func24 (by kernel_rfl) rfl #[.agg #[.int .i64 t2, .int .i64 wh2, .int .i64 o2, .int .i64 a2]] (by rfl) rfl rfl (by simp only [List.map_toArray, List.map_cons, List.map_nil]; rfl) ?_
  with_reducible refine (text_walk t2 wh2 o2 a2 _).mono ?_
  rintro e wy ⟨rfl, hby⟩
  refine ⟨_, rfl, ?_⟩
  have hBy := below_then hBx hBx.size hby
  have h1y := (hBy.block b1 hb1).trans h10.out
  have h2y := (hBy.block b2 hb2).trans h20.out
  refine hK.out _ _ ⟨(cell_of_heap h1y rfl), (cell_of_heap h1y rfl), (cell_of_heap h1y rfl), (cell_of_heap h1y rfl), (cell_of_heap h2y rfl), (cell_of_heap h2y rfl), (cell_of_heap h2y rfl), (cell_of_heap h2y rfl)⟩ (fun hHeld => ?_)
  clear hK K
  refine norm_ (a' := ?_) ?_ ?_
  rotate_left
  · show Act.put _ (some 10) _ = _
    simp only [Act.put, List.setIfInBounds_toArray, List.set_cons_zero, List.set_cons_succ, i64_w, i32_w]
    rfl
  refine pure_ (i := 4) (N := some 5) (v := ?_) (a' := ?_) #[true, true, true, true, true, false] rfl rfl (by kernel_rfl) (fun _ _ _ h => h) (Or.inl ⟨by rfl, ?_⟩) ?_ ?_
  rotate_left
  · intro w'
    go_simp
    with_reducible rfl
  rotate_left
  · simp only [Act.put, List.setIfInBounds_toArray, List.set_cons_zero, List.set_cons_succ, i64_w, i32_w]
    rfl
  refine pure_ (i := 5) (N := some 6) (v := ?_) (a' := ?_) #[true, true, true, true, true, true] rfl rfl (by kernel_rfl) (fun _ _ _ h => h) (Or.inl ⟨by rfl, ?_⟩) ?_ ?_
  rotate_left
  · intro w'
    go_simp
    with_reducible rfl
  rotate_left
  · simp only [Act.put, List.setIfInBounds_toArray, List.set_cons_zero, List.set_cons_succ, i64_w, i32_w]
    rfl
  refine done_ (by kernel_rfl) ?_
  have fin : ∀ W : World, Below w0.heap.size w0 W → Below w.heap.size w W := fun W hW => below_then hBw.out hBw.out.size hW
  replace fin := Lib.hid fin
  have c0 := cell_of_heap (j := 0) h1y rfl; have c1 := cell_of_heap (j := 1) h1y rfl; have c2 := cell_of_heap (j := 2) h1y rfl; have c3 := cell_of_heap (j := 3) h1y rfl
  have k0 := cell_of_heap (j := 0) h2y rfl; have k1 := cell_of_heap (j := 1) h2y rfl; have k2 := cell_of_heap (j := 2) h2y rfl; have k3 := cell_of_heap (j := 3) h2y rfl
  by_cases hR1 : Right t1 wh1 o1 a1
  · by_cases hR2 : Right t2 wh2 o2 a2
    · obtain ⟨f1, f2, f3⟩ := text_full hR1
      obtain ⟨g1, g2, g3⟩ := text_full hR2
      by_cases he : t1 = t2 ∧ wh1 = wh2 ∧ o1 = o2 ∧ a1 = a2
      · obtain ⟨rfl, rfl, rfl, rfl⟩ := he
        have hq := fun w => note_eql w t1 wh1 o1 a1 t1 wh1 o1 a1 true (by simp)
        go_wp2_with (go_at_call 26; refine (awake_walk _).mono ?_; rintro e wr ⟨rfl, hbr⟩; have hBr := below_then hBy hBy.size hbr; clear hbr)
        go_ret
        exact ⟨by simp, fin.out _ hBr⟩
      · have hne : ((textB t1 wh1 o1 a1).toList == (textB t2 wh2 o2 a2).toList) = false := by
          rw [beq_eq_false_iff_ne]
          exact fun h => he (text_apart hR1 hR2 (bytes_ext h))
        have hq := fun w => note_eql w t1 wh1 o1 a1 t2 wh2 o2 a2 false (by simpa using he)
        go_wp2_with (go_at_call 26; refine (awake_walk _).mono ?_; rintro e wr ⟨rfl, hbr⟩; have hBr := below_then hBy hBy.size hbr; clear hbr)
        go_ret
        exact ⟨by simp [hne], fin.out _ hBr⟩
    · obtain ⟨f1, f2, f3⟩ := text_full hR1
      rw [text_none hR2]
      go_wp2_with (first | (go_at_call 25; ((with_reducible refine (right_yes hR1 _).mono ?_); rintro e wp ⟨rfl, hbp⟩; have hBp := below_then hBy hBy.size hbp; have h1p := (hBp.block b1 hb1).trans h10.out; have h2p := (hBp.block b2 hb2).trans h20.out; have dp0 := cell_of_heap (j := 0) h1p rfl; have dp1 := cell_of_heap (j := 1) h1p rfl; have dp2 := cell_of_heap (j := 2) h1p rfl; have dp3 := cell_of_heap (j := 3) h1p rfl; have ep0 := cell_of_heap (j := 0) h2p rfl; have ep1 := cell_of_heap (j := 1) h2p rfl; have ep2 := cell_of_heap (j := 2) h2p rfl; have ep3 := cell_of_heap (j := 3) h2p rfl; clear hbp)) | (go_at_call 25; ((with_reducible refine (right_no hR2 _).mono ?_); rintro e wq ⟨rfl, hbq⟩; have hBq := below_then hBp hBp.size hbq; have h1q := (hBq.block b1 hb1).trans h10.out; have h2q := (hBq.block b2 hb2).trans h20.out; have dq0 := cell_of_heap (j := 0) h1q rfl; have dq1 := cell_of_heap (j := 1) h1q rfl; have dq2 := cell_of_heap (j := 2) h1q rfl; have dq3 := cell_of_heap (j := 3) h1q rfl; have eq0 := cell_of_heap (j := 0) h2q rfl; have eq1 := cell_of_heap (j := 1) h2q rfl; have eq2 := cell_of_heap (j := 2) h2q rfl; have eq3 := cell_of_heap (j := 3) h2q rfl; clear hbq)) | (go_at_call 26; refine (awake_walk _).mono ?_; rintro e wr ⟨rfl, hbr⟩; have hBr := below_then hBq hBq.size hbr; clear hbr))
      go_ret
      exact ⟨by simp, fin.out _ hBr⟩
  · rw [text_none hR1]
    by_cases hR2 : Right t2 wh2 o2 a2
    · obtain ⟨g1, g2, g3⟩ := text_full hR2
      go_wp2_with (first | (go_at_call 25; ((with_reducible refine (right_no hR1 _).mono ?_); rintro e wp ⟨rfl, hbp⟩; have hBp := below_then hBy hBy.size hbp; have h1p := (hBp.block b1 hb1).trans h10.out; have h2p := (hBp.block b2 hb2).trans h20.out; have dp0 := cell_of_heap (j := 0) h1p rfl; have dp1 := cell_of_heap (j := 1) h1p rfl; have dp2 := cell_of_heap (j := 2) h1p rfl; have dp3 := cell_of_heap (j := 3) h1p rfl; have ep0 := cell_of_heap (j := 0) h2p rfl; have ep1 := cell_of_heap (j := 1) h2p rfl; have ep2 := cell_of_heap (j := 2) h2p rfl; have ep3 := cell_of_heap (j := 3) h2p rfl; clear hbp)) | (go_at_call 25; ((with_reducible refine (right_yes hR2 _).mono ?_); rintro e wq ⟨rfl, hbq⟩; have hBq := below_then hBp hBp.size hbq; have h1q := (hBq.block b1 hb1).trans h10.out; have h2q := (hBq.block b2 hb2).trans h20.out; have dq0 := cell_of_heap (j := 0) h1q rfl; have dq1 := cell_of_heap (j := 1) h1q rfl; have dq2 := cell_of_heap (j := 2) h1q rfl; have dq3 := cell_of_heap (j := 3) h1q rfl; have eq0 := cell_of_heap (j := 0) h2q rfl; have eq1 := cell_of_heap (j := 1) h2q rfl; have eq2 := cell_of_heap (j := 2) h2q rfl; have eq3 := cell_of_heap (j := 3) h2q rfl; clear hbq)) | (go_at_call 26; refine (awake_walk _).mono ?_; rintro e wr ⟨rfl, hbr⟩; have hBr := below_then hBq hBq.size hbr; clear hbr))
      go_ret
      exact ⟨by simp, fin.out _ hBr⟩
    · rw [text_none hR2]
      go_wp2_with (first | (go_at_call 25; ((with_reducible refine (right_no hR1 _).mono ?_); rintro e wp ⟨rfl, hbp⟩; have hBp := below_then hBy hBy.size hbp; have h1p := (hBp.block b1 hb1).trans h10.out; have h2p := (hBp.block b2 hb2).trans h20.out; have dp0 := cell_of_heap (j := 0) h1p rfl; have dp1 := cell_of_heap (j := 1) h1p rfl; have dp2 := cell_of_heap (j := 2) h1p rfl; have dp3 := cell_of_heap (j := 3) h1p rfl; have ep0 := cell_of_heap (j := 0) h2p rfl; have ep1 := cell_of_heap (j := 1) h2p rfl; have ep2 := cell_of_heap (j := 2) h2p rfl; have ep3 := cell_of_heap (j := 3) h2p rfl; clear hbp)) | (go_at_call 25; ((with_reducible refine (right_no hR2 _).mono ?_); rintro e wq ⟨rfl, hbq⟩; have hBq := below_then hBp hBp.size hbq; have h1q := (hBq.block b1 hb1).trans h10.out; have h2q := (hBq.block b2 hb2).trans h20.out; have dq0 := cell_of_heap (j := 0) h1q rfl; have dq1 := cell_of_heap (j := 1) h1q rfl; have dq2 := cell_of_heap (j := 2) h1q rfl; have dq3 := cell_of_heap (j := 3) h1q rfl; have eq0 := cell_of_heap (j := 0) h2q rfl; have eq1 := cell_of_heap (j := 1) h2q rfl; have eq2 := cell_of_heap (j := 2) h2q rfl; have eq3 := cell_of_heap (j := 3) h2q rfl; clear hbq)) | (go_at_call 26; refine (awake_walk _).mono ?_; rintro e wr ⟨rfl, hbr⟩; have hBr := below_then hBq hBq.size hbr; clear hbr))
      go_ret
      exact ⟨by simp, fin.out _ hBr⟩

theorem agg_of {W : World} {x : Int × Int × Int × Int} {g : Array Value} (K : (Kd.pair (Kd.int .i64) (Kd.pair (Kd.int .i64) (Kd.pair (Kd.int .i64) (Kd.int .i64)))).K W x (Value.agg g).cells.toList) : g = #[.int .i64 x.1, .int .i64 x.2.1, .int .i64 x.2.2.1, .int .i64 x.2.2.2] := by
  obtain ⟨_, _, hg, rfl, ⟨_, _, rfl, rfl, ⟨_, _, rfl, rfl, rfl⟩⟩⟩ := K
  have hl : g.toList = _ := hg
  exact Array.toList_inj.1 (by simpa using hl)
theorem apart_args {W : World} {x y : Int × Int × Int × Int} {g0 g1 : Array Value} (K0 : (Kd.pair (Kd.int .i64) (Kd.pair (Kd.int .i64) (Kd.pair (Kd.int .i64) (Kd.int .i64)))).K W x (Value.agg g0).cells.toList) (K1 : (Kd.pair (Kd.int .i64) (Kd.pair (Kd.int .i64) (Kd.pair (Kd.int .i64) (Kd.int .i64)))).K W y (Value.agg g1).cells.toList) :
    Calls Tryd.prog 4 #[.agg g0, .agg g1] W fun e w' => e = .returned (.bool true) ∧ Below W.heap.size W w' := by
  rw [agg_of K0, agg_of K1]
  exact apart_walk _ _ _ _ _ _ _ _ W

end Go.Proofs.YtejmbmhehbcflaaDoor.Note
