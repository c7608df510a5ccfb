/- The reference's note.Right and note.Text answer as the program's: walks. -/
import Derived.Test.YtejmbmhehbcflaaDoorText
import Derived.Test.YtejmbmhehbcflaaDoorQ2
namespace Go.Proofs.YtejmbmhehbcflaaDoor.Note
open Go.RowKit Go.Proofs.YtejmbmhehbcflaaDoorW.PrintWords Go.Proofs.YtejmbmhehbcflaaDoorW.PrintMore Go.Proofs.YtejmbmhehbcflaaDoorW.PrintLast Go.Proofs.YtejmbmhehbcflaaDoor.Pr
set_option linter.unusedSimpArgs false
set_option linter.unusedVariables false

/-! plain -/
theorem rword_known : ∀ i : Fin 12, stilemanref05_word.f i.val = some (atv whatsL i.val) := by decide +kernel
theorem rword_f (wh : Int) : stilemanref05_word.f wh = some (atv whatsL wh) := by
  by_cases h : 0 ≤ wh ∧ wh < 12
  · have := rword_known ⟨wh.toNat, by omega⟩
    simpa [show ((wh.toNat : Nat) : Int) = wh by omega] using this
  · rw [atv_none (by exact h)]
    unfold stilemanref05_word.f
    rw [Option.bind_some]
    by_cases h0 : wh < 0
    · rw [if_pos h0]
    · rw [if_neg h0, if_pos (by omega)]
theorem rop_known : ∀ i : Fin 9, stilemanref05_Op.f i.val = some (atv opsL i.val) := by decide +kernel
theorem rop_f (o : Int) : stilemanref05_Op.f o = some (atv opsL o) := by
  by_cases h : 0 ≤ o ∧ o < 9
  · have := rop_known ⟨o.toNat, by omega⟩
    simpa [show ((o.toNat : Nat) : Int) = o by omega] using this
  · rw [atv_none (by exact h)]
    unfold stilemanref05_Op.f
    rw [Option.bind_some]
    by_cases h0 : o < 0
    · rw [if_pos h0]
    · rw [if_neg h0, if_pos (by omega)]
theorem rdec_known : ∀ i : Fin 64, stilemanref03_Text.f 3 (i.val : Int) = some ⟨(Lib.decDigits i.val).toArray⟩ := by decide +kernel
theorem nil_iff {s : ByteArray} : s.toList = [] ↔ s = ⟨#[]⟩ := by
  constructor
  · intro h
    rw [ByteArray.toList_eq] at h
    obtain ⟨⟨l⟩⟩ := s
    simpa using h
  · intro h; subst h; rw [ByteArray.toList_eq]
/-- Is what is told besides right? -/
def argOk (wh a : Int) : Bool := if wh = 2 then decide (1 ≤ a ∧ a ≤ 2) else if wh = 11 then decide (1 ≤ a ∧ a ≤ 3) else decide (a = 0)
theorem argOk_iff (wh a : Int) : argOk wh a = true ↔ (if wh = 2 then 1 ≤ a ∧ a ≤ 2 else if wh = 11 then 1 ≤ a ∧ a ≤ 3 else a = 0) := by
  unfold argOk
  split
  · simp
  · split <;> simp
theorem j2_f (b : Bool) (t wh o a : Int) (k : Nat) : stilemanref05_Right.j2 (k + 1) b t wh o a = some (!b && argOk wh a) := by
  simp only [stilemanref05_Right.j2]
  cases b with
  | true => simp
  | false =>
    rw [if_neg (by simp), Bool.not_false, Bool.true_and]
    unfold argOk
    by_cases h2 : wh = 2
    · rw [if_pos h2, if_pos h2]
      by_cases h1 : a = 1
      · rw [if_pos h1, decide_eq_true (by omega)]
      · rw [if_neg h1]
        congr 1
        rw [Bool.eq_iff_iff]
        simp
        omega
    · rw [if_neg h2, if_neg h2]
      by_cases h11 : wh = 11
      · rw [if_pos h11, if_pos h11]
        by_cases h1 : a ≥ 1
        · rw [if_pos h1]
          congr 1
          rw [Bool.eq_iff_iff]
          simp
          omega
        · rw [if_neg h1, decide_eq_false (by omega)]
      · rw [if_neg h11, if_neg h11]
        congr 1
theorem right_arg {t wh o a : Int} (h0 : ¬ t < 0) (h63 : ¬ t > 63) (hw : 1 ≤ wh ∧ wh ≤ 11) (ho : if wh = 1 ∨ wh = 11 then 1 ≤ o ∧ o ≤ 8 else o = 0) : argOk wh a = decide (Right t wh o a) := by
  rw [Bool.eq_iff_iff, argOk_iff, decide_eq_true_iff]
  unfold Right
  exact ⟨fun h => ⟨by omega, by omega, hw.1, hw.2, ho, h⟩, fun h => h.2.2.2.2.2⟩
theorem rright_f (t wh o a : Int) : stilemanref05_Right.f 5 t wh o a = some (decide (Right t wh o a)) := by
  unfold stilemanref05_Right.f
  by_cases h0 : t < 0
  · rw [if_pos h0, decide_eq_false (by unfold Right; omega)]
    simp [stilemanref05_Right.j0]
  · rw [if_neg h0]
    by_cases h63 : t > 63
    · rw [if_pos h63, decide_eq_false (by unfold Right; omega)]
      simp [stilemanref05_Right.j0]
    · rw [if_neg h63, rword_f, Option.bind_some]
      by_cases hw : 1 ≤ wh ∧ wh ≤ 11
      · have e : ((atv whatsL wh).toList == ([] : List UInt8)) = false := by
          rw [beq_eq_false_iff_ne]
          exact fun h => (whats_at wh).1 (nil_iff.1 h) hw
        rw [e]
        simp only [stilemanref05_Right.j0]
        rw [if_neg (by simp)]
        by_cases hh : wh = 1 ∨ wh = 11
        · have e2 : (if wh = 1 then stilemanref05_Right.j1 4 true t wh o a else stilemanref05_Right.j1 4 (wh == 11) t wh o a) = stilemanref05_Right.j1 4 true t wh o a := by
            rcases hh with rfl | rfl <;> rfl
          rw [e2]
          simp only [stilemanref05_Right.j1]
          rw [if_pos trivial, rop_f, Option.bind_some]
          by_cases ho : 1 ≤ o ∧ o ≤ 8
          · rw [if_neg (fun h => (ops_at o).1 (nil_iff.1 h) ho), j2_f, Bool.not_false, Bool.true_and]
            exact congrArg some (right_arg h0 h63 hw (by rw [if_pos hh]; exact ho))
          · rw [if_pos (nil_iff.2 ((ops_at o).2 ho)), j2_f]
            rw [decide_eq_false (p := Right t wh o a) (by unfold Right; rw [if_pos hh]; exact fun h => ho h.2.2.2.2.1)]
            rfl
        · have e2 : (if wh = 1 then stilemanref05_Right.j1 4 true t wh o a else stilemanref05_Right.j1 4 (wh == 11) t wh o a) = stilemanref05_Right.j1 4 false t wh o a := by
            rw [if_neg (by omega), beq_eq_false_iff_ne.2 (by omega)]
          rw [e2]
          simp only [stilemanref05_Right.j1]
          rw [if_neg (by simp), j2_f]
          congr 1
          by_cases ho : o = 0
          · rw [bne_eq_false_iff_eq.2 ho, Bool.not_false, Bool.true_and]
            exact right_arg h0 h63 hw (by rw [if_neg hh]; exact ho)
          · rw [bne_iff_ne.2 ho, Bool.not_true, Bool.false_and, decide_eq_false]
            unfold Right
            rw [if_neg hh]
            exact fun h => ho h.2.2.2.2.1
      · have e : ((atv whatsL wh).toList == ([] : List UInt8)) = true := by
          rw [beq_iff_eq]
          exact nil_iff.2 ((whats_at wh).2 hw)
        rw [e, decide_eq_false (by unfold Right; omega)]
        simp [stilemanref05_Right.j0]
theorem rright_walk (t wh o a : Int) (w : World) : Calls Tryd.prog 37 #[.agg #[.int .i64 t, .int .i64 wh, .int .i64 o, .int .i64 a]] w fun e w' => e = .returned (.bool (decide (Right t wh o a))) ∧ Below w.heap.size w w' :=
  stilemanref05_Right.calls 5 t wh o a _ w (rright_f t wh o a)
theorem rright_yes {t wh o a : Int} (h : Right t wh o a) (w : World) : Calls Tryd.prog 37 #[.agg #[.int .i64 t, .int .i64 wh, .int .i64 o, .int .i64 a]] w fun e w' => e = .returned (.bool true) ∧ Below w.heap.size w w' := by
  refine (rright_walk t wh o a w).mono fun e w' h1 => ?_
  rw [decide_eq_true h] at h1
  exact h1
theorem rright_no {t wh o a : Int} (h : ¬ Right t wh o a) (w : World) : Calls Tryd.prog 37 #[.agg #[.int .i64 t, .int .i64 wh, .int .i64 o, .int .i64 a]] w fun e w' => e = .returned (.bool false) ∧ Below w.heap.size w w' := by
  refine (rright_walk t wh o a w).mono fun e w' h1 => ?_
  rw [decide_eq_false h] at h1
  exact h1

theorem joined_cons (x y : ByteArray) (l : List ByteArray) : joined (x :: y :: l) = x ++ ⟨#[32]⟩ ++ joined (y :: l) := by
  apply ByteArray.ext
  apply Array.toList_inj.1
  have h : (joined (x :: y :: l)).data.toList = x.data.toList ++ 32 :: (joined (y :: l)).data.toList := by simp [joined, Lib.join, List.intercalate]
  rw [ByteArray.data_append, ByteArray.data_append, Array.toList_append, Array.toList_append, h, List.append_assoc]
  rfl
theorem joined_one (x : ByteArray) : joined [x] = x := by
  apply ByteArray.ext
  apply Array.toList_inj.1
  simp [joined, Lib.join, List.intercalate]
theorem sz_atv {l : List ByteArray} (h : ∀ x ∈ l, x.data.toList.length ≤ 100) (k : Int) : (atv l k).size ≤ 100 := by
  have := atv_len h k
  rw [Array.length_toList] at this
  exact this

theorem bytes_fin {a b : ByteArray} (h : a.data.toList = b.data.toList) : Ending.returned (.string a) = Ending.returned (.string b) := by
  rw [ByteArray.ext (Array.toList_inj.1 h)]

/-! the walk of Text -/
set_option maxRecDepth 100000 in
set_option maxHeartbeats 4000000 in
theorem rtext_yes (n : Nat) (wh o a : Int) (w : World) (hR : Right n wh o a) :
    Calls Tryd.prog 28 #[.agg #[.int .i64 (n : Int), .int .i64 wh, .int .i64 o, .int .i64 a]] w fun e w' => e = .returned (.string (joined (parts n wh o a))) ∧ Below w.heap.size w w' := by
  have hn64 : n < 64 := by have := hR.2.1; omega
  obtain ⟨T, hT⟩ : ∃ T : ByteArray, T = ⟨(Lib.decDigits n).toArray⟩ := ⟨_, rfl⟩
  obtain ⟨Wd, hW⟩ : ∃ T : ByteArray, T = atv whatsL wh := ⟨_, rfl⟩
  obtain ⟨Od, hO⟩ : ∃ T : ByteArray, T = atv opsL o := ⟨_, rfl⟩
  have sT : T.size ≤ 100 := by
    have h1 : (Lib.decDigits n).length ≤ 2 := dec_len ⟨n, by omega⟩
    rw [hT]
    simp [ByteArray.size]
    omega
  have sW : Wd.size ≤ 100 := by rw [hW]; exact sz_atv (by decide) wh
  have sO : Od.size ≤ 100 := by rw [hO]; exact sz_atv (by decide) o
  have hTf : stilemanref03_Text.f 3 (n : Int) = some T := by rw [hT]; exact rdec_known ⟨n, hn64⟩
  have hWf : stilemanref05_word.f wh = some Wd := by rw [hW]; exact rword_f wh
  have hOf : stilemanref05_Op.f o = some Od := by rw [hO]; exact rop_f o
  have hp : parts n wh o a = ([T, Wd] ++ (if wh = 1 ∨ wh = 11 then [Od] else [])) ++ (if a ≠ 0 then [atv (argsL wh) a] else []) := by rw [hT, hW, hO]; rfl
  have f1 : ¬ 9223372036854775807 < T.size + 1 := by omega
  have f2 : ¬ 9223372036854775807 < T.size + 1 + Wd.size := by omega
  replace hT := Lib.hid hT
  replace hW := Lib.hid hW
  replace hO := Lib.hid hO
  replace hTf := Lib.hid hTf
  replace hWf := Lib.hid hWf
  replace hOf := Lib.hid hOf
  replace hp := Lib.hid hp
  obtain ⟨w0, hw0⟩ : ∃ w0 : World, w0 = w.alloc (.cells #[.int .i64 (n : Int), .int .i64 wh, .int .i64 o, .int .i64 a] 35) := ⟨_, rfl⟩
  obtain ⟨b, hbb⟩ : ∃ b, b = w.heap.size := ⟨_, rfl⟩
  have hs0 : w0.heap.size = w.heap.size + 1 := by rw [hw0]; simp
  have hb0 : b < w0.heap.size := by omega
  have h0 : w0.heap[b]? = some (.cells #[.int .i64 (n : Int), .int .i64 wh, .int .i64 o, .int .i64 a] 35 (0, 0)) := by rw [hw0, hbb]; exact heap_alloc_new w _
  have hBw : Below w.heap.size w w0 := by rw [hw0]; exact below_alloc (Below.refl _ _) _
  have fin : ∀ W : World, Below w0.heap.size w0 W → Below w.heap.size w W := fun W hW => below_then hBw hBw.size hW
  replace h0 := Lib.hid h0
  replace fin := Lib.hid fin
  replace hs0 := Lib.hid hs0
  clear hBw
  go_enter Tryd.func28, Tryd.ntmps28
  go_upto_region 3 with (go_at_call 37; refine (rright_yes hR _).mono ?_; rintro e w1 ⟨rfl, hb1⟩; replace hb1 := Lib.hid hb1)
  have hBz : Below w0.heap.size w0 w1.drew := by rw [hw0]; exact below_drew hb1.out
  have hz := (hBz.block b hb0).trans h0.out
  rw [← hbb]
  clear hb1
  replace hw0 := Lib.hid hw0
  replace hbb := Lib.hid hbb
  refine start_ (n := 9) (S := fun w' => w'.cell? ⟨b, 0, none⟩ = some (.int .i64 (n : Int)) ∧ w'.cell? ⟨b, 1, none⟩ = some (.int .i64 wh) ∧ w'.cell? ⟨b, 2, none⟩ = some (.int .i64 o) ∧ w'.cell? ⟨b, 3, none⟩ = some (.int .i64 a)) (ds := []) #[false, false, false, false, false, false, false, false, false] (by kernel_rfl) rfl rfl ⟨(cell_of_heap hz rfl), (cell_of_heap hz rfl), (cell_of_heap hz rfl), (cell_of_heap hz rfl)⟩ (fun hHeld => ?_)
  refine pure_ (i := 0) (N := some 7) (v := ?_) (a' := ?_) #[true, false, false, false, false, false, false, false, false] rfl rfl (by kernel_rfl) (fun _ _ _ h => h) (Or.inl ⟨by rfl, ?_⟩) ?_ ?_
  rotate_left
  · intro w'
    go_simp
    with_reducible rfl
  rotate_left
  · simp only [Act.put, List.setIfInBounds_toArray, List.set_cons_zero, List.set_cons_succ, i64_w, i32_w]
    rfl
  refine pure_ (i := 4) (N := some 11) (v := ?_) (a' := ?_) #[true, false, false, false, true, false, false, false, false] rfl rfl (by kernel_rfl) (fun _ _ _ h => h) (Or.inl ⟨by rfl, ?_⟩) ?_ ?_
  rotate_left
  · intro w'
    go_simp
    with_reducible rfl
  rotate_left
  · simp only [Act.put, List.setIfInBounds_toArray, List.set_cons_zero, List.set_cons_succ, i64_w, i32_w]
    rfl
  refine take_ (i := 1) (N := some 8) (v := ?_) (a' := ?_) #[true, true, false, false, true, false, false, false, false] rfl rfl (by kernel_rfl) (fun _ _ _ h => h) (Or.inl ⟨by rfl, ?_⟩) hHeld ?_ ?_
  rotate_left
  · rintro w' ⟨s0, s1, s2, s3⟩
    go_simp
    with_reducible rfl
  rotate_left
  · simp only [Act.put, List.setIfInBounds_toArray, List.set_cons_zero, List.set_cons_succ, i64_w, i32_w]
    rfl
  refine take_ (i := 5) (N := some 12) (v := ?_) (a' := ?_) #[true, true, false, false, true, true, false, false, false] rfl rfl (by kernel_rfl) (fun _ _ _ h => h) (Or.inl ⟨by rfl, ?_⟩) hHeld ?_ ?_
  rotate_left
  · rintro w' ⟨s0, s1, s2, s3⟩
    go_simp
    with_reducible rfl
  rotate_left
  · simp only [Act.put, List.setIfInBounds_toArray, List.set_cons_zero, List.set_cons_succ, i64_w, i32_w]
    rfl
  refine one_ (i := 2) (N := some 9) #[true, true, true, false, true, true, false, false, false] rfl rfl (by kernel_rfl) (by decide) (fun K hK => ?_)
  refine goes_ Tryd.func67 (by kernel_rfl) rfl #[.int .i64 (n : Int)] (by rfl) rfl rfl (by simp only [List.map_toArray, List.map_cons, List.map_nil]; rfl) ?_
  with_reducible refine (stilemanref03_Text.calls 3 (n : Int) T _ hTf.out).mono ?_
  rintro e w3 ⟨rfl, hb3⟩
  refine ⟨_, rfl, ?_⟩
  have hB3 := below_then hBz hBz.size hb3
  have h3 := (hB3.block b hb0).trans h0.out
  refine hK.out _ _ ⟨(cell_of_heap h3 rfl), (cell_of_heap h3 rfl), (cell_of_heap h3 rfl), (cell_of_heap h3 rfl)⟩ (fun hHeld => ?_)
  clear hK K
  refine norm_ (a' := ?_) ?_ ?_
  rotate_left
  · show Act.put _ (some 9) _ = _
    simp only [Act.put, List.setIfInBounds_toArray, List.set_cons_zero, List.set_cons_succ, i64_w, i32_w]
    rfl
  refine pure_ (i := 3) (N := some 10) (v := ?_) (a' := ?_) #[true, true, true, true, true, true, false, false, false] rfl rfl (by kernel_rfl) (fun _ _ _ h => h) (Or.inl ⟨by rfl, ?_⟩) ?_ ?_
  rotate_left
  · intro w'
    go_simp
    with_reducible rfl
  rotate_left
  · simp only [Act.put, List.setIfInBounds_toArray, List.set_cons_zero, List.set_cons_succ, i64_w, i32_w]
    rfl
  refine one_ (i := 6) (N := some 13) #[true, true, true, true, true, true, true, false, false] rfl rfl (by kernel_rfl) (by decide) (fun K hK => ?_)
  refine goes_ Tryd.func68 (by kernel_rfl) rfl #[.int .i64 wh] (by rfl) rfl rfl (by simp only [List.map_toArray, List.map_cons, List.map_nil]; rfl) ?_
  with_reducible refine (stilemanref05_word.calls wh Wd _ hWf.out).mono ?_
  rintro e w4 ⟨rfl, hb4⟩
  refine ⟨_, rfl, ?_⟩
  have hB4 := below_then hB3 hB3.size hb4
  have h4 := (hB4.block b hb0).trans h0.out
  refine hK.out _ _ ⟨(cell_of_heap h4 rfl), (cell_of_heap h4 rfl), (cell_of_heap h4 rfl), (cell_of_heap h4 rfl)⟩ (fun hHeld => ?_)
  clear hK K
  refine norm_ (a' := ?_) ?_ ?_
  rotate_left
  · show Act.put _ (some 13) _ = _
    simp only [Act.put, List.setIfInBounds_toArray, List.set_cons_zero, List.set_cons_succ, i64_w, i32_w]
    rfl
  refine pure_ (i := 7) (N := some 14) (v := ?_) (a' := ?_) #[true, true, true, true, true, true, true, true, false] rfl rfl (by kernel_rfl) (fun _ _ _ h => h) (Or.inl ⟨by rfl, ?_⟩) ?_ ?_
  rotate_left
  · intro w'
    go_simp
    with_reducible rfl
  rotate_left
  · simp only [Act.put, List.setIfInBounds_toArray, List.set_cons_zero, List.set_cons_succ, i64_w, i32_w]
    rfl
  refine pure_ (i := 8) (N := some 3) (v := ?_) (a' := ?_) #[true, true, true, true, true, true, true, true, true] rfl rfl (by kernel_rfl) (fun _ _ _ h => h) (Or.inl ⟨by rfl, ?_⟩) ?_ ?_
  rotate_left
  · intro w'
    go_simp
    with_reducible rfl
  rotate_left
  · simp only [Act.put, List.setIfInBounds_toArray, List.set_cons_zero, List.set_cons_succ, i64_w, i32_w]
    rfl
  refine done_ (by kernel_rfl) ?_
  clear hb3 hb4 hB3 h3 hBz hz
  have l4 := lt_of h4
  have c41 := cell_of_heap (j := 1) h4 rfl
  have c42 := cell_of_heap (j := 2) h4 rfl
  have c43 := cell_of_heap (j := 3) h4 rfl
  have hR5 := hR.2.2.2.2
  by_cases e1 : wh = 1
  · subst e1
    rw [if_pos (.inl rfl), if_neg (by decide), if_neg (by decide)] at hR5
    have ha := hR5.2
    subst ha
    go_wp2_with (go_at_call 39; refine (stilemanref05_Op.calls o Od _ hOf.out).mono ?_; rintro e w6 ⟨rfl, hb6⟩; have hB6 := below_then hB4 hB4.size hb6; have h6 := (hB6.block b hb0).trans h0.out; have l6 := lt_of h6; have c61 := cell_of_heap (j := 1) h6 rfl; have c63 := cell_of_heap (j := 3) h6 rfl; clear hb6)
    go_ret
    refine ⟨?_, fin.out _ hB6⟩
    rw [hp.out, if_pos (by decide), if_neg (by decide)]
    simp only [List.append_nil, List.cons_append, List.nil_append, joined_cons, joined_one]
    simp [ByteArray.append_assoc]
  · by_cases e11 : wh = 11
    · subst e11
      rw [if_pos (.inr rfl), if_neg (by decide), if_pos rfl] at hR5
      have ha : a = 1 ∨ a = 2 ∨ a = 3 := by omega
      clear hR5
      rcases ha with rfl | rfl | rfl
      · go_wp2_with (go_at_call 39; refine (stilemanref05_Op.calls o Od _ hOf.out).mono ?_; rintro e w6 ⟨rfl, hb6⟩; have hB6 := below_then hB4 hB4.size hb6; have h6 := (hB6.block b hb0).trans h0.out; have l6 := lt_of h6; have c61 := cell_of_heap (j := 1) h6 rfl; have c63 := cell_of_heap (j := 3) h6 rfl; clear hb6)
        go_ret
        refine ⟨?_, fin.out _ (below_alloc hB6 _)⟩
        rw [hp.out, if_pos (by decide), if_pos (by decide)]
        simp only [List.append_nil, List.cons_append, List.nil_append, joined_cons, joined_one]
        rw [show atv (argsL 11) 1 = ⟨#[102, 97, 108, 115, 101]⟩ from by decide +kernel]
        exact bytes_fin (by simp [ByteArray.data_append])
      · go_wp2_with (go_at_call 39; refine (stilemanref05_Op.calls o Od _ hOf.out).mono ?_; rintro e w6 ⟨rfl, hb6⟩; have hB6 := below_then hB4 hB4.size hb6; have h6 := (hB6.block b hb0).trans h0.out; have l6 := lt_of h6; have c61 := cell_of_heap (j := 1) h6 rfl; have c63 := cell_of_heap (j := 3) h6 rfl; clear hb6)
        go_ret
        refine ⟨?_, fin.out _ (below_alloc hB6 _)⟩
        rw [hp.out, if_pos (by decide), if_pos (by decide)]
        simp only [List.append_nil, List.cons_append, List.nil_append, joined_cons, joined_one]
        rw [show atv (argsL 11) 2 = ⟨#[116, 114, 117, 101]⟩ from by decide +kernel]
        exact bytes_fin (by simp [ByteArray.data_append])
      · go_wp2_with (go_at_call 39; refine (stilemanref05_Op.calls o Od _ hOf.out).mono ?_; rintro e w6 ⟨rfl, hb6⟩; have hB6 := below_then hB4 hB4.size hb6; have h6 := (hB6.block b hb0).trans h0.out; have l6 := lt_of h6; have c61 := cell_of_heap (j := 1) h6 rfl; have c63 := cell_of_heap (j := 3) h6 rfl; clear hb6)
        go_ret
        refine ⟨?_, fin.out _ (below_alloc hB6 _)⟩
        rw [hp.out, if_pos (by decide), if_pos (by decide)]
        simp only [List.append_nil, List.cons_append, List.nil_append, joined_cons, joined_one]
        rw [show atv (argsL 11) 3 = ⟨#[109, 105, 115, 117, 115, 101]⟩ from by decide +kernel]
        exact bytes_fin (by simp [ByteArray.data_append])
    · by_cases e2 : wh = 2
      · subst e2
        rw [if_neg (by decide), if_pos rfl] at hR5
        have ha : a = 1 ∨ a = 2 := by omega
        clear hR5
        rcases ha with rfl | rfl
        · go_wp2
          go_ret
          refine ⟨?_, fin.out _ (below_alloc hB4 _)⟩
          rw [hp.out, if_neg (by decide), if_pos (by decide)]
          simp only [List.append_nil, List.cons_append, List.nil_append, joined_cons, joined_one]
          rw [show atv (argsL 2) 1 = ⟨#[114, 101, 97, 100]⟩ from by decide +kernel]
          exact bytes_fin (by simp [ByteArray.data_append])
        · go_wp2
          go_ret
          refine ⟨?_, fin.out _ (below_alloc hB4 _)⟩
          rw [hp.out, if_neg (by decide), if_pos (by decide)]
          simp only [List.append_nil, List.cons_append, List.nil_append, joined_cons, joined_one]
          rw [show atv (argsL 2) 2 = ⟨#[119, 114, 105, 116, 101]⟩ from by decide +kernel]
          exact bytes_fin (by simp [ByteArray.data_append])
      · rw [if_neg (by omega), if_neg e2, if_neg e11] at hR5
        have ha := hR5.2
        subst ha
        have b1 : (wh == 1) = false := by simpa using e1
        have b2 : (wh == 2) = false := by simpa using e2
        have b11 : (wh == 11) = false := by simpa using e11
        have hno : ¬ (wh = 1 ∨ wh = 11) := by omega
        clear e1 e2 e11 hR5
        go_wp2
        go_ret
        refine ⟨?_, fin.out _ hB4⟩
        rw [hp.out, if_neg hno, if_neg (by decide)]
        simp only [List.append_nil, joined_cons, joined_one]
        simp [ByteArray.append_assoc]
theorem rtext_no {t wh o a : Int} (hR : ¬ Right t wh o a) (w : World) :
    Calls Tryd.prog 28 #[.agg #[.int .i64 t, .int .i64 wh, .int .i64 o, .int .i64 a]] w fun e w' => e = .returned (.string ⟨#[]⟩) ∧ Below w.heap.size w w' := by
  go_enter Tryd.func28, Tryd.ntmps28
  go_wp2_with (go_at_call 37; refine (rright_no hR _).mono ?_; rintro e w1 ⟨rfl, hb1⟩; replace hb1 := Lib.hid hb1)
  go_ret
  exact ⟨rfl, below_then (below_alloc (Below.refl _ _) _) (by simp) hb1.out⟩
theorem rtext_walk (t wh o a : Int) (w : World) :
    Calls Tryd.prog 28 #[.agg #[.int .i64 t, .int .i64 wh, .int .i64 o, .int .i64 a]] w fun e w' => e = .returned (.string (textB t wh o a)) ∧ Below w.heap.size w w' := by
  unfold textB
  by_cases hR : Right t wh o a
  · obtain ⟨n, rfl⟩ : ∃ n : Nat, t = n := ⟨t.toNat, by have := hR.1; omega⟩
    rw [if_pos hR]
    exact rtext_yes n wh o a w hR
  · rw [if_neg hR]
    exact rtext_no hR w

end Go.Proofs.YtejmbmhehbcflaaDoor.Note
