/- note.Text's text: as one plain text of the note's four numbers. -/
import Derived.Test.YtejmbmhehbcflaaDoorNote
import Derived.Test.YtejmbmhehbcflaaDoorSh
import Derived.Lib.Join
namespace Go.Proofs.YtejmbmhehbcflaaDoor.Note
open Go.RowKit Go.Proofs.YtejmbmhehbcflaaDoorW.PrintWords Go.Proofs.YtejmbmhehbcflaaDoorW.PrintMore Go.Proofs.YtejmbmhehbcflaaDoorW.PrintLast Go.Proofs.YtejmbmhehbcflaaDoor.Pr
set_option linter.unusedSimpArgs false

def argsL (wh : Int) : List ByteArray := if wh = 2 then regL else if wh = 11 then retL else []
/-- The words of a note's text. -/
def parts (n : Nat) (wh o a : Int) : List ByteArray :=
  ([⟨(Lib.decDigits n).toArray⟩, atv whatsL wh] ++ (if wh = 1 ∨ wh = 11 then [atv opsL o] else [])) ++ (if a ≠ 0 then [atv (argsL wh) a] else [])
def joined (l : List ByteArray) : ByteArray := ⟨(Lib.join (l.map (·.data.toList)) [32]).toArray⟩
/-- A note's text. -/
def textB (t wh o a : Int) : ByteArray := if Right t wh o a then joined (parts t.toNat wh o a) else ⟨#[]⟩

theorem right_yes {t wh o a : Int} (h : Right t wh o a) (w : World) : Calls Tryd.prog 25 #[.agg #[.int .i64 t, .int .i64 wh, .int .i64 o, .int .i64 a]] w fun e w' => e = .returned (.bool true) ∧ Below w.heap.size w w' := by
  refine (right_walk t wh o a w).mono fun e w' h1 => ?_
  rw [decide_eq_true h] at h1
  exact h1
theorem right_no {t wh o a : Int} (h : ¬ Right t wh o a) (w : World) : Calls Tryd.prog 25 #[.agg #[.int .i64 t, .int .i64 wh, .int .i64 o, .int .i64 a]] w fun e w' => e = .returned (.bool false) ∧ Below w.heap.size w w' := by
  refine (right_walk t wh o a w).mono fun e w' h1 => ?_
  rw [decide_eq_false h] at h1
  exact h1
theorem args_known (wh : Int) (w : World) (h : wh = 2 ∨ wh = 11) : Calls Tryd.prog 64 #[.int .i64 wh] w fun e w' => ∃ g c, e = .returned (.slice (some ⟨g, 0, none⟩) (argsL wh).length c) ∧ (argsL wh).length ≤ c ∧ Kd.C Kd.string w' (some ⟨g, 0, none⟩) (argsL wh).length (argsL wh) ∧ Below w.heap.size w w' := by
  refine (args_walk wh w).mono ?_
  rintro e w' ⟨v, rfl, h1, hb⟩
  rcases h1 with ⟨rfl, g, c, rfl, hm, hC⟩ | ⟨rfl, g, c, rfl, hm, hC⟩ | ⟨n2, n11, _⟩
  · exact ⟨g, c, rfl, hm, hC, hb⟩
  · exact ⟨g, c, rfl, hm, hC, hb⟩
  · rcases h with h | h
    · exact absurd h n2
    · exact absurd h n11
theorem reps2 (w : World) (base : Nat) (ok : Nat → Prop) (x y : ByteArray) : Reps (Kd.M Kd.string w base ok) (Kd.sz Kd.string) [x, y] [.string x, .string y] := by
  refine ⟨rfl, fun j p h => ?_⟩
  match j, h with
  | 0, h => obtain rfl := Option.some.inj h; exact rfl
  | 1, h => obtain rfl := Option.some.inj h; exact rfl
theorem joinTail_len (l : List (List UInt8)) (h : ∀ x ∈ l, x.length ≤ 100) : ∀ b : List UInt8, ([32].intercalate (b :: l) : List UInt8).length ≤ b.length + 101 * l.length := by
  induction l with
  | nil => intro b; simp [List.intercalate]
  | cons c l ih =>
    intro b
    have h1 := ih (fun x hx => h x (by simp [hx])) c
    have h2 := h c (by simp)
    simp only [List.intercalate, List.intersperse, List.flatten_cons, List.length_append, List.length_cons, List.length_nil] at h1 ⊢
    omega
theorem join_len {l : List ByteArray} (h : ∀ x ∈ l, x.data.toList.length ≤ 100) : (Lib.join (l.map (·.data.toList)) [32]).length ≤ 101 * l.length := by
  unfold Lib.join
  cases l with
  | nil => simp [List.intercalate]
  | cons b l =>
    have h1 := joinTail_len (l.map (·.data.toList)) (by intro x hx; obtain ⟨y, hy, rfl⟩ := List.mem_map.1 hx; exact h y (by simp [hy])) b.data.toList
    have h2 := h b (by simp)
    simp only [List.map_cons, List.length_map, List.length_cons] at h1 ⊢
    omega
theorem atv_len {l : List ByteArray} (h : ∀ x ∈ l, x.data.toList.length ≤ 100) (k : Int) : (atv l k).data.toList.length ≤ 100 := by
  unfold atv
  split
  · rename_i hk
    unfold rdOf
    rw [List.getD_eq_getElem?_getD, List.getElem?_eq_getElem (by omega)]
    exact h _ (List.getElem_mem _)
  · simp
theorem dec_len : ∀ i : Fin 100, (Lib.decDigits i.val).length ≤ 2 := by decide +kernel
theorem argsL_len (wh : Int) : ∀ x ∈ argsL wh, x.data.toList.length ≤ 100 := by
  unfold argsL
  split
  · decide
  · split
    · decide
    · simp
theorem parts_len {n : Nat} (hn : n < 100) (wh o a : Int) : ∀ x ∈ parts n wh o a, x.data.toList.length ≤ 100 := by
  have h1 : (Lib.decDigits n).length ≤ 2 := dec_len ⟨n, hn⟩
  have h2 := atv_len (l := whatsL) (by decide) wh
  have h3 := atv_len (l := opsL) (by decide) o
  have h4 := atv_len (argsL_len wh) a
  intro x hx
  unfold parts at hx
  split at hx <;> split at hx <;> simp at hx
  · rcases hx with rfl | rfl | rfl | rfl
    · simpa using (by omega : (Lib.decDigits n).length ≤ 100)
    all_goals assumption
  · rcases hx with rfl | rfl | rfl
    · simpa using (by omega : (Lib.decDigits n).length ≤ 100)
    all_goals assumption
  · rcases hx with rfl | rfl | rfl
    · simpa using (by omega : (Lib.decDigits n).length ≤ 100)
    all_goals assumption
  · rcases hx with rfl | rfl
    · simpa using (by omega : (Lib.decDigits n).length ≤ 100)
    all_goals assumption
theorem parts_count (n : Nat) (wh o a : Int) : 1 ≤ (parts n wh o a).length ∧ (parts n wh o a).length ≤ 4 := by
  unfold parts
  split <;> split <;> simp
theorem lt_of_cell {w : World} {a : Addr} {v : Value} (h : w.cell? a = some v) : a.block < w.heap.size := by
  cases hx : w.heap[a.block]? with
  | none => simp [World.cell?, hx] at h
  | some o => exact (Array.getElem?_eq_some_iff.1 hx).1
theorem join_walk {w : World} {base : Nat} {v : Value} {l : List ByteArray} (hR : Kd.R Kd.string 9 w base (fun _ => True) v l) (h1 : 1 ≤ l.length) (h4 : l.length ≤ 4) (hl : ∀ x ∈ l, x.data.toList.length ≤ 100) :
    Calls Tryd.prog 65 #[v, .string ⟨#[32]⟩] w fun e w' => e = .returned (.string (joined l)) ∧ Below w.heap.size w w' := by
  obtain ⟨g, c, rfl, hm, hC⟩ := some_row (by omega) hR
  have hlen := join_len hl
  have hg : g < w.heap.size := by
    have h2 := Kd.R_cell (α := ByteArray) ByteArray.empty hR 0 (by omega) (by omega)
    exact lt_of_cell h2.1
  refine (Tryd.strings_Join g 0 c l ⟨#[32]⟩ w ?_ hg (by omega) hm (by show (Lib.join (l.map (·.data.toList)) [32]).length ≤ _; omega)).mono fun e w' h => h
  intro j x hx
  obtain ⟨hj, rfl⟩ := List.getElem?_eq_some_iff.1 hx
  have h2 := (Kd.R_cell (α := ByteArray) ByteArray.empty hR (j : Int) (by omega) (by omega)).1
  simp only [Int.toNat_natCast, rdOf, List.getD_eq_getElem?_getD, List.getElem?_eq_getElem hj, Option.getD_some] at h2
  simpa using h2

set_option maxRecDepth 100000 in
set_option maxHeartbeats 4000000 in
theorem text_yes (n : Nat) (wh o a : Int) (w : World) (hR : Right n wh o a) :
    Calls Tryd.prog 24 #[.agg #[.int .i64 (n : Int), .int .i64 wh, .int .i64 o, .int .i64 a]] w fun e w' => e = .returned (.string (joined (parts n wh o a))) ∧ Below w.heap.size w w' := by
  have hn64 : n ≤ 63 := by have := hR.2.1; omega
  have hn100 : n < 100 := by omega
  obtain ⟨w0, hw0⟩ : ∃ w0 : World, w0 = w.alloc (.cells #[.int .i64 (n : Int), .int .i64 wh, .int .i64 o, .int .i64 a] 35) := ⟨_, rfl⟩
  obtain ⟨b, hbb⟩ : ∃ b, b = w.heap.size := ⟨_, rfl⟩
  have hs0 : w0.heap.size = w.heap.size + 1 := by rw [hw0]; simp
  have hb0 : b < w0.heap.size := by omega
  have h0 : w0.heap[b]? = some (.cells #[.int .i64 (n : Int), .int .i64 wh, .int .i64 o, .int .i64 a] 35 (0, 0)) := by rw [hw0, hbb]; exact heap_alloc_new w _
  have hBw : Below w.heap.size w w0 := by rw [hw0]; exact below_alloc (Below.refl _ _) _
  replace h0 := Lib.hid h0
  replace hBw := Lib.hid hBw
  replace hs0 := Lib.hid hs0
  have hpl := Lib.hid (parts_len hn100 wh o a)
  have hpc := Lib.hid (parts_count n wh o a)
  go_enter Tryd.func24, Tryd.ntmps24
  go_upto_region 3 with (go_at_call 25; refine (right_yes hR _).mono ?_; rintro e w1 ⟨rfl, hb1⟩; replace hb1 := Lib.hid hb1)
  have hBz : Below w0.heap.size w0 w1.drew := by rw [hw0]; exact below_drew hb1.out
  have hz := (hBz.block b hb0).trans h0.out
  rw [← hbb]
  clear hb1
  replace hw0 := Lib.hid hw0
  replace hbb := Lib.hid hbb
  refine start_ (n := 9) (S := fun w' => w'.cell? ⟨b, 0, none⟩ = some (.int .i64 (n : Int)) ∧ w'.cell? ⟨b, 1, none⟩ = some (.int .i64 wh) ∧ w'.cell? ⟨b, 2, none⟩ = some (.int .i64 o) ∧ w'.cell? ⟨b, 3, none⟩ = some (.int .i64 a)) (ds := []) #[false, false, false, false, false, false, false, false, false] (by kernel_rfl) rfl rfl ⟨(cell_of_heap hz rfl), (cell_of_heap hz rfl), (cell_of_heap hz rfl), (cell_of_heap hz rfl)⟩ (fun hHeld => ?_)
  refine pure_ (i := 0) (N := some 7) (v := ?_) (a' := ?_) #[true, false, false, false, false, false, false, false, false] rfl rfl (by kernel_rfl) (fun _ _ _ h => h) (Or.inl ⟨by rfl, ?_⟩) ?_ ?_
  rotate_left
  · intro w'
    go_simp
    with_reducible rfl
  rotate_left
  · simp only [Act.put, List.setIfInBounds_toArray, List.set_cons_zero, List.set_cons_succ, i64_w, i32_w]
    rfl
  refine pure_ (i := 4) (N := some 11) (v := ?_) (a' := ?_) #[true, false, false, false, true, false, false, false, false] rfl rfl (by kernel_rfl) (fun _ _ _ h => h) (Or.inl ⟨by rfl, ?_⟩) ?_ ?_
  rotate_left
  · intro w'
    go_simp
    with_reducible rfl
  rotate_left
  · simp only [Act.put, List.setIfInBounds_toArray, List.set_cons_zero, List.set_cons_succ, i64_w, i32_w]
    rfl
  refine take_ (i := 1) (N := some 8) (v := ?_) (a' := ?_) #[true, true, false, false, true, false, false, false, false] rfl rfl (by kernel_rfl) (fun _ _ _ h => h) (Or.inl ⟨by rfl, ?_⟩) hHeld ?_ ?_
  rotate_left
  · rintro w' ⟨s0, s1, s2, s3⟩
    go_simp
    with_reducible rfl
  rotate_left
  · simp only [Act.put, List.setIfInBounds_toArray, List.set_cons_zero, List.set_cons_succ, i64_w, i32_w]
    rfl
  refine take_ (i := 5) (N := some 12) (v := ?_) (a' := ?_) #[true, true, false, false, true, true, false, false, false] rfl rfl (by kernel_rfl) (fun _ _ _ h => h) (Or.inl ⟨by rfl, ?_⟩) hHeld ?_ ?_
  rotate_left
  · rintro w' ⟨s0, s1, s2, s3⟩
    go_simp
    with_reducible rfl
  rotate_left
  · simp only [Act.put, List.setIfInBounds_toArray, List.set_cons_zero, List.set_cons_succ, i64_w, i32_w]
    rfl
  refine one_ (i := 2) (N := some 9) #[true, true, true, false, true, true, false, false, false] rfl rfl (by kernel_rfl) (by decide) (fun K hK => ?_)
  refine goes_ Tryd.func60 (by kernel_rfl) rfl #[.int .i64 (n : Int)] (by rfl) rfl rfl (by simp only [List.map_toArray, List.map_cons, List.map_nil]; rfl) ?_
  with_reducible refine (Tryd.strconv_Itoa_small n hn100 _).mono ?_
  rintro e wi ⟨rfl, rfl⟩
  refine ⟨_, rfl, ?_⟩
  refine hK.out _ _ ⟨(cell_of_heap hz rfl), (cell_of_heap hz rfl), (cell_of_heap hz rfl), (cell_of_heap hz rfl)⟩ (fun hHeld => ?_)
  clear hK K
  refine norm_ (a' := ?_) ?_ ?_
  rotate_left
  · show Act.put _ (some 9) _ = _
    simp only [Act.put, List.setIfInBounds_toArray, List.set_cons_zero, List.set_cons_succ, i64_w, i32_w]
    rfl
  refine one_ (i := 3) (N := some 10) #[true, true, true, true, true, true, false, false, false] rfl rfl (by kernel_rfl) (by decide) (fun K hK => ?_)
  refine goes_ Tryd.func62 (by kernel_rfl) rfl #[] (by rfl) rfl rfl (by simp only [List.map_toArray, List.map_nil]) ?_
  with_reducible refine (whats_walk _).mono ?_
  rintro e w3 ⟨A1, c1, rfl, hm3, hC3, hb3⟩
  refine ⟨_, rfl, ?_⟩
  have hB3 := below_then hBz hBz.size hb3
  have h3 := (hB3.block b hb0).trans h0.out
  refine hK.out _ _ ⟨(cell_of_heap h3 rfl), (cell_of_heap h3 rfl), (cell_of_heap h3 rfl), (cell_of_heap h3 rfl)⟩ (fun hHeld => ?_)
  clear hK K
  refine norm_ (a' := ?_) ?_ ?_
  rotate_left
  · show Act.put _ (some 10) _ = _
    simp only [Act.put, List.setIfInBounds_toArray, List.set_cons_zero, List.set_cons_succ, i64_w, i32_w]
    rfl
  refine one_ (i := 6) (N := some 13) #[true, true, true, true, true, true, true, false, false] rfl rfl (by kernel_rfl) (by decide) (fun K hK => ?_)
  refine goes_ Tryd.func61 (by kernel_rfl) rfl #[.slice A1 whatsL.length c1, .int .i64 wh] (by rfl) rfl rfl (by simp only [List.map_toArray, List.map_cons, List.map_nil]; rfl) ?_
  with_reducible refine (note_at.calls A1 c1 whatsL wh _ _ hC3 hm3 (at_f whatsL wh)).mono ?_
  rintro e w4 ⟨rfl, hb4⟩
  refine ⟨_, rfl, ?_⟩
  replace hb4 := hb4.below
  have hB4 := below_then hB3 hB3.size hb4
  have h4 := (hB4.block b hb0).trans h0.out
  refine hK.out _ _ ⟨(cell_of_heap h4 rfl), (cell_of_heap h4 rfl), (cell_of_heap h4 rfl), (cell_of_heap h4 rfl)⟩ (fun hHeld => ?_)
  clear hK K
  refine norm_ (a' := ?_) ?_ ?_
  rotate_left
  · show Act.put _ (some 13) _ = _
    simp only [Act.put, List.setIfInBounds_toArray, List.set_cons_zero, List.set_cons_succ, i64_w, i32_w]
    rfl
  refine one_ (i := 7) (N := some 14) #[true, true, true, true, true, true, true, true, false] rfl rfl (by kernel_rfl) (by decide) (fun K hK => ?_)
  refine Kd.R_lit_step Kd.string (w0 := w0) w0.heap.size 9 (by rfl) (N := 14) rfl (xs := [⟨(Lib.decDigits n).toArray⟩, atv whatsL wh]) (inner := [.string ⟨(Lib.decDigits n).toArray⟩, .string (atv whatsL wh)]) (ok := fun _ => True) (okp := fun _ => False) ?_ (reps2 _ _ _ _ _) (fun _ hk => hk.elim) trivial hB4 hB4.size (by simp) ?_
  · first | (go_simp; done) | (go_simp; rfl)
  intro v5 w5 hR5 hB5 _ _
  have h5 := (hB5.block b hb0).trans h0.out
  refine hK.out _ _ ⟨(cell_of_heap h5 rfl), (cell_of_heap h5 rfl), (cell_of_heap h5 rfl), (cell_of_heap h5 rfl)⟩ (fun hHeld => ?_)
  clear hK K
  refine norm_ (a' := ?_) ?_ ?_
  rotate_left
  · show Act.put _ (some 14) _ = _
    simp only [Act.put, List.setIfInBounds_toArray, List.set_cons_zero, List.set_cons_succ, i64_w, i32_w]
    rfl
  refine pure_ (i := 8) (N := some 3) (v := ?_) (a' := ?_) #[true, true, true, true, true, true, true, true, true] rfl rfl (by kernel_rfl) (fun _ _ _ h => h) (Or.inl ⟨by rfl, ?_⟩) ?_ ?_
  rotate_left
  · intro w'
    go_simp
    with_reducible rfl
  rotate_left
  · simp only [Act.put, List.setIfInBounds_toArray, List.set_cons_zero, List.set_cons_succ, i64_w, i32_w]
    rfl
  refine done_ (by kernel_rfl) ?_
  obtain ⟨l, hl⟩ : ∃ l, l = [(⟨(Lib.decDigits n).toArray⟩ : ByteArray), atv whatsL wh] := ⟨_, rfl⟩
  have hll : l.length ≤ 3 := by rw [hl]; simp
  rw [← hl] at hR5
  replace hl := Lib.hid hl
  clear hb3 hb4 hB3 hB4 hC3 hm3 h3 h4 hBz hz
  have c51 := cell_of_heap (j := 1) h5 rfl
  have fin : ∀ (v : Value) (lf : List ByteArray) (W : World), lf = parts n wh o a → Kd.R Kd.string 9 W w0.heap.size (fun _ => True) v lf → Below w0.heap.size w0 W → Calls Tryd.prog 65 #[v, .string ⟨#[32]⟩] W fun e w' => e = .returned (.string (joined (parts n wh o a))) ∧ Below w.heap.size w w' := by
    intro v lf W hp hR hB
    subst hp
    refine (join_walk hR hpc.out.1 hpc.out.2 hpl.out).mono ?_
    rintro e w' ⟨rfl, hb⟩
    have h2 := hBw.out
    exact ⟨rfl, below_then (below_then h2 h2.size (hB.mono (by have := h2.size; omega))) (by have := h2.size; have := hB.size; omega) hb⟩
  replace fin := Lib.hid fin
  by_cases hh : wh = 1 ∨ wh = 11
  · have hhv : hasv wh = true := by unfold hasv; rcases hh with rfl | rfl <;> rfl
    replace hh := Lib.hid hh
    by_cases ha : a = 0
    · have ha2 : (a != 0) = false := by simpa using ha
      have hane := Lib.hid ha; clear ha
      go_wp2_with (first
        | (go_at_call 63; refine (note_hasOp.calls wh _ _ (has_f wh)).mono ?_; rintro e w6 ⟨rfl, hb6⟩; replace hb6 := hb6.below; have hB6 := below_then hB5 hB5.size hb6; have hR6 := Kd.R_below hR5 hb6; have h6 := (hB6.block b hb0).trans h0.out; have c62 := cell_of_heap (j := 2) h6 rfl; have c63 := cell_of_heap (j := 3) h6 rfl; clear hb6)
        | (go_at_call 38; refine (note_Op.calls o _ _ (op_f o)).mono ?_; rintro e w7 ⟨rfl, hb7⟩; have hB7 := below_then hB6 hB6.size hb7; have hR7 := Kd.R_below hR6 hb7; clear hb7)
        | ((with_reducible refine gate_builtin (b := .append) (xs := #[.tmp 18, .tmp 22]) rfl ?_); at_builtin; refine Kd.R_append Kd.string (w0 := w0) w0.heap.size rfl (.tmp 18) (.tmp 22) 40 9 (.string ⟨#[]⟩) 16 rfl Tryd.underlying40 info9 rfl (by decide) (by omega) v5 l (atv opsL o) [.string (atv opsL o)] (fun _ => True) (fun _ => False) rfl rfl rfl (fun _ hk => hk.elim) (fun _ _ => trivial) hR7 hB7 hB7.size (by omega) ?_; intro v8 w8 hR8 hB8 _ _; have h8 := (hB8.block b hb0).trans h0.out; have c81 := cell_of_heap (j := 1) h8 rfl; have c83 := cell_of_heap (j := 3) h8 rfl)
        | (go_at_call 65; refine (fin.out _ _ _ (by rw [hl.out]; unfold parts; rw [if_pos hh.out, if_neg (show ¬ a ≠ 0 from fun h => h hane.out), List.append_nil]) hR8 hB8).mono ?_; rintro e w9 ⟨rfl, hb9⟩; replace hb9 := Lib.hid hb9))
      go_ret
      exact ⟨rfl, hb9.out⟩
    · have ha2 : (a != 0) = true := by simpa using ha
      have hane := Lib.hid ha; clear ha
      have ha11 : wh = 11 := by have := hR.2.2.2.2; have h1 := hh.out; have h2 := hane.out; by_cases e : wh = 11 <;> simp_all
      replace ha11 := Lib.hid ha11
      go_upto_region 7 with (first
        | (go_at_call 63; refine (note_hasOp.calls wh _ _ (has_f wh)).mono ?_; rintro e w6 ⟨rfl, hb6⟩; replace hb6 := hb6.below; have hB6 := below_then hB5 hB5.size hb6; have hR6 := Kd.R_below hR5 hb6; have h6 := (hB6.block b hb0).trans h0.out; have c62 := cell_of_heap (j := 2) h6 rfl; have c63 := cell_of_heap (j := 3) h6 rfl; clear hb6)
        | (go_at_call 38; refine (note_Op.calls o _ _ (op_f o)).mono ?_; rintro e w7 ⟨rfl, hb7⟩; have hB7 := below_then hB6 hB6.size hb7; have hR7 := Kd.R_below hR6 hb7; clear hb7)
        | ((with_reducible refine gate_builtin (b := .append) (xs := #[.tmp 18, .tmp 22]) rfl ?_); at_builtin; refine Kd.R_append Kd.string (w0 := w0) w0.heap.size rfl (.tmp 18) (.tmp 22) 40 9 (.string ⟨#[]⟩) 16 rfl Tryd.underlying40 info9 rfl (by decide) (by omega) v5 l (atv opsL o) [.string (atv opsL o)] (fun _ => True) (fun _ => False) rfl rfl rfl (fun _ hk => hk.elim) (fun _ _ => trivial) hR7 hB7 hB7.size (by omega) ?_; intro v8 w8 hR8 hB8 _ _; have h8 := (hB8.block b hb0).trans h0.out; have c81 := cell_of_heap (j := 1) h8 rfl; have c83 := cell_of_heap (j := 3) h8 rfl))
      have hBy := below_drew hB8
      have hRy := Lib.hid (Kd.R_drew hR8)
      have hy := (hBy.block b hb0).trans h0.out
      have hll2 : (l ++ [atv opsL o]).length ≤ 4 := by simp; omega
      refine start_ (n := 10) (S := fun w' => w'.cell? ⟨b, 1, none⟩ = some (.int .i64 wh) ∧ w'.cell? ⟨b, 3, none⟩ = some (.int .i64 a)) (ds := []) #[false, false, false, false, false, false, false, false, false, false] (by kernel_rfl) rfl rfl ⟨(cell_of_heap hy rfl), (cell_of_heap hy rfl)⟩ (fun hHeld => ?_)
      refine pure_ (i := 0) (N := some 27) (v := ?_) (a' := ?_) #[true, false, false, false, false, false, false, false, false, false] rfl rfl (by kernel_rfl) (fun _ _ _ h => h) (Or.inl ⟨by rfl, ?_⟩) ?_ ?_
      rotate_left
      · intro w'
        go_simp
        with_reducible rfl
      rotate_left
      · simp only [Act.put, List.setIfInBounds_toArray, List.set_cons_zero, List.set_cons_succ, i64_w, i32_w]
        rfl
      refine pure_ (i := 1) (N := some 28) (v := ?_) (a' := ?_) #[true, true, false, false, false, false, false, false, false, false] rfl rfl (by kernel_rfl) (fun _ _ _ h => h) (Or.inl ⟨by rfl, ?_⟩) ?_ ?_
      rotate_left
      · intro w'
        go_simp
        with_reducible rfl
      rotate_left
      · simp only [Act.put, List.setIfInBounds_toArray, List.set_cons_zero, List.set_cons_succ, i64_w, i32_w]
        rfl
      refine pure_ (i := 4) (N := some 31) (v := ?_) (a' := ?_) #[true, true, false, false, true, false, false, false, false, false] rfl rfl (by kernel_rfl) (fun _ _ _ h => h) (Or.inl ⟨by rfl, ?_⟩) ?_ ?_
      rotate_left
      · intro w'
        go_simp
        with_reducible rfl
      rotate_left
      · simp only [Act.put, List.setIfInBounds_toArray, List.set_cons_zero, List.set_cons_succ, i64_w, i32_w]
        rfl
      refine take_ (i := 2) (N := some 29) (v := ?_) (a' := ?_) #[true, true, true, false, true, false, false, false, false, false] rfl rfl (by kernel_rfl) (fun _ _ _ h => h) (Or.inl ⟨by rfl, ?_⟩) hHeld ?_ ?_
      rotate_left
      · rintro w' ⟨s0, s1⟩
        go_simp
        with_reducible rfl
      rotate_left
      · simp only [Act.put, List.setIfInBounds_toArray, List.set_cons_zero, List.set_cons_succ, i64_w, i32_w]
        rfl
      refine take_ (i := 5) (N := some 32) (v := ?_) (a' := ?_) #[true, true, true, false, true, true, false, false, false, false] rfl rfl (by kernel_rfl) (fun _ _ _ h => h) (Or.inl ⟨by rfl, ?_⟩) hHeld ?_ ?_
      rotate_left
      · rintro w' ⟨s0, s1⟩
        go_simp
        with_reducible rfl
      rotate_left
      · simp only [Act.put, List.setIfInBounds_toArray, List.set_cons_zero, List.set_cons_succ, i64_w, i32_w]
        rfl
      refine one_ (i := 3) (N := some 30) #[true, true, true, true, true, true, false, false, false, false] rfl rfl (by kernel_rfl) (by decide) (fun K hK => ?_)
      refine goes_ Tryd.func64 (by kernel_rfl) rfl #[.int .i64 wh] (by rfl) rfl rfl (by simp only [List.map_toArray, List.map_cons, List.map_nil]; rfl) ?_
      with_reducible refine (args_known wh _ (.inr ha11.out)).mono ?_
      rintro e wa ⟨ga, ca, rfl, hma, hCa, hba⟩
      refine ⟨_, rfl, ?_⟩
      have hBa := below_then hBy hBy.size hba
      have ha := (hBa.block b hb0).trans h0.out
      have hRa := Kd.R_below hRy.out hba
      refine hK.out _ _ ⟨(cell_of_heap ha rfl), (cell_of_heap ha rfl)⟩ (fun hHeld => ?_)
      clear hK K
      refine norm_ (a' := ?_) ?_ ?_
      rotate_left
      · show Act.put _ (some 30) _ = _
        simp only [Act.put, List.setIfInBounds_toArray, List.set_cons_zero, List.set_cons_succ, i64_w, i32_w]
        rfl
      refine one_ (i := 6) (N := some 33) #[true, true, true, true, true, true, true, false, false, false] rfl rfl (by kernel_rfl) (by decide) (fun K hK => ?_)
      refine goes_ Tryd.func61 (by kernel_rfl) rfl #[.slice (some ⟨ga, 0, none⟩) (argsL wh).length ca, .int .i64 a] (by rfl) rfl rfl (by simp only [List.map_toArray, List.map_cons, List.map_nil]; rfl) ?_
      with_reducible refine (note_at.calls (some ⟨ga, 0, none⟩) ca (argsL wh) a _ _ hCa hma (at_f (argsL wh) a)).mono ?_
      rintro e wc ⟨rfl, hbc⟩
      refine ⟨_, rfl, ?_⟩
      replace hbc := hbc.below
      have hBc := below_then hBa hBa.size hbc
      have hc := (hBc.block b hb0).trans h0.out
      have hRc := Kd.R_below hRa hbc
      refine hK.out _ _ ⟨(cell_of_heap hc rfl), (cell_of_heap hc rfl)⟩ (fun hHeld => ?_)
      clear hK K
      refine norm_ (a' := ?_) ?_ ?_
      rotate_left
      · show Act.put _ (some 33) _ = _
        simp only [Act.put, List.setIfInBounds_toArray, List.set_cons_zero, List.set_cons_succ, i64_w, i32_w]
        rfl
      refine one_ (i := 7) (N := some 34) #[true, true, true, true, true, true, true, true, false, false] rfl rfl (by kernel_rfl) (by decide) (fun K hK => ?_)
      refine value_ (w1 := ?_) (v := ?_) (by rfl) rfl ?_ ?_
      rotate_left 2
      · go_simp
        constructor
        · rfl
        · rfl
      have hBd := below_alloc hBc (.cells #[.string (atv (argsL wh) a)] 9)
      have hd := (hBd.block b hb0).trans h0.out
      refine hK.out _ _ ⟨(cell_of_heap hd rfl), (cell_of_heap hd rfl)⟩ (fun hHeld => ?_)
      clear hK K
      refine norm_ (a' := ?_) ?_ ?_
      rotate_left
      · show Act.put _ (some 34) _ = _
        simp only [Act.put, List.setIfInBounds_toArray, List.set_cons_zero, List.set_cons_succ, i64_w, i32_w]
        rfl
      refine one_ (i := 8) (N := some 35) #[true, true, true, true, true, true, true, true, true, false] rfl rfl (by kernel_rfl) (by decide) (fun K hK => ?_)
      refine Kd.R_append_step Kd.string (w0 := w0) w0.heap.size (by rfl) (.tmp 27) (.tmp 34) 40 9 (.string ⟨#[]⟩) 16 rfl Tryd.underlying40 info9 rfl (by decide) (by omega) v8 (l ++ [atv opsL o]) (atv (argsL wh) a) [.string (atv (argsL wh) a)] (fun _ => True) (fun _ => False) rfl rfl rfl (fun _ hk => hk.elim) (fun _ _ => trivial) hRc hBc hBc.size (by omega) ?_
      intro ve we hRe hBe _ _
      have he := (hBe.block b hb0).trans h0.out
      refine hK.out _ _ ⟨(cell_of_heap he rfl), (cell_of_heap he rfl)⟩ (fun hHeld => ?_)
      clear hK K
      refine norm_ (a' := ?_) ?_ ?_
      rotate_left
      · show Act.put _ (some 35) _ = _
        simp only [Act.put, List.setIfInBounds_toArray, List.set_cons_zero, List.set_cons_succ, i64_w, i32_w]
        rfl
      refine pure_ (i := 9) (N := some 3) (v := ?_) (a' := ?_) #[true, true, true, true, true, true, true, true, true, true] rfl rfl (by kernel_rfl) (fun _ _ _ h => h) (Or.inl ⟨by rfl, ?_⟩) ?_ ?_
      rotate_left
      · intro w'
        go_simp
        with_reducible rfl
      rotate_left
      · simp only [Act.put, List.setIfInBounds_toArray, List.set_cons_zero, List.set_cons_succ, i64_w, i32_w]
        rfl
      refine done_ (by kernel_rfl) ?_
      go_wp2_with (go_at_call 65; refine (fin.out _ _ _ (by rw [hl.out]; unfold parts; rw [if_pos hh.out, if_pos (show a ≠ 0 from hane.out)]) hRe hBe).mono ?_; rintro e w9 ⟨rfl, hb9⟩; replace hb9 := Lib.hid hb9)
      go_ret
      exact ⟨rfl, hb9.out⟩
  · have hhv : hasv wh = false := by unfold hasv; simp only [Bool.or_eq_false_iff, beq_eq_false_iff_ne]; exact ⟨fun h => hh (.inl h), fun h => hh (.inr h)⟩
    replace hh := Lib.hid hh
    by_cases ha : a = 0
    · have ha2 : (a != 0) = false := by simpa using ha
      have hane := Lib.hid ha; clear ha
      go_wp2_with (first
        | (go_at_call 63; refine (note_hasOp.calls wh _ _ (has_f wh)).mono ?_; rintro e w6 ⟨rfl, hb6⟩; replace hb6 := hb6.below; have hB6 := below_then hB5 hB5.size hb6; have hR6 := Kd.R_below hR5 hb6; have h6 := (hB6.block b hb0).trans h0.out; have c62 := cell_of_heap (j := 2) h6 rfl; have c63 := cell_of_heap (j := 3) h6 rfl; clear hb6)
        | (go_at_call 65; refine (fin.out _ _ _ (by rw [hl.out]; unfold parts; rw [if_neg hh.out, if_neg (show ¬ a ≠ 0 from fun h => h hane.out), List.append_nil, List.append_nil]) hR6 hB6).mono ?_; rintro e w9 ⟨rfl, hb9⟩; replace hb9 := Lib.hid hb9))
      go_ret
      exact ⟨rfl, hb9.out⟩
    · have ha2 : (a != 0) = true := by simpa using ha
      have hane := Lib.hid ha; clear ha
      have ha2' : wh = 2 := by have := hR.2.2.2.2; have h1 := hh.out; have h2 := hane.out; by_cases e : wh = 2 <;> simp_all
      replace ha2' := Lib.hid ha2'
      go_upto_region 7 with (go_at_call 63; refine (note_hasOp.calls wh _ _ (has_f wh)).mono ?_; rintro e w6 ⟨rfl, hb6⟩; replace hb6 := hb6.below; have hB6 := below_then hB5 hB5.size hb6; have hR6 := Kd.R_below hR5 hb6; have h6 := (hB6.block b hb0).trans h0.out; have c62 := cell_of_heap (j := 2) h6 rfl; have c63 := cell_of_heap (j := 3) h6 rfl; clear hb6)
      have hBy := below_drew hB6
      have hRy := Lib.hid (Kd.R_drew hR6)
      have hy := (hBy.block b hb0).trans h0.out
      refine start_ (n := 10) (S := fun w' => w'.cell? ⟨b, 1, none⟩ = some (.int .i64 wh) ∧ w'.cell? ⟨b, 3, none⟩ = some (.int .i64 a)) (ds := []) #[false, false, false, false, false, false, false, false, false, false] (by kernel_rfl) rfl rfl ⟨(cell_of_heap hy rfl), (cell_of_heap hy rfl)⟩ (fun hHeld => ?_)
      refine pure_ (i := 0) (N := some 27) (v := ?_) (a' := ?_) #[true, false, false, false, false, false, false, false, false, false] rfl rfl (by kernel_rfl) (fun _ _ _ h => h) (Or.inl ⟨by rfl, ?_⟩) ?_ ?_
      rotate_left
      · intro w'
        go_simp
        with_reducible rfl
      rotate_left
      · simp only [Act.put, List.setIfInBounds_toArray, List.set_cons_zero, List.set_cons_succ, i64_w, i32_w]
        rfl
      refine pure_ (i := 1) (N := some 28) (v := ?_) (a' := ?_) #[true, true, false, false, false, false, false, false, false, false] rfl rfl (by kernel_rfl) (fun _ _ _ h => h) (Or.inl ⟨by rfl, ?_⟩) ?_ ?_
      rotate_left
      · intro w'
        go_simp
        with_reducible rfl
      rotate_left
      · simp only [Act.put, List.setIfInBounds_toArray, List.set_cons_zero, List.set_cons_succ, i64_w, i32_w]
        rfl
      refine pure_ (i := 4) (N := some 31) (v := ?_) (a' := ?_) #[true, true, false, false, true, false, false, false, false, false] rfl rfl (by kernel_rfl) (fun _ _ _ h => h) (Or.inl ⟨by rfl, ?_⟩) ?_ ?_
      rotate_left
      · intro w'
        go_simp
        with_reducible rfl
      rotate_left
      · simp only [Act.put, List.setIfInBounds_toArray, List.set_cons_zero, List.set_cons_succ, i64_w, i32_w]
        rfl
      refine take_ (i := 2) (N := some 29) (v := ?_) (a' := ?_) #[true, true, true, false, true, false, false, false, false, false] rfl rfl (by kernel_rfl) (fun _ _ _ h => h) (Or.inl ⟨by rfl, ?_⟩) hHeld ?_ ?_
      rotate_left
      · rintro w' ⟨s0, s1⟩
        go_simp
        with_reducible rfl
      rotate_left
      · simp only [Act.put, List.setIfInBounds_toArray, List.set_cons_zero, List.set_cons_succ, i64_w, i32_w]
        rfl
      refine take_ (i := 5) (N := some 32) (v := ?_) (a' := ?_) #[true, true, true, false, true, true, false, false, false, false] rfl rfl (by kernel_rfl) (fun _ _ _ h => h) (Or.inl ⟨by rfl, ?_⟩) hHeld ?_ ?_
      rotate_left
      · rintro w' ⟨s0, s1⟩
        go_simp
        with_reducible rfl
      rotate_left
      · simp only [Act.put, List.setIfInBounds_toArray, List.set_cons_zero, List.set_cons_succ, i64_w, i32_w]
        rfl
      refine one_ (i := 3) (N := some 30) #[true, true, true, true, true, true, false, false, false, false] rfl rfl (by kernel_rfl) (by decide) (fun K hK => ?_)
      refine goes_ Tryd.func64 (by kernel_rfl) rfl #[.int .i64 wh] (by rfl) rfl rfl (by simp only [List.map_toArray, List.map_cons, List.map_nil]; rfl) ?_
      with_reducible refine (args_known wh _ (.inl ha2'.out)).mono ?_
      rintro e wa ⟨ga, ca, rfl, hma, hCa, hba⟩
      refine ⟨_, rfl, ?_⟩
      have hBa := below_then hBy hBy.size hba
      have ha := (hBa.block b hb0).trans h0.out
      have hRa := Kd.R_below hRy.out hba
      refine hK.out _ _ ⟨(cell_of_heap ha rfl), (cell_of_heap ha rfl)⟩ (fun hHeld => ?_)
      clear hK K
      refine norm_ (a' := ?_) ?_ ?_
      rotate_left
      · show Act.put _ (some 30) _ = _
        simp only [Act.put, List.setIfInBounds_toArray, List.set_cons_zero, List.set_cons_succ, i64_w, i32_w]
        rfl
      refine one_ (i := 6) (N := some 33) #[true, true, true, true, true, true, true, false, false, false] rfl rfl (by kernel_rfl) (by decide) (fun K hK => ?_)
      refine goes_ Tryd.func61 (by kernel_rfl) rfl #[.slice (some ⟨ga, 0, none⟩) (argsL wh).length ca, .int .i64 a] (by rfl) rfl rfl (by simp only [List.map_toArray, List.map_cons, List.map_nil]; rfl) ?_
      with_reducible refine (note_at.calls (some ⟨ga, 0, none⟩) ca (argsL wh) a _ _ hCa hma (at_f (argsL wh) a)).mono ?_
      rintro e wc ⟨rfl, hbc⟩
      refine ⟨_, rfl, ?_⟩
      replace hbc := hbc.below
      have hBc := below_then hBa hBa.size hbc
      have hc := (hBc.block b hb0).trans h0.out
      have hRc := Kd.R_below hRa hbc
      refine hK.out _ _ ⟨(cell_of_heap hc rfl), (cell_of_heap hc rfl)⟩ (fun hHeld => ?_)
      clear hK K
      refine norm_ (a' := ?_) ?_ ?_
      rotate_left
      · show Act.put _ (some 33) _ = _
        simp only [Act.put, List.setIfInBounds_toArray, List.set_cons_zero, List.set_cons_succ, i64_w, i32_w]
        rfl
      refine one_ (i := 7) (N := some 34) #[true, true, true, true, true, true, true, true, false, false] rfl rfl (by kernel_rfl) (by decide) (fun K hK => ?_)
      refine value_ (w1 := ?_) (v := ?_) (by rfl) rfl ?_ ?_
      rotate_left 2
      · go_simp
        constructor
        · rfl
        · rfl
      have hBd := below_alloc hBc (.cells #[.string (atv (argsL wh) a)] 9)
      have hd := (hBd.block b hb0).trans h0.out
      refine hK.out _ _ ⟨(cell_of_heap hd rfl), (cell_of_heap hd rfl)⟩ (fun hHeld => ?_)
      clear hK K
      refine norm_ (a' := ?_) ?_ ?_
      rotate_left
      · show Act.put _ (some 34) _ = _
        simp only [Act.put, List.setIfInBounds_toArray, List.set_cons_zero, List.set_cons_succ, i64_w, i32_w]
        rfl
      refine one_ (i := 8) (N := some 35) #[true, true, true, true, true, true, true, true, true, false] rfl rfl (by kernel_rfl) (by decide) (fun K hK => ?_)
      refine Kd.R_append_step Kd.string (w0 := w0) w0.heap.size (by rfl) (.tmp 27) (.tmp 34) 40 9 (.string ⟨#[]⟩) 16 rfl Tryd.underlying40 info9 rfl (by decide) (by omega) v5 l (atv (argsL wh) a) [.string (atv (argsL wh) a)] (fun _ => True) (fun _ => False) rfl rfl rfl (fun _ hk => hk.elim) (fun _ _ => trivial) hRc hBc hBc.size (by omega) ?_
      intro ve we hRe hBe _ _
      have he := (hBe.block b hb0).trans h0.out
      refine hK.out _ _ ⟨(cell_of_heap he rfl), (cell_of_heap he rfl)⟩ (fun hHeld => ?_)
      clear hK K
      refine norm_ (a' := ?_) ?_ ?_
      rotate_left
      · show Act.put _ (some 35) _ = _
        simp only [Act.put, List.setIfInBounds_toArray, List.set_cons_zero, List.set_cons_succ, i64_w, i32_w]
        rfl
      refine pure_ (i := 9) (N := some 3) (v := ?_) (a' := ?_) #[true, true, true, true, true, true, true, true, true, true] rfl rfl (by kernel_rfl) (fun _ _ _ h => h) (Or.inl ⟨by rfl, ?_⟩) ?_ ?_
      rotate_left
      · intro w'
        go_simp
        with_reducible rfl
      rotate_left
      · simp only [Act.put, List.setIfInBounds_toArray, List.set_cons_zero, List.set_cons_succ, i64_w, i32_w]
        rfl
      refine done_ (by kernel_rfl) ?_
      go_wp2_with (go_at_call 65; refine (fin.out _ _ _ (by rw [hl.out]; unfold parts; rw [if_neg hh.out, if_pos (show a ≠ 0 from hane.out), List.append_nil]) hRe hBe).mono ?_; rintro e w9 ⟨rfl, hb9⟩; replace hb9 := Lib.hid hb9)
      go_ret
      exact ⟨rfl, hb9.out⟩

set_option maxHeartbeats 1000000 in
theorem text_no {t wh o a : Int} (hR : ¬ Right t wh o a) (w : World) :
    Calls Tryd.prog 24 #[.agg #[.int .i64 t, .int .i64 wh, .int .i64 o, .int .i64 a]] w fun e w' => e = .returned (.string ⟨#[]⟩) ∧ Below w.heap.size w w' := by
  go_enter Tryd.func24, Tryd.ntmps24
  go_wp2_with (go_at_call 25; refine (right_no hR _).mono ?_; rintro e w1 ⟨rfl, hb1⟩; replace hb1 := Lib.hid hb1)
  go_ret
  exact ⟨rfl, below_then (below_alloc (Below.refl _ _) _) (by simp) hb1.out⟩

theorem text_walk (t wh o a : Int) (w : World) :
    Calls Tryd.prog 24 #[.agg #[.int .i64 t, .int .i64 wh, .int .i64 o, .int .i64 a]] w fun e w' => e = .returned (.string (textB t wh o a)) ∧ Below w.heap.size w w' := by
  unfold textB
  by_cases hR : Right t wh o a
  · obtain ⟨n, rfl⟩ : ∃ n : Nat, t = n := ⟨t.toNat, by have := hR.1; omega⟩
    rw [if_pos hR]
    exact text_yes n wh o a w hR
  · rw [if_neg hR]
    exact text_no hR w

theorem awake_text : textB 3 11 6 1 = ⟨#[51, 32, 114, 101, 116, 117, 114, 110, 32, 116, 114, 121, 108, 111, 99, 107, 32, 102, 97, 108, 115, 101]⟩ := by decide +kernel
theorem awake_walk (w : World) : Calls Tryd.prog 26 #[] w fun e w' => e = .returned (.bool true) ∧ Below w.heap.size w w' := by
  have h := awake_text
  go_enter Tryd.func26, Tryd.ntmps26
  go_wp2_with (go_at_call 24; refine (text_walk 3 11 6 1 _).mono ?_; rintro e w1 ⟨rfl, hb1⟩; replace hb1 := Lib.hid hb1)
  go_ret
  exact ⟨by simp, hb1.out⟩

end Go.Proofs.YtejmbmhehbcflaaDoor.Note
