/- How all stands: copies of the words and of the tasks. -/
import Derived.Test.YtkmlefbdhdlfmaaGreatNw
namespace Go.Proofs.YtkmlefbdhdlfmaaGreat.Wo
open Go.RowKit Go.Proofs.YtkmlefbdhdlfmaaGreatW.PrintWords Go.Proofs.YtkmlefbdhdlfmaaGreatW.PrintMore Go.Proofs.YtkmlefbdhdlfmaaGreatW.PrintLast
open Stile
set_option linter.unusedSimpArgs false
set_option linter.unusedVariables false
set_option maxRecDepth 100000
variable {w w1 w2 w0 V V1 : World} {a pm g t kf n b B p cap gc gt : Nat} {W : Stile.W} {l : List Int}

/-- A row of words. -/
structure Wr (w : World) (g : Nat) (l : List Int) : Prop where
  row : ∃ cells : Array Value, w.heap[g]? = some (.cells cells 22 (0, 0)) ∧ ∀ i, i < l.length → cells[i]? = some (.int .u32 (l.getD i 0))
/-- What State tells of W: its words in a row, its tasks in a row. -/
structure Sd (w : World) (gc gt : Nat) (W : Stile.W) : Prop where
  cells : Wr w gc W.l
  tasks : Tk w gt W.t.length (fun i j => taskV (W.t.getD i ⟨0, .zero⟩) j)
theorem Wr.lt (h : Wr w g l) : g < w.heap.size := by
  obtain ⟨c, hc, _⟩ := h.row
  exact blk_lt hc
theorem Wr.of_block (h : Wr w g l) (e : w1.heap[g]? = w.heap[g]?) : Wr w1 g l := by
  obtain ⟨c, hc, hr⟩ := h.row
  exact ⟨c, e.trans hc, hr⟩
theorem Wr.below (h : Wr w g l) (hb : Below w.heap.size w w1) : Wr w1 g l := h.of_block (hb.block g h.lt)
theorem Tk.below {f : Nat → Nat → Value} (h : Tk w t n f) (hb : Below w.heap.size w w1) : Tk w1 t n f := h.of_block (hb.block t h.lt)
theorem Sd.of_blocks (h : Sd w gc gt W) (h1 : w1.heap[gc]? = w.heap[gc]?) (h2 : w1.heap[gt]? = w.heap[gt]?) : Sd w1 gc gt W := ⟨h.cells.of_block h1, h.tasks.of_block h2⟩
theorem Sd.lt (h : Sd w gc gt W) : gc < w.heap.size ∧ gt < w.heap.size := ⟨h.cells.lt, h.tasks.lt⟩
theorem Sd.below (h : Sd w gc gt W) (hb : Below w.heap.size w w1) : Sd w1 gc gt W := ⟨h.cells.below hb, h.tasks.below hb⟩
theorem Wr.cell (h : Wr w g l) {i : Nat} (hi : i < l.length) : w.cell? ⟨g, i, none⟩ = some (.int .u32 (l.getD i 0)) := by
  obtain ⟨c, hc, hr⟩ := h.row
  exact cell_of_heap hc (hr i hi)
theorem Wr_C (h : Wr w g l) (hl : l.length ≤ 2000) : (Kd.int .u32).C w (some ⟨g, 0, none⟩) l.length l := by
  refine Kd.C_of_reads (d := 0) ⟨rfl, by omega, fun hn => ⟨_, rfl, fun j hj => ?_⟩⟩
  rw [add_plain]
  exact h.cell hj
theorem R_Wr {c : Nat} {ok : Nat → Prop} {xs : List Int} (h : (Kd.int .u32).R 22 w B ok (.slice (some ⟨g, 0, none⟩) n c) xs) : Wr w g xs := by
  obtain ⟨_, inner, ho, hr⟩ := h
  obtain ⟨ho1, ho2⟩ := ho
  rcases ho2 with ⟨hv, _⟩ | ⟨g', cap', cur, hv, hb, hh, hnc, hcm, hcs, ht⟩
  · cases hv
  injection hv with ha _ _
  injection ha with ha
  injection ha with hg
  subst hg
  refine ⟨cur, hh, fun i hi => ?_⟩
  have hx : xs[i]? = some (xs.getD i 0) := by simp [List.getD_eq_getElem?_getD, hi]
  have h1 : (inner.drop (i * 1)).take 1 = [.int .u32 (xs.getD i 0)] := hr.2 i _ hx
  have h2 : ((inner.drop (i * 1)).take 1)[0]? = some (.int .u32 (xs.getD i 0)) := by rw [h1]; rfl
  rw [List.getElem?_take, if_pos (by decide), List.getElem?_drop, ← ht, List.getElem?_take] at h2
  split at h2
  · rw [← Array.getElem?_toList]
    simpa using h2
  · cases h2
theorem below_setCells {B : Nat} (h : Below B w w1) (b o : Nat) (hb : B ≤ b) (vs : List Value) : Below B w (w1.setCells b o vs) := by
  induction vs generalizing w1 o with
  | nil => exact h
  | cons v vs ih => exact ih (h.setCell (show B ≤ (⟨b, o, none⟩ : Addr).block from hb) v) (o + 1)
theorem taskV_L (x : Task) (i : Nat) (u : Value) (h : (taskL x)[i]? = some u) : i < 11 ∧ u = taskV x i := by
  have hi : i < 11 := by
    rcases Nat.lt_or_ge i 11 with h1 | h1
    · exact h1
    · rw [List.getElem?_eq_none (by simpa using h1)] at h
      cases h
  rw [taskL_get x i hi] at h
  exact ⟨hi, (Option.some.inj h).symm⟩
theorem Tk_C {xs : List Task} (h : Tk w t xs.length (fun i j => taskV (xs.getD i ⟨0, .zero⟩) j)) (hl : xs.length ≤ 2000) : kt.C w (some ⟨t, 0, none⟩) xs.length xs := by
  refine ⟨rfl, by omega, fun hn => ⟨_, rfl, fun j p hj => ⟨taskL p, rfl, kt_M (w := w) (B := 0) (ok := fun _ => True) p, fun i u hu => ?_⟩⟩⟩
  obtain ⟨hi, rfl⟩ := taskV_L p i u hu
  obtain ⟨hl2, hp⟩ := List.getElem?_eq_some_iff.1 hj
  have e : p = xs.getD j ⟨0, .zero⟩ := by rw [List.getD_eq_getElem?_getD, hj]; rfl
  rw [add_plain, e]
  exact h.cell hl2 hi
theorem all_walk (h : Mm w pm g l) (h1 : 1 ≤ l.length) (hl : l.length ≤ 2000) : Calls Tryz.prog 43 #[.pointer (some ⟨pm, 0, none⟩)] w fun e w' => ∃ gc cc, e = .returned (.slice (some ⟨gc, 0, none⟩) l.length cc) ∧ Wr w' gc l ∧ w.heap.size ≤ gc ∧ Below w.heap.size w w' ∧ l.length ≤ cc := by
  obtain ⟨cap, hh⟩ := h.head
  have hcl := clone_walk (c := cap) (Wr_C ⟨h.row⟩ hl) hl
  obtain ⟨len, hlen⟩ : ∃ len, len = l.length := ⟨_, rfl⟩
  have h1' : 1 ≤ len := by omega
  rw [← hlen] at hcl hh ⊢
  have c0 := cell_of_heap (j := 0) hh rfl
  replace h := Lib.hid h
  replace hh := Lib.hid hh
  replace hcl := Lib.hid hcl
  replace hlen := Lib.hid hlen
  clear h1 hl
  go_enter Tryz.func43, Tryz.ntmps43
  go_wp2_with (go_at_call 81; go_must (refine hcl.out.mono ?_; rintro e w1 ⟨v, rfl, hR, hB⟩; obtain ⟨gc, cc, rfl, hg0, hg1, _⟩ := Kd.R_form hR (by rw [← hlen.out]; exact h1'); rw [← hlen.out] at hR; replace hR := Lib.hid hR; replace hB := Lib.hid hB; rw [← hlen.out]))
  go_ret
  exact ⟨gc, cc, rfl, R_Wr hR.out, hg0, hB.out, (Kd.R_reads' hR.out).2.1⟩
theorem hid_al (h : Wd w a pm g t kf W) (h1 : 1 ≤ W.l.length) (hl : W.l.length ≤ 2000) : Calls Tryz.prog 43 #[.pointer (some ⟨pm, 0, none⟩)] w fun e w' => ∃ gc cc, e = .returned (.slice (some ⟨gc, 0, none⟩) W.l.length cc) ∧ Wr w' gc W.l ∧ w.heap.size ≤ gc ∧ Below w.heap.size w w' ∧ W.l.length ≤ cc := all_walk h.mem h1 hl
theorem hid_tc (h : Wd w a pm g t kf W) {lt : Nat} (hlt : lt = W.t.length) (h1 : 1 ≤ lt) (hl : lt ≤ 2000) : Calls Tryz.prog 44 #[.slice (some ⟨t, 0, none⟩) lt cap] w fun e w' => ∃ gt ct, e = .returned (.slice (some ⟨gt, 0, none⟩) lt ct) ∧ Tk w' gt W.t.length (fun i j => taskV (W.t.getD i ⟨0, .zero⟩) j) ∧ w.heap.size ≤ gt ∧ Below w.heap.size w w' := by
  subst hlt
  refine (tclone_walk (Tk_C h.tasks hl) hl).mono ?_
  rintro e w1 ⟨v, rfl, hR, hB⟩
  obtain ⟨gt, ct, rfl, hg0, hg1, _⟩ := Kd.R_form hR h1
  exact ⟨gt, ct, rfl, R_Tk hR, hg0, hB⟩
set_option maxHeartbeats 4000000 in
theorem state_walk (h : Wd w a pm g t kf W) (hl1 : 1 ≤ W.l.length) (hl2 : W.l.length ≤ 2000) (ht1 : 1 ≤ W.t.length) (ht2 : W.t.length ≤ 2000) : Calls Tryz.prog 16 #[.pointer (some ⟨a, 0, none⟩)] w fun e w' => ∃ gc cc gt ct, e = .returned (.agg #[.int .i64 W.kind, .int .i64 W.mode, .int .i64 W.n, .slice (some ⟨gc, 0, none⟩) W.l.length cc, .slice (some ⟨gt, 0, none⟩) W.t.length ct]) ∧ Sd w' gc gt W ∧ w.heap.size ≤ gc ∧ w.heap.size ≤ gt ∧ Below w.heap.size w w' ∧ W.l.length ≤ cc := by
  obtain ⟨lt, hlt⟩ : ∃ lt, lt = W.t.length := ⟨_, rfl⟩
  have hn1 : 1 ≤ lt := by omega
  have hn2 : lt ≤ 2000 := by omega
  obtain ⟨b, hbb⟩ : ∃ b, b = w.heap.size := ⟨_, rfl⟩
  obtain ⟨W0, hW⟩ : ∃ W0, W0 = w.alloc (.cells #[.int .i64 0, .int .i64 0, .int .i64 0, .slice none 0 0, .slice none 0 0] 35) := ⟨_, rfl⟩
  have hx0 : W0.heap[b]? = some (.cells #[.int .i64 0, .int .i64 0, .int .i64 0, .slice none 0 0, .slice none 0 0] 35 (0, 0)) := by rw [hW, hbb]; exact heap_alloc_new w _
  have hB : Below w.heap.size w W0 := by rw [hW]; exact below_alloc (Below.refl _ w) _
  have h0 : Wd W0 a pm g t kf W := by rw [hW]; exact h.alloc _
  obtain ⟨cap, hh⟩ := h0.head
  have c0 := cell_of_heap (j := 0) hh rfl
  have c1 := cell_of_heap (j := 1) hh rfl
  have c2 := cell_of_heap (j := 2) hh rfl
  have c3 := cell_of_heap (j := 3) hh rfl
  have c5 := cell_of_heap (j := 5) hh rfl
  have hal0 := hid_al h0.drew hl1 hl2
  have htc0 := hid_tc (cap := cap) h0.drew hlt hn1 hn2
  rw [← hlt] at c5 ⊢
  replace hlt := Lib.hid hlt
  replace hl1 := Lib.hid hl1
  replace hl2 := Lib.hid hl2
  replace hn1 := Lib.hid hn1
  replace hn2 := Lib.hid hn2
  replace hx0 := Lib.hid hx0
  replace hB := Lib.hid hB
  replace h0 := Lib.hid h0
  replace hh := Lib.hid hh
  replace h := Lib.hid h
  replace hal0 := Lib.hid hal0
  replace htc0 := Lib.hid htc0
  clear ht1 ht2
  go_enter Tryz.func16, Tryz.ntmps16
  go_upto_region 3 with (fail)
  rw [← hW, ← hbb]
  replace hW := Lib.hid hW
  replace hbb := Lib.hid hbb
  refine start_ (n := 25) (S := fun w' => w'.cell? ⟨a, 0, none⟩ = some (.int .i64 W.kind) ∧ w'.cell? ⟨a, 1, none⟩ = some (.int .i64 W.mode) ∧ w'.cell? ⟨a, 2, none⟩ = some (.pointer (some ⟨pm, 0, none⟩)) ∧ w'.cell? ⟨a, 3, none⟩ = some (.int .i64 W.n) ∧ w'.cell? ⟨a, 5, none⟩ = some (.slice (some ⟨t, 0, none⟩) lt cap)) (ds := [24]) #[false, false, false, false, false, false, false, false, false, false, false, false, false, false, false, false, false, false, false, false, false, false, false, false, false] (by kernel_rfl) rfl rfl ⟨c0, c1, c2, c3, c5⟩ (fun hHeld => ?_)
  refine pure_ (i := 0) (N := some 6) (v := ?_) (a' := ?_) (mk 25 1) rfl rfl (by kernel_rfl) (fun _ _ _ h => h) (Or.inl ⟨by rfl, ?_⟩) ?_ ?_
  rotate_left
  · intro w'
    go_simp
    with_reducible rfl
  rotate_left
  · simp only [Act.put, List.setIfInBounds_toArray, List.set_cons_zero, List.set_cons_succ, i64_w, i32_w]
    rfl
  refine pure_ (i := 1) (N := some 7) (v := ?_) (a' := ?_) (mk 25 3) rfl rfl (by kernel_rfl) (fun _ _ _ h => h) (Or.inl ⟨by rfl, ?_⟩) ?_ ?_
  rotate_left
  · intro w'
    go_simp
    with_reducible rfl
  rotate_left
  · simp only [Act.put, List.setIfInBounds_toArray, List.set_cons_zero, List.set_cons_succ, i64_w, i32_w]
    rfl
  refine pure_ (i := 2) (N := some 8) (v := ?_) (a' := ?_) (mk 25 7) rfl rfl (by kernel_rfl) (fun _ _ _ h => h) (Or.inl ⟨by rfl, ?_⟩) ?_ ?_
  rotate_left
  · intro w'
    go_simp
    with_reducible rfl
  rotate_left
  · simp only [Act.put, List.setIfInBounds_toArray, List.set_cons_zero, List.set_cons_succ, i64_w, i32_w]
    rfl
  refine pure_ (i := 4) (N := some 10) (v := ?_) (a' := ?_) (mk 25 23) rfl rfl (by kernel_rfl) (fun _ _ _ h => h) (Or.inl ⟨by rfl, ?_⟩) ?_ ?_
  rotate_left
  · intro w'
    go_simp
    with_reducible rfl
  rotate_left
  · simp only [Act.put, List.setIfInBounds_toArray, List.set_cons_zero, List.set_cons_succ, i64_w, i32_w]
    rfl
  refine pure_ (i := 5) (N := some 11) (v := ?_) (a' := ?_) (mk 25 55) rfl rfl (by kernel_rfl) (fun _ _ _ h => h) (Or.inl ⟨by rfl, ?_⟩) ?_ ?_
  rotate_left
  · intro w'
    go_simp
    with_reducible rfl
  rotate_left
  · simp only [Act.put, List.setIfInBounds_toArray, List.set_cons_zero, List.set_cons_succ, i64_w, i32_w]
    rfl
  refine pure_ (i := 6) (N := some 12) (v := ?_) (a' := ?_) (mk 25 119) rfl rfl (by kernel_rfl) (fun _ _ _ h => h) (Or.inl ⟨by rfl, ?_⟩) ?_ ?_
  rotate_left
  · intro w'
    go_simp
    with_reducible rfl
  rotate_left
  · simp only [Act.put, List.setIfInBounds_toArray, List.set_cons_zero, List.set_cons_succ, i64_w, i32_w]
    rfl
  refine pure_ (i := 8) (N := some 14) (v := ?_) (a' := ?_) (mk 25 375) rfl rfl (by kernel_rfl) (fun _ _ _ h => h) (Or.inl ⟨by rfl, ?_⟩) ?_ ?_
  rotate_left
  · intro w'
    go_simp
    with_reducible rfl
  rotate_left
  · simp only [Act.put, List.setIfInBounds_toArray, List.set_cons_zero, List.set_cons_succ, i64_w, i32_w]
    rfl
  refine pure_ (i := 9) (N := some 15) (v := ?_) (a' := ?_) (mk 25 887) rfl rfl (by kernel_rfl) (fun _ _ _ h => h) (Or.inl ⟨by rfl, ?_⟩) ?_ ?_
  rotate_left
  · intro w'
    go_simp
    with_reducible rfl
  rotate_left
  · simp only [Act.put, List.setIfInBounds_toArray, List.set_cons_zero, List.set_cons_succ, i64_w, i32_w]
    rfl
  refine pure_ (i := 10) (N := some 16) (v := ?_) (a' := ?_) (mk 25 1911) rfl rfl (by kernel_rfl) (fun _ _ _ h => h) (Or.inl ⟨by rfl, ?_⟩) ?_ ?_
  rotate_left
  · intro w'
    go_simp
    with_reducible rfl
  rotate_left
  · simp only [Act.put, List.setIfInBounds_toArray, List.set_cons_zero, List.set_cons_succ, i64_w, i32_w]
    rfl
  refine pure_ (i := 11) (N := some 17) (v := ?_) (a' := ?_) (mk 25 3959) rfl rfl (by kernel_rfl) (fun _ _ _ h => h) (Or.inl ⟨by rfl, ?_⟩) ?_ ?_
  rotate_left
  · intro w'
    go_simp
    with_reducible rfl
  rotate_left
  · simp only [Act.put, List.setIfInBounds_toArray, List.set_cons_zero, List.set_cons_succ, i64_w, i32_w]
    rfl
  refine pure_ (i := 13) (N := some 19) (v := ?_) (a' := ?_) (mk 25 12151) rfl rfl (by kernel_rfl) (fun _ _ _ h => h) (Or.inl ⟨by rfl, ?_⟩) ?_ ?_
  rotate_left
  · intro w'
    go_simp
    with_reducible rfl
  rotate_left
  · simp only [Act.put, List.setIfInBounds_toArray, List.set_cons_zero, List.set_cons_succ, i64_w, i32_w]
    rfl
  refine pure_ (i := 14) (N := some 20) (v := ?_) (a' := ?_) (mk 25 28535) rfl rfl (by kernel_rfl) (fun _ _ _ h => h) (Or.inl ⟨by rfl, ?_⟩) ?_ ?_
  rotate_left
  · intro w'
    go_simp
    with_reducible rfl
  rotate_left
  · simp only [Act.put, List.setIfInBounds_toArray, List.set_cons_zero, List.set_cons_succ, i64_w, i32_w]
    rfl
  refine pure_ (i := 15) (N := some 21) (v := ?_) (a' := ?_) (mk 25 61303) rfl rfl (by kernel_rfl) (fun _ _ _ h => h) (Or.inl ⟨by rfl, ?_⟩) ?_ ?_
  rotate_left
  · intro w'
    go_simp
    with_reducible rfl
  rotate_left
  · simp only [Act.put, List.setIfInBounds_toArray, List.set_cons_zero, List.set_cons_succ, i64_w, i32_w]
    rfl
  refine pure_ (i := 18) (N := some 24) (v := ?_) (a' := ?_) (mk 25 323447) rfl rfl (by kernel_rfl) (fun _ _ _ h => h) (Or.inl ⟨by rfl, ?_⟩) ?_ ?_
  rotate_left
  · intro w'
    go_simp
    with_reducible rfl
  rotate_left
  · simp only [Act.put, List.setIfInBounds_toArray, List.set_cons_zero, List.set_cons_succ, i64_w, i32_w]
    rfl
  refine pure_ (i := 19) (N := some 25) (v := ?_) (a' := ?_) (mk 25 847735) rfl rfl (by kernel_rfl) (fun _ _ _ h => h) (Or.inl ⟨by rfl, ?_⟩) ?_ ?_
  rotate_left
  · intro w'
    go_simp
    with_reducible rfl
  rotate_left
  · simp only [Act.put, List.setIfInBounds_toArray, List.set_cons_zero, List.set_cons_succ, i64_w, i32_w]
    rfl
  refine pure_ (i := 20) (N := some 26) (v := ?_) (a' := ?_) (mk 25 1896311) rfl rfl (by kernel_rfl) (fun _ _ _ h => h) (Or.inl ⟨by rfl, ?_⟩) ?_ ?_
  rotate_left
  · intro w'
    go_simp
    with_reducible rfl
  rotate_left
  · simp only [Act.put, List.setIfInBounds_toArray, List.set_cons_zero, List.set_cons_succ, i64_w, i32_w]
    rfl
  refine take_ (i := 3) (N := some 9) (v := ?_) (a' := ?_) (mk 25 1896319) rfl rfl (by kernel_rfl) (fun _ _ _ h => h) (Or.inl ⟨by rfl, ?_⟩) hHeld ?_ ?_
  rotate_left
  · rintro w' ⟨s0, s1, s2, s3, s4⟩
    go_simp
    with_reducible rfl
  rotate_left
  · simp only [Act.put, List.setIfInBounds_toArray, List.set_cons_zero, List.set_cons_succ, i64_w, i32_w]
    rfl
  refine take_ (i := 7) (N := some 13) (v := ?_) (a' := ?_) (mk 25 1896447) rfl rfl (by kernel_rfl) (fun _ _ _ h => h) (Or.inl ⟨by rfl, ?_⟩) hHeld ?_ ?_
  rotate_left
  · rintro w' ⟨s0, s1, s2, s3, s4⟩
    go_simp
    with_reducible rfl
  rotate_left
  · simp only [Act.put, List.setIfInBounds_toArray, List.set_cons_zero, List.set_cons_succ, i64_w, i32_w]
    rfl
  refine take_ (i := 12) (N := some 18) (v := ?_) (a' := ?_) (mk 25 1900543) rfl rfl (by kernel_rfl) (fun _ _ _ h => h) (Or.inl ⟨by rfl, ?_⟩) hHeld ?_ ?_
  rotate_left
  · rintro w' ⟨s0, s1, s2, s3, s4⟩
    go_simp
    with_reducible rfl
  rotate_left
  · simp only [Act.put, List.setIfInBounds_toArray, List.set_cons_zero, List.set_cons_succ, i64_w, i32_w]
    rfl
  refine take_ (i := 16) (N := some 22) (v := ?_) (a' := ?_) (mk 25 1966079) rfl rfl (by kernel_rfl) (fun _ _ _ h => h) (Or.inl ⟨by rfl, ?_⟩) hHeld ?_ ?_
  rotate_left
  · rintro w' ⟨s0, s1, s2, s3, s4⟩
    go_simp
    with_reducible rfl
  rotate_left
  · simp only [Act.put, List.setIfInBounds_toArray, List.set_cons_zero, List.set_cons_succ, i64_w, i32_w]
    rfl
  refine take_ (i := 21) (N := some 27) (v := ?_) (a' := ?_) (mk 25 4063231) rfl rfl (by kernel_rfl) (fun _ _ _ h => h) (Or.inl ⟨by rfl, ?_⟩) hHeld ?_ ?_
  rotate_left
  · rintro w' ⟨s0, s1, s2, s3, s4⟩
    go_simp
    with_reducible rfl
  rotate_left
  · simp only [Act.put, List.setIfInBounds_toArray, List.set_cons_zero, List.set_cons_succ, i64_w, i32_w]
    rfl
  refine one_ (i := 17) (N := some 23) (mk 25 4194303) rfl rfl (by kernel_rfl) (by decide) (fun K hK => ?_)
  refine goes_ Tryz.func43 (by kernel_rfl) rfl #[.pointer (some ⟨pm, 0, none⟩)] (by rfl) rfl rfl (by simp only [List.map_toArray, List.map_cons, List.map_nil]; rfl) ?_
  with_reducible refine (hal0.out).mono ?_
  rintro e w1 ⟨gc, cc, rfl, hR, hgc, hB1, hcc⟩
  refine ⟨_, rfl, ?_⟩
  replace hcc := Lib.hid hcc
  have htc1 := hid_tc (cap := cap) (h0.out.drew.below hB1) hlt.out hn1.out hn2.out
  replace htc1 := Lib.hid htc1
  have d1_0 := pw_cell_below hB1 c0
  have d1_1 := pw_cell_below hB1 c1
  have d1_2 := pw_cell_below hB1 c2
  have d1_3 := pw_cell_below hB1 c3
  have d1_5 := pw_cell_below hB1 c5
  refine hK.out _ _ ⟨d1_0, d1_1, d1_2, d1_3, d1_5⟩ (fun hHeld => ?_)
  clear hK K
  refine norm_ (a' := ?_) ?_ ?_
  rotate_left
  · show Act.put _ (some 23) _ = _
    simp only [Act.put, List.setIfInBounds_toArray, List.set_cons_zero, List.set_cons_succ, i64_w, i32_w]
    rfl
  refine one_ (i := 22) (N := some 28) (mk 25 8388607) rfl rfl (by kernel_rfl) (by decide) (fun K hK => ?_)
  refine goes_ Tryz.func44 (by kernel_rfl) rfl #[.slice (some ⟨t, 0, none⟩) lt cap] (by rfl) rfl rfl (by simp only [List.map_toArray, List.map_cons, List.map_nil]; rfl) ?_
  with_reducible refine (htc1.out).mono ?_
  rintro e w3 ⟨gt, ct, rfl, hT, hgt, hB2⟩
  refine ⟨_, rfl, ?_⟩
  have d2_0 := pw_cell_below hB2 d1_0
  have d2_1 := pw_cell_below hB2 d1_1
  have d2_2 := pw_cell_below hB2 d1_2
  have d2_3 := pw_cell_below hB2 d1_3
  have d2_5 := pw_cell_below hB2 d1_5
  have hS3 : Sd w3 gc gt W := ⟨hR.below hB2, hT⟩
  have hgt' := Nat.le_trans hB1.size hgt
  have hB3 := below_then hB1 hB1.size hB2
  have hx3 := blk_below (blk_drew hx0.out) hB3
  replace hS3 := Lib.hid hS3
  replace hB3 := Lib.hid hB3
  replace hx3 := Lib.hid hx3
  refine hK.out _ _ ⟨d2_0, d2_1, d2_2, d2_3, d2_5⟩ (fun hHeld => ?_)
  clear hK K
  refine norm_ (a' := ?_) ?_ ?_
  rotate_left
  · show Act.put _ (some 28) _ = _
    simp only [Act.put, List.setIfInBounds_toArray, List.set_cons_zero, List.set_cons_succ, i64_w, i32_w]
    rfl
  refine pure_ (i := 23) (N := some 29) (v := ?_) (a' := ?_) (mk 25 16777215) rfl rfl (by kernel_rfl) (fun _ _ _ h => h) (Or.inl ⟨by rfl, ?_⟩) ?_ ?_
  rotate_left
  · intro w'
    go_simp
    with_reducible rfl
  rotate_left
  · simp only [Act.put, List.setIfInBounds_toArray, List.set_cons_zero, List.set_cons_succ, i64_w, i32_w]
    rfl
  refine last_ (i := 24) (N := none) (mk 25 33554431) rfl rfl (by kernel_rfl) (by decide) (fun K hK => ?_)
  refine skip_ (by rfl) rfl (store_run' rfl rfl rfl (run_store_run 35 (.agg #[.int .i64 W.kind, .int .i64 W.mode, .int .i64 W.n, .slice (some ⟨gc, 0, none⟩) W.l.length cc, .slice (some ⟨gt, 0, none⟩) lt ct]) [.int .i64 W.kind, .int .i64 W.mode, .int .i64 W.n, .slice (some ⟨gc, 0, none⟩) W.l.length cc, .slice (some ⟨gt, 0, none⟩) lt ct] (o := 0) hx3.out (by rfl) (by kernel_rfl) (Nat.le_refl _) (by simp [Value.oneCell']))) ?_
  refine hK.out _ _ ?_
  clear hK K
  refine done_ (by kernel_rfl) ?_

  have h2 := blk_setAll hx3.out [.int .i64 W.kind, .int .i64 W.mode, .int .i64 W.n, .slice (some ⟨gc, 0, none⟩) W.l.length cc, .slice (some ⟨gt, 0, none⟩) lt ct] (by rfl)
  go_wp2
  (try simp only [Exit.inBlock, Exit.then])
  refine bodyPost_ret (results_single rfl (.cell b 35 #[.int .i64 W.kind, .int .i64 W.mode, .int .i64 W.n, .slice (some ⟨gc, 0, none⟩) W.l.length cc, .slice (some ⟨gt, 0, none⟩) lt ct] (0, 0) _ rfl h2 Tryz.underlying35 rfl (by kernel_rfl) .nil)) rfl ?_
  have hsz : W0.drew.heap.size = b + 1 := by
    show W0.heap.size = b + 1
    rw [hW.out, hbb.out]
    exact World.size_alloc _ _
  rw [hsz] at hgc hgt'
  have hbw := hbb.out
  refine ⟨gc, cc, gt, ct, rfl, hS3.out.of_blocks (setCells_far _ 0 gc (by omega)) (setCells_far _ 0 gt (by omega)), by omega, by omega, ?_, hcc.out⟩
  have h5 : Below w.heap.size w w3 := below_then (below_drew hB.out) hB.out.size hB3.out
  exact below_setCells h5 b 0 (by omega) _

end Go.Proofs.YtkmlefbdhdlfmaaGreat.Wo
