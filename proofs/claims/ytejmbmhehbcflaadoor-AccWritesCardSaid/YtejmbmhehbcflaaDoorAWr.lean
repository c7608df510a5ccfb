/- The law AccWrites: whether an access changes a word is just what is seen when it is done on a cell that has what was there. -/
import Derived.Test.YtejmbmhehbcflaaDoorAAp
import Derived.Test.YtejmbmhehbcflaaDoorQ9
namespace Go.Proofs.YtejmbmhehbcflaaDoor.Acc
open Go.RowKit Go.Proofs.YtejmbmhehbcflaaDoor.Jn Go.Proofs.YtejmbmhehbcflaaDoor.Fu Go.Proofs.YtejmbmhehbcflaaDoor.Digs Go.Proofs.YtejmbmhehbcflaaDoorW.PrintWords Go.Proofs.YtejmbmhehbcflaaDoorW.PrintMore Go.Proofs.YtejmbmhehbcflaaDoorW.PrintLast Go.Proofs.YtejmbmhehbcflaaDoor.Pr
set_option linter.unusedSimpArgs false
set_option linter.unusedVariables false

/-! plain -/
def okD (k : Int) : Bool := decide (1 ≤ k ∧ k ≤ 5)
/-- The word behind an access. -/
def newv (k x y o : Int) : Int := if k = 2 ∨ k = 4 then x else if k = 3 then (o + x) % 4294967296 else if k = 5 ∧ o = x then y else o
def wrv (k x y o : Int) : Bool := if k = 2 ∨ k = 4 then x != o else if k = 3 then x != 0 else if k = 5 then (if x = o then y != o else false) else false
theorem writes_f (k c x y o : Int) : acc_Writes.f 5 k c x y o = some (wrv k x y o) := by
  unfold acc_Writes.f wrv
  by_cases h2 : k = 2
  · subst h2; rfl
  · rw [if_neg h2]
    by_cases h4 : k = 4
    · subst h4; rfl
    · have e4 : (k == 4) = false := by simpa using h4
      rw [e4, if_neg (show ¬ (k = 2 ∨ k = 4) by omega)]
      simp only [acc_Writes.j0]
      rw [if_neg (by simp)]
      by_cases h3 : k = 3
      · rw [if_pos h3, if_pos h3]
      · rw [if_neg h3, if_neg h3]
        by_cases h5 : k = 5
        · rw [if_pos h5, if_pos h5]
          split <;> rfl
        · rw [if_neg h5, if_neg h5]
theorem plain_law (k x y o : Int) (hx : 0 ≤ x ∧ x < 4294967296) (ho : 0 ≤ o ∧ o < 4294967296) : wrv k x y o = (okD k && (newv k x y o != o)) := by
  unfold wrv newv okD
  by_cases h2 : k = 2 ∨ k = 4
  · rw [if_pos h2, if_pos h2, decide_eq_true (by omega), Bool.true_and]
  · rw [if_neg h2, if_neg h2]
    by_cases h3 : k = 3
    · rw [if_pos h3, if_pos h3, decide_eq_true (by omega), Bool.true_and]
      rw [Bool.eq_iff_iff, bne_iff_ne, bne_iff_ne]
      omega
    · rw [if_neg h3, if_neg h3]
      by_cases h5 : k = 5
      · rw [if_pos h5, decide_eq_true (by omega), Bool.true_and]
        by_cases e : x = o
        · rw [if_pos e, if_pos ⟨h5, e.symm⟩]
        · rw [if_neg e, if_neg (fun h => e h.2.symm)]
          simp
      · rw [if_neg h5, if_neg (fun h => h5 h.1)]
        simp
/-- The list ahead of the access. -/
def row (c : Nat) (o : Int) : List Int := (List.replicate (c + 1) 0).set c o
theorem row_len (c : Nat) (o : Int) : (row c o).length = c + 1 := by simp [row]
theorem rd_set {l : List Int} {c : Nat} (h : c < l.length) (v : Int) : rd (l.set c v) (c : Int) = v := by
  simp [rd, h]
theorem row_at (c : Nat) (o : Int) : rd (row c o) (c : Int) = o := rd_set (by simp) o
theorem do_f (k : Int) (c : Nat) (x y o : Int) : ∃ r1 r2 r3 r4 r5 r7, stilemanref01_Do.f 5 (row c o) k (c : Int) x y o = some (r1, r2, r3, r4, r5, okD k, r7) ∧ r7.length = c + 1 ∧ rd r7 (c : Int) = newv k x y o := by
  have hlen := row_len c o
  have hat := row_at c o
  have hlt : (c : Int) < ((row c o).length : Int) := by omega
  have hthere : stilemanref01_There.f (row c o) (c : Int) = some true := by
    unfold stilemanref01_There.f
    rw [if_pos (by omega)]
    simpa using hlt
  generalize row c o = l at *
  have hsl : ∀ v, (l.set c v).length = c + 1 := fun v => by simpa using hlen
  have hrd : ∀ v, rd (l.set c v) (c : Int) = v := fun v => rd_set (by omega) v
  unfold stilemanref01_Do.f
  rw [hthere, Option.bind_some, if_pos rfl]
  unfold okD newv
  by_cases h1 : k < 1
  · rw [if_pos h1, decide_eq_false (by omega)]
    refine ⟨0, 0, 0, 0, 0, l, by simp [stilemanref01_Do.j0], hlen, ?_⟩
    rw [if_neg (by omega), if_neg (by omega), if_neg (by omega), hat]
  · rw [if_neg h1]
    by_cases h5 : k > 5
    · rw [decide_eq_true h5, decide_eq_false (by omega)]
      refine ⟨0, 0, 0, 0, 0, l, by simp [stilemanref01_Do.j0], hlen, ?_⟩
      rw [if_neg (by omega), if_neg (by omega), if_neg (by omega), hat]
    · rw [decide_eq_false h5, decide_eq_true (by omega)]
      have : k = 1 ∨ k = 2 ∨ k = 3 ∨ k = 4 ∨ k = 5 := by omega
      rcases this with rfl | rfl | rfl | rfl | rfl
      · exact ⟨1, c, x, y, o, l, by simp [stilemanref01_Do.j0, stilemanref01_Do.j1, stilemanref01_Do.j2, hlt, hat], hlen, by simpa using hat⟩
      · exact ⟨2, c, x, y, o, l.set c x, by simp [stilemanref01_Do.j0, stilemanref01_Do.j1, stilemanref01_Do.j2, hlt, hat], hsl _, by simpa using hrd x⟩
      · exact ⟨3, c, x, y, o, l.set c ((o + x) % 4294967296), by simp [stilemanref01_Do.j0, stilemanref01_Do.j1, stilemanref01_Do.j2, hlt, hat], hsl _, by simpa using hrd _⟩
      · exact ⟨4, c, x, y, o, l.set c x, by simp [stilemanref01_Do.j0, stilemanref01_Do.j1, stilemanref01_Do.j2, hlt, hat], hsl _, by simpa using hrd x⟩
      · by_cases e : o = x
        · exact ⟨5, c, x, y, o, l.set c y, by simp [stilemanref01_Do.j0, stilemanref01_Do.j1, stilemanref01_Do.j2, hlt, hat, e], hsl _, by simpa [e] using hrd y⟩
        · exact ⟨5, c, x, y, o, l, by simp [stilemanref01_Do.j0, stilemanref01_Do.j1, stilemanref01_Do.j2, hlt, hat, e], hlen, by simpa [e] using hat⟩

/-! walk -/
theorem infoU : (Tryd.prog.info? 46).map (fun i => (i.zero, i.size, i.bytes)) = some (some (.int .u32 0), 1, 4) := by kernel_rfl
set_option maxRecDepth 100000 in
set_option maxHeartbeats 4000000 in
theorem writes_walk (k c x y o : Int) (w : World) (hT : Tabs w) (hx : 0 ≤ x ∧ x < 4294967296) (ho : 0 ≤ o ∧ o < 4294967296) :
    Calls Tryd.prog 7 #[.agg #[.int .i64 k, .int .i64 c, .int .u32 x, .int .u32 y, .int .u32 o]] w fun e w' => e = .returned (.bool true) ∧ Below w.heap.size w w' := by
  replace hT := Lib.hid hT
  by_cases hc : c < 0 ∨ c > 100
  · obtain ⟨cc, hcc⟩ : ∃ cc : Int, cc = 0 := ⟨_, rfl⟩
    have hlo : 0 ≤ cc := by omega
    have hhi : cc ≤ 100 := by omega
    obtain ⟨w0, hw0⟩ : ∃ w0 : World, w0 = w.alloc (.cells #[.int .i64 k, .int .i64 0, .int .u32 x, .int .u32 y, .int .u32 o] 48) := ⟨_, rfl⟩
    obtain ⟨b, hbb⟩ : ∃ b, b = w.heap.size := ⟨_, rfl⟩
    have hs0 : w0.heap.size = w.heap.size + 1 := by rw [hw0]; simp
    have hb0 : b < w0.heap.size := by omega
    have h0 := heap_alloc_new w (.cells #[.int .i64 k, .int .i64 0, .int .u32 x, .int .u32 y, .int .u32 o] 48)
    rw [← hw0, ← hbb] at h0
    have hBw : Below w.heap.size w w0 := by rw [hw0]; exact below_alloc (Below.refl _ _) _
    have fin : ∀ W : World, Below w0.heap.size w0 W → Below w.heap.size w W := fun W hW => below_then hBw hBw.size hW
    replace hBw := Lib.hid hBw
    replace fin := Lib.hid fin
    replace hs0 := Lib.hid hs0
    obtain ⟨r1, r2, r3, r4, r5, r7, hdo, hl7, hr7⟩ := do_f k cc.toNat x y o
    rw [show ((cc.toNat : Nat) : Int) = cc by omega] at hdo hr7
    replace hdo := Lib.hid hdo
    replace hr7 := Lib.hid hr7
    have hpl := Lib.hid (plain_law k x y o hx ho)
    rw [← hcc] at h0
    replace h0 := Lib.hid h0
    replace hcc := Lib.hid hcc
    by_cases hn : c < 0
    · have d1 : decide (c < 0) = true := by simpa using hn
      go_enter Tryd.func7, Tryd.ntmps7
      go_upto_region 3 with (fail)
      rw [← hw0, ← hbb]
      replace hw0 := Lib.hid hw0
      replace hbb := Lib.hid hbb
      have q1 := cell_of_heap (j := 1) h0.out rfl
      have q4 := cell_of_heap (j := 4) h0.out rfl
      go_upto_region 4 with ((with_reducible refine gate_dst (N := 18) rfl ?_); refine Kd.R_make (Kd.int .u32) (w0 := w0) w0.heap.size 46 rfl (N := 18) rfl 52 (.tmp 17) (.tmp 17) rfl (cc + 1) rfl rfl Tryd.underlying52 (.int .u32 0) 4 infoU rfl (by decide) (by omega) (0 : Int) (ok := fun _ => True) (okp := fun _ => False) rfl (fun _ hk => hk.elim) trivial (by omega) (by omega) (Below.refl _ _) (Nat.le_refl _) ?_; intro v1 w1 hR1 hB1 _ _)
      obtain ⟨g, cap, rfl, _⟩ := Kd.R_form hR1 (by simp; omega)
      have hlen : (List.replicate (cc + 1).toNat (0 : Int)).length = (cc + 1).toNat := by simp
      have hcn : (cc + 1).toNat = cc.toNat + 1 := by omega
      rw [hlen, hcn] at hR1
      obtain ⟨hq, hf⟩ := Kd.R_celln (0 : Int) hR1 cc hlo (by omega)
      have h1 := (hB1.block b hb0).trans h0.out
      have q1 := cell_of_heap (j := 1) h1 rfl
      have q4 := cell_of_heap (j := 4) h1 rfl
      have hgb : w0.heap.size ≤ g := by obtain ⟨hg1, _⟩ := ‹_ ∧ g < w1.heap.size ∧ _›; exact hg1
      have hR2 : Kd.R (Kd.int .u32) 46 (w1.setCell ⟨g, cc.toNat, none⟩ (.int .u32 o)) w0.heap.size (fun _ => True) (.slice (some ⟨g, 0, none⟩) (cc.toNat + 1) cap) (row cc.toNat o) := by
        have := Kd.R_putn hR1 cc o
        exact this
      have hB2 : Below w0.heap.size w0 (w1.setCell ⟨g, cc.toNat, none⟩ (.int .u32 o)) := hB1.setCell (by simpa using hgb) _
      rw [hlen, hcn]
      replace hlen := Lib.hid hlen
      replace hcn := Lib.hid hcn
      replace hR1 := Lib.hid hR1
      have h2 := (hB2.block b hb0).trans h0.out
      have p0 := cell_of_heap (j := 0) h2 rfl
      have p1 := cell_of_heap (j := 1) h2 rfl
      have p2 := cell_of_heap (j := 2) h2 rfl
      have p3 := cell_of_heap (j := 3) h2 rfl
      have p4 := cell_of_heap (j := 4) h2 rfl
      have hltz : cc < ((cc.toNat + 1 : Nat) : Int) := by omega
      go_upto_region 6 with (go_at_call 35; refine (stilemanref01_Do.calls 5 (fun _ => True) _ (row cc.toNat o) k cc x y o r1 r2 r3 r4 r5 (okD k) r7 w0 _ hB2 hR2 hdo.out).mono ?_; rintro e w3 ⟨rfl, hR3, hB3, _⟩; replace hR3 := Lib.hid hR3)
      obtain ⟨_, hgc, hC3⟩ := Kd.R_reads' hR3.out
      obtain ⟨hq3, hf3⟩ := Kd.R_celln (0 : Int) hR3.out cc hlo (by rw [hl7] at *; omega)
      rw [show rdOf (0 : Int) r7 cc = newv k x y o from hr7.out] at hq3
      have hB3' : Below w0.heap.size w0 (w3.alloc (.cells #[.int .i64 r1, .int .i64 r2, .int .u32 r3, .int .u32 r4, .int .u32 r5] 48)) := below_alloc hB3 _
      have hBz := below_drew hB3'
      have hz := (hBz.block b hb0).trans h0.out
      have hqz : (w3.alloc (.cells #[.int .i64 r1, .int .i64 r2, .int .u32 r3, .int .u32 r4, .int .u32 r5] 48)).drew.cell? ⟨g, cc.toNat, none⟩ = some (.int .u32 (newv k x y o)) := by
        have hk := (below_drew (below_alloc (Below.refl w3.heap.size w3) (.cells #[.int .i64 r1, .int .i64 r2, .int .u32 r3, .int .u32 r4, .int .u32 r5] 48))).cell (p := ⟨g, cc.toNat, none⟩) (lt_of_cell hq3)
        exact hk.trans hq3
      clear hq3 hf3 hC3 hq hf h1 h2 p0 p1 p2 p3 p4 q1 q4 hgc hgb hR2 hB1 hB2 hB3 hB3'
      have hltr : cc < (r7.length : Int) := by omega
      replace hl7 := Lib.hid hl7
      cases hok : okD k with
      | false =>
        have hw : wrv k x y o = false := by rw [hpl.out, hok]; rfl
        replace hok := Lib.hid hok
        refine start_ (n := 18) (S := fun w' => w'.cell? ⟨b, 0, none⟩ = some (.int .i64 k) ∧ w'.cell? ⟨b, 1, none⟩ = some (.int .i64 cc) ∧ w'.cell? ⟨b, 2, none⟩ = some (.int .u32 x) ∧ w'.cell? ⟨b, 3, none⟩ = some (.int .u32 y) ∧ w'.cell? ⟨b, 4, none⟩ = some (.int .u32 o) ∧ w'.cell? ⟨g, cc.toNat, none⟩ = some (.int .u32 (newv k x y o))) (ds := []) #[false, false, false, false, false, false, false, false, false, false, false, false, false, false, false, false, false, false] (by kernel_rfl) rfl rfl ⟨(cell_of_heap hz rfl), (cell_of_heap hz rfl), (cell_of_heap hz rfl), (cell_of_heap hz rfl), (cell_of_heap hz rfl), hqz⟩ (fun hHeld => ?_)
        refine pure_ (i := 2) (N := some 33) (v := ?_) (a' := ?_) #[false, false, true, false, false, false, false, false, false, false, false, false, false, false, false, false, false, false] rfl rfl (by kernel_rfl) (fun _ _ _ h => h) (Or.inl ⟨by rfl, ?_⟩) ?_ ?_
        rotate_left
        · intro w'
          go_simp
          with_reducible rfl
        rotate_left
        · simp only [Act.put, List.setIfInBounds_toArray, List.set_cons_zero, List.set_cons_succ, i64_w, i32_w]
          rfl
        refine take_ (i := 0) (N := some 31) (v := ?_) (a' := ?_) #[true, false, true, false, false, false, false, false, false, false, false, false, false, false, false, false, false, false] rfl rfl (by kernel_rfl) (fun _ _ _ h => h) (Or.inl ⟨by rfl, ?_⟩) hHeld ?_ ?_
        rotate_left
        · rintro w' ⟨s0, s1, s2, s3, s4, s5⟩
          go_simp
          with_reducible rfl
        rotate_left
        · simp only [Act.put, List.setIfInBounds_toArray, List.set_cons_zero, List.set_cons_succ, i64_w, i32_w]
          rfl
        refine one_ (i := 1) (N := some 32) #[true, true, true, false, false, false, false, false, false, false, false, false, false, false, false, false, false, false] rfl rfl (by kernel_rfl) (by decide) (fun K hK => ?_)
        refine goes_ Tryd.func36 (by kernel_rfl) rfl #[.agg #[.int .i64 k, .int .i64 cc, .int .u32 x, .int .u32 y, .int .u32 o]] (by rfl) rfl rfl (by simp only [List.map_toArray, List.map_cons, List.map_nil]; rfl) ?_
        with_reducible refine (acc_Writes.calls 5 k cc x y o _ _ (writes_f k cc x y o)).mono ?_
        rintro e w8 ⟨rfl, hb8⟩
        refine ⟨_, rfl, ?_⟩
        have hB8 := below_then hBz hBz.size hb8
        have h8 := (hB8.block b hb0).trans h0.out
        have hq8 := (hb8.cell (p := ⟨g, cc.toNat, none⟩) (lt_of_cell hqz)).trans hqz
        refine hK.out _ _ ⟨(cell_of_heap h8 rfl), (cell_of_heap h8 rfl), (cell_of_heap h8 rfl), (cell_of_heap h8 rfl), (cell_of_heap h8 rfl), hq8⟩ (fun hHeld => ?_)
        clear hK K
        refine norm_ (a' := ?_) ?_ ?_
        rotate_left
        · show Act.put _ (some 32) _ = _
          simp only [Act.put, List.setIfInBounds_toArray, List.set_cons_zero, List.set_cons_succ, i64_w, i32_w]
          rfl
        refine pure_ (i := 3) (N := some 34) (v := ?_) (a' := ?_) #[true, true, true, true, false, false, false, false, false, false, false, false, false, false, false, false, false, false] rfl rfl (by kernel_rfl) (fun _ _ _ h => h) (Or.inl ⟨by rfl, ?_⟩) ?_ ?_
        rotate_left
        · intro w'
          go_simp
          with_reducible rfl
        rotate_left
        · simp only [Act.put, List.setIfInBounds_toArray, List.set_cons_zero, List.set_cons_succ, i64_w, i32_w]
          rfl
        refine pure_ (i := 4) (N := some 35) (v := undef) (a' := ?_) #[true, true, true, true, true, false, false, false, false, false, false, false, false, false, false, false, false, false] rfl rfl (by kernel_rfl) (fun _ _ _ h => h) (Or.inr ⟨by rfl, rfl⟩) ?_ ?_
        rotate_left
        · simp only [Act.put, List.setIfInBounds_toArray, List.set_cons_zero, List.set_cons_succ, i64_w, i32_w]
          rfl
        refine pure_ (i := 5) (N := some 36) (v := undef) (a' := ?_) #[true, true, true, true, true, true, false, false, false, false, false, false, false, false, false, false, false, false] rfl rfl (by kernel_rfl) (fun _ _ _ h => h) (Or.inr ⟨by rfl, rfl⟩) ?_ ?_
        rotate_left
        · simp only [Act.put, List.setIfInBounds_toArray, List.set_cons_zero, List.set_cons_succ, i64_w, i32_w]
          rfl
        refine pure_ (i := 6) (N := some 37) (v := undef) (a' := ?_) #[true, true, true, true, true, true, true, false, false, false, false, false, false, false, false, false, false, false] rfl rfl (by kernel_rfl) (fun _ _ _ h => h) (Or.inr ⟨by rfl, rfl⟩) ?_ ?_
        rotate_left
        · simp only [Act.put, List.setIfInBounds_toArray, List.set_cons_zero, List.set_cons_succ, i64_w, i32_w]
          rfl
        refine pure_ (i := 7) (N := some 38) (v := undef) (a' := ?_) #[true, true, true, true, true, true, true, true, false, false, false, false, false, false, false, false, false, false] rfl rfl (by kernel_rfl) (fun _ _ _ h => h) (Or.inr ⟨by rfl, rfl⟩) ?_ ?_
        rotate_left
        · simp only [Act.put, List.setIfInBounds_toArray, List.set_cons_zero, List.set_cons_succ, i64_w, i32_w]
          rfl
        refine pure_ (i := 8) (N := some 39) (v := undef) (a' := ?_) #[true, true, true, true, true, true, true, true, true, false, false, false, false, false, false, false, false, false] rfl rfl (by kernel_rfl) (fun _ _ _ h => h) (Or.inr ⟨by rfl, rfl⟩) ?_ ?_
        rotate_left
        · simp only [Act.put, List.setIfInBounds_toArray, List.set_cons_zero, List.set_cons_succ, i64_w, i32_w]
          rfl
        refine pure_ (i := 9) (N := some 40) (v := undef) (a' := ?_) #[true, true, true, true, true, true, true, true, true, true, false, false, false, false, false, false, false, false] rfl rfl (by kernel_rfl) (fun _ _ _ h => h) (Or.inr ⟨by rfl, rfl⟩) ?_ ?_
        rotate_left
        · simp only [Act.put, List.setIfInBounds_toArray, List.set_cons_zero, List.set_cons_succ, i64_w, i32_w]
          rfl
        refine pure_ (i := 10) (N := some 41) (v := undef) (a' := ?_) #[true, true, true, true, true, true, true, true, true, true, true, false, false, false, false, false, false, false] rfl rfl (by kernel_rfl) (fun _ _ _ h => h) (Or.inr ⟨by rfl, rfl⟩) ?_ ?_
        rotate_left
        · simp only [Act.put, List.setIfInBounds_toArray, List.set_cons_zero, List.set_cons_succ, i64_w, i32_w]
          rfl
        refine pure_ (i := 11) (N := some 42) (v := undef) (a' := ?_) #[true, true, true, true, true, true, true, true, true, true, true, true, false, false, false, false, false, false] rfl rfl (by kernel_rfl) (fun _ _ _ h => h) (Or.inr ⟨by rfl, rfl⟩) ?_ ?_
        rotate_left
        · simp only [Act.put, List.setIfInBounds_toArray, List.set_cons_zero, List.set_cons_succ, i64_w, i32_w]
          rfl
        refine pure_ (i := 12) (N := some 43) (v := ?_) (a' := ?_) #[true, true, true, true, true, true, true, true, true, true, true, true, true, false, false, false, false, false] rfl rfl (by kernel_rfl) (fun _ _ _ h => h) (Or.inl ⟨by rfl, ?_⟩) ?_ ?_
        rotate_left
        · intro w'
          go_simp
          with_reducible rfl
        rotate_left
        · simp only [Act.put, List.setIfInBounds_toArray, List.set_cons_zero, List.set_cons_succ, i64_w, i32_w]
          rfl
        refine pure_ (i := 13) (N := some 44) (v := ?_) (a' := ?_) #[true, true, true, true, true, true, true, true, true, true, true, true, true, true, false, false, false, false] rfl rfl (by kernel_rfl) (fun _ _ _ h => h) (Or.inl ⟨by rfl, ?_⟩) ?_ ?_
        rotate_left
        · intro w'
          go_simp
          with_reducible rfl
        rotate_left
        · simp only [Act.put, List.setIfInBounds_toArray, List.set_cons_zero, List.set_cons_succ, i64_w, i32_w]
          rfl
        refine pure_ (i := 14) (N := some 45) (v := ?_) (a' := ?_) #[true, true, true, true, true, true, true, true, true, true, true, true, true, true, true, false, false, false] rfl rfl (by kernel_rfl) (fun _ _ _ h => h) (Or.inl ⟨by rfl, ?_⟩) ?_ ?_
        rotate_left
        · intro w'
          go_simp
          with_reducible rfl
        rotate_left
        · simp only [Act.put, List.setIfInBounds_toArray, List.set_cons_zero, List.set_cons_succ, i64_w, i32_w]
          rfl
        refine one_ (i := 15) (N := some 46) #[true, true, true, true, true, true, true, true, true, true, true, true, true, true, true, true, false, false] rfl rfl (by kernel_rfl) (by decide) (fun K hK => ?_)
        refine goes_ Tryd.func34 (by kernel_rfl) rfl #[] (by rfl) rfl rfl (by simp only [List.map_toArray, List.map_nil]) ?_
        with_reducible refine (awake_walk _ (hT.out.mono hBw.out hB8)).mono ?_
        rintro e w9 ⟨rfl, hb9⟩
        refine ⟨_, rfl, ?_⟩
        have hB9 := below_then hB8 hB8.size hb9
        have h9 := (hB9.block b hb0).trans h0.out
        have hq9 := (hb9.cell (p := ⟨g, cc.toNat, none⟩) (lt_of_cell hq8)).trans hq8
        refine hK.out _ _ ⟨(cell_of_heap h9 rfl), (cell_of_heap h9 rfl), (cell_of_heap h9 rfl), (cell_of_heap h9 rfl), (cell_of_heap h9 rfl), hq9⟩ (fun hHeld => ?_)
        clear hK K
        refine norm_ (a' := ?_) ?_ ?_
        rotate_left
        · show Act.put _ (some 46) _ = _
          simp only [Act.put, List.setIfInBounds_toArray, List.set_cons_zero, List.set_cons_succ, i64_w, i32_w]
          rfl
        refine pure_ (i := 16) (N := some 47) (v := ?_) (a' := ?_) #[true, true, true, true, true, true, true, true, true, true, true, true, true, true, true, true, true, false] rfl rfl (by kernel_rfl) (fun _ _ _ h => h) (Or.inl ⟨by rfl, ?_⟩) ?_ ?_
        rotate_left
        · intro w'
          go_simp
          with_reducible rfl
        rotate_left
        · simp only [Act.put, List.setIfInBounds_toArray, List.set_cons_zero, List.set_cons_succ, i64_w, i32_w]
          rfl
        refine pure_ (i := 17) (N := some 2) (v := ?_) (a' := ?_) #[true, true, true, true, true, true, true, true, true, true, true, true, true, true, true, true, true, true] rfl rfl (by kernel_rfl) (fun _ _ _ h => h) (Or.inl ⟨by rfl, ?_⟩) ?_ ?_
        rotate_left
        · intro w'
          go_simp
          with_reducible rfl
        rotate_left
        · simp only [Act.put, List.setIfInBounds_toArray, List.set_cons_zero, List.set_cons_succ, i64_w, i32_w]
          rfl
        refine done_ (by kernel_rfl) ?_
        go_wp2
        go_ret
        exact ⟨by simp, fin.out _ hB9⟩
      | true =>
        have hw : wrv k x y o = (newv k x y o != o) := by rw [hpl.out, hok, Bool.true_and]
        replace hok := Lib.hid hok
        refine start_ (n := 18) (S := fun w' => w'.cell? ⟨b, 0, none⟩ = some (.int .i64 k) ∧ w'.cell? ⟨b, 1, none⟩ = some (.int .i64 cc) ∧ w'.cell? ⟨b, 2, none⟩ = some (.int .u32 x) ∧ w'.cell? ⟨b, 3, none⟩ = some (.int .u32 y) ∧ w'.cell? ⟨b, 4, none⟩ = some (.int .u32 o) ∧ w'.cell? ⟨g, cc.toNat, none⟩ = some (.int .u32 (newv k x y o))) (ds := []) #[false, false, false, false, false, false, false, false, false, false, false, false, false, false, false, false, false, false] (by kernel_rfl) rfl rfl ⟨(cell_of_heap hz rfl), (cell_of_heap hz rfl), (cell_of_heap hz rfl), (cell_of_heap hz rfl), (cell_of_heap hz rfl), hqz⟩ (fun hHeld => ?_)
        refine pure_ (i := 2) (N := some 33) (v := ?_) (a' := ?_) #[false, false, true, false, false, false, false, false, false, false, false, false, false, false, false, false, false, false] rfl rfl (by kernel_rfl) (fun _ _ _ h => h) (Or.inl ⟨by rfl, ?_⟩) ?_ ?_
        rotate_left
        · intro w'
          go_simp
          with_reducible rfl
        rotate_left
        · simp only [Act.put, List.setIfInBounds_toArray, List.set_cons_zero, List.set_cons_succ, i64_w, i32_w]
          rfl
        refine take_ (i := 0) (N := some 31) (v := ?_) (a' := ?_) #[true, false, true, false, false, false, false, false, false, false, false, false, false, false, false, false, false, false] rfl rfl (by kernel_rfl) (fun _ _ _ h => h) (Or.inl ⟨by rfl, ?_⟩) hHeld ?_ ?_
        rotate_left
        · rintro w' ⟨s0, s1, s2, s3, s4, s5⟩
          go_simp
          with_reducible rfl
        rotate_left
        · simp only [Act.put, List.setIfInBounds_toArray, List.set_cons_zero, List.set_cons_succ, i64_w, i32_w]
          rfl
        refine one_ (i := 1) (N := some 32) #[true, true, true, false, false, false, false, false, false, false, false, false, false, false, false, false, false, false] rfl rfl (by kernel_rfl) (by decide) (fun K hK => ?_)
        refine goes_ Tryd.func36 (by kernel_rfl) rfl #[.agg #[.int .i64 k, .int .i64 cc, .int .u32 x, .int .u32 y, .int .u32 o]] (by rfl) rfl rfl (by simp only [List.map_toArray, List.map_cons, List.map_nil]; rfl) ?_
        with_reducible refine (acc_Writes.calls 5 k cc x y o _ _ (writes_f k cc x y o)).mono ?_
        rintro e w8 ⟨rfl, hb8⟩
        refine ⟨_, rfl, ?_⟩
        have hB8 := below_then hBz hBz.size hb8
        have h8 := (hB8.block b hb0).trans h0.out
        have hq8 := (hb8.cell (p := ⟨g, cc.toNat, none⟩) (lt_of_cell hqz)).trans hqz
        refine hK.out _ _ ⟨(cell_of_heap h8 rfl), (cell_of_heap h8 rfl), (cell_of_heap h8 rfl), (cell_of_heap h8 rfl), (cell_of_heap h8 rfl), hq8⟩ (fun hHeld => ?_)
        clear hK K
        refine norm_ (a' := ?_) ?_ ?_
        rotate_left
        · show Act.put _ (some 32) _ = _
          simp only [Act.put, List.setIfInBounds_toArray, List.set_cons_zero, List.set_cons_succ, i64_w, i32_w]
          rfl
        refine pure_ (i := 3) (N := some 34) (v := ?_) (a' := ?_) #[true, true, true, true, false, false, false, false, false, false, false, false, false, false, false, false, false, false] rfl rfl (by kernel_rfl) (fun _ _ _ h => h) (Or.inl ⟨by rfl, ?_⟩) ?_ ?_
        rotate_left
        · intro w'
          go_simp
          with_reducible rfl
        rotate_left
        · simp only [Act.put, List.setIfInBounds_toArray, List.set_cons_zero, List.set_cons_succ, i64_w, i32_w]
          rfl
        refine pure_ (i := 4) (N := some 35) (v := ?_) (a' := ?_) #[true, true, true, true, true, false, false, false, false, false, false, false, false, false, false, false, false, false] rfl rfl (by kernel_rfl) (fun _ _ _ h => h) (Or.inl ⟨by rfl, ?_⟩) ?_ ?_
        rotate_left
        · intro w'
          go_simp
          with_reducible rfl
        rotate_left
        · simp only [Act.put, List.setIfInBounds_toArray, List.set_cons_zero, List.set_cons_succ, i64_w, i32_w]
          rfl
        refine pure_ (i := 5) (N := some 36) (v := ?_) (a' := ?_) #[true, true, true, true, true, true, false, false, false, false, false, false, false, false, false, false, false, false] rfl rfl (by kernel_rfl) (fun _ _ _ h => h) (Or.inl ⟨by rfl, ?_⟩) ?_ ?_
        rotate_left
        · intro w'
          go_simp
          with_reducible rfl
        rotate_left
        · simp only [Act.put, List.setIfInBounds_toArray, List.set_cons_zero, List.set_cons_succ, i64_w, i32_w]
          rfl
        refine pure_ (i := 9) (N := some 40) (v := ?_) (a' := ?_) #[true, true, true, true, true, true, false, false, false, true, false, false, false, false, false, false, false, false] rfl rfl (by kernel_rfl) (fun _ _ _ h => h) (Or.inl ⟨by rfl, ?_⟩) ?_ ?_
        rotate_left
        · intro w'
          go_simp
          with_reducible rfl
        rotate_left
        · simp only [Act.put, List.setIfInBounds_toArray, List.set_cons_zero, List.set_cons_succ, i64_w, i32_w]
          rfl
        refine take_ (i := 6) (N := some 37) (v := ?_) (a' := ?_) #[true, true, true, true, true, true, true, false, false, true, false, false, false, false, false, false, false, false] rfl rfl (by kernel_rfl) (fun _ _ _ h => h) (Or.inl ⟨by rfl, ?_⟩) hHeld ?_ ?_
        rotate_left
        · rintro w' ⟨s0, s1, s2, s3, s4, s5⟩
          go_simp
          with_reducible rfl
        rotate_left
        · simp only [Act.put, List.setIfInBounds_toArray, List.set_cons_zero, List.set_cons_succ, i64_w, i32_w]
          rfl
        refine pure_ (i := 7) (N := some 38) (v := ?_) (a' := ?_) #[true, true, true, true, true, true, true, true, false, true, false, false, false, false, false, false, false, false] rfl rfl (by kernel_rfl) (fun _ _ _ h => h) (Or.inl ⟨by rfl, ?_⟩) ?_ ?_
        rotate_left
        · intro w'
          go_simp
          with_reducible rfl
        rotate_left
        · simp only [Act.put, List.setIfInBounds_toArray, List.set_cons_zero, List.set_cons_succ, i64_w, i32_w]
          rfl
        refine take_ (i := 8) (N := some 39) (v := ?_) (a' := ?_) #[true, true, true, true, true, true, true, true, true, true, false, false, false, false, false, false, false, false] rfl rfl (by kernel_rfl) (fun _ _ _ h => h) (Or.inl ⟨by rfl, ?_⟩) hHeld ?_ ?_
        rotate_left
        · rintro w' ⟨s0, s1, s2, s3, s4, s5⟩
          go_simp
          with_reducible rfl
        rotate_left
        · simp only [Act.put, List.setIfInBounds_toArray, List.set_cons_zero, List.set_cons_succ, i64_w, i32_w]
          rfl
        refine take_ (i := 10) (N := some 41) (v := ?_) (a' := ?_) #[true, true, true, true, true, true, true, true, true, true, true, false, false, false, false, false, false, false] rfl rfl (by kernel_rfl) (fun _ _ _ h => h) (Or.inl ⟨by rfl, ?_⟩) hHeld ?_ ?_
        rotate_left
        · rintro w' ⟨s0, s1, s2, s3, s4, s5⟩
          go_simp
          with_reducible rfl
        rotate_left
        · simp only [Act.put, List.setIfInBounds_toArray, List.set_cons_zero, List.set_cons_succ, i64_w, i32_w]
          rfl
        refine pure_ (i := 11) (N := some 42) (v := ?_) (a' := ?_) #[true, true, true, true, true, true, true, true, true, true, true, true, false, false, false, false, false, false] rfl rfl (by kernel_rfl) (fun _ _ _ h => h) (Or.inl ⟨by rfl, ?_⟩) ?_ ?_
        rotate_left
        · intro w'
          go_simp
          with_reducible rfl
        rotate_left
        · simp only [Act.put, List.setIfInBounds_toArray, List.set_cons_zero, List.set_cons_succ, i64_w, i32_w]
          rfl
        refine pure_ (i := 12) (N := some 43) (v := ?_) (a' := ?_) #[true, true, true, true, true, true, true, true, true, true, true, true, true, false, false, false, false, false] rfl rfl (by kernel_rfl) (fun _ _ _ h => h) (Or.inl ⟨by rfl, ?_⟩) ?_ ?_
        rotate_left
        · intro w'
          go_simp
          with_reducible rfl
        rotate_left
        · simp only [Act.put, List.setIfInBounds_toArray, List.set_cons_zero, List.set_cons_succ, i64_w, i32_w]
          rfl
        refine pure_ (i := 13) (N := some 44) (v := ?_) (a' := ?_) #[true, true, true, true, true, true, true, true, true, true, true, true, true, true, false, false, false, false] rfl rfl (by kernel_rfl) (fun _ _ _ h => h) (Or.inl ⟨by rfl, ?_⟩) ?_ ?_
        rotate_left
        · intro w'
          go_simp
          with_reducible rfl
        rotate_left
        · simp only [Act.put, List.setIfInBounds_toArray, List.set_cons_zero, List.set_cons_succ, i64_w, i32_w]
          rfl
        refine pure_ (i := 14) (N := some 45) (v := ?_) (a' := ?_) #[true, true, true, true, true, true, true, true, true, true, true, true, true, true, true, false, false, false] rfl rfl (by kernel_rfl) (fun _ _ _ h => h) (Or.inl ⟨by rfl, ?_⟩) ?_ ?_
        rotate_left
        · intro w'
          go_simp
          with_reducible rfl
        rotate_left
        · simp only [Act.put, List.setIfInBounds_toArray, List.set_cons_zero, List.set_cons_succ, i64_w, i32_w]
          rfl
        refine one_ (i := 15) (N := some 46) #[true, true, true, true, true, true, true, true, true, true, true, true, true, true, true, true, false, false] rfl rfl (by kernel_rfl) (by decide) (fun K hK => ?_)
        refine goes_ Tryd.func34 (by kernel_rfl) rfl #[] (by rfl) rfl rfl (by simp only [List.map_toArray, List.map_nil]) ?_
        with_reducible refine (awake_walk _ (hT.out.mono hBw.out hB8)).mono ?_
        rintro e w9 ⟨rfl, hb9⟩
        refine ⟨_, rfl, ?_⟩
        have hB9 := below_then hB8 hB8.size hb9
        have h9 := (hB9.block b hb0).trans h0.out
        have hq9 := (hb9.cell (p := ⟨g, cc.toNat, none⟩) (lt_of_cell hq8)).trans hq8
        refine hK.out _ _ ⟨(cell_of_heap h9 rfl), (cell_of_heap h9 rfl), (cell_of_heap h9 rfl), (cell_of_heap h9 rfl), (cell_of_heap h9 rfl), hq9⟩ (fun hHeld => ?_)
        clear hK K
        refine norm_ (a' := ?_) ?_ ?_
        rotate_left
        · show Act.put _ (some 46) _ = _
          simp only [Act.put, List.setIfInBounds_toArray, List.set_cons_zero, List.set_cons_succ, i64_w, i32_w]
          rfl
        refine pure_ (i := 16) (N := some 47) (v := ?_) (a' := ?_) #[true, true, true, true, true, true, true, true, true, true, true, true, true, true, true, true, true, false] rfl rfl (by kernel_rfl) (fun _ _ _ h => h) (Or.inl ⟨by rfl, ?_⟩) ?_ ?_
        rotate_left
        · intro w'
          go_simp
          with_reducible rfl
        rotate_left
        · simp only [Act.put, List.setIfInBounds_toArray, List.set_cons_zero, List.set_cons_succ, i64_w, i32_w]
          rfl
        refine pure_ (i := 17) (N := some 2) (v := ?_) (a' := ?_) #[true, true, true, true, true, true, true, true, true, true, true, true, true, true, true, true, true, true] rfl rfl (by kernel_rfl) (fun _ _ _ h => h) (Or.inl ⟨by rfl, ?_⟩) ?_ ?_
        rotate_left
        · intro w'
          go_simp
          with_reducible rfl
        rotate_left
        · simp only [Act.put, List.setIfInBounds_toArray, List.set_cons_zero, List.set_cons_succ, i64_w, i32_w]
          rfl
        refine done_ (by kernel_rfl) ?_
        go_wp2
        go_ret
        exact ⟨by simp, fin.out _ hB9⟩
    · have d1 : decide (c < 0) = false := by simpa using hn
      have d2 : decide (c > 100) = true := by simp; omega
      go_enter Tryd.func7, Tryd.ntmps7
      go_upto_region 3 with (fail)
      rw [← hw0, ← hbb]
      replace hw0 := Lib.hid hw0
      replace hbb := Lib.hid hbb
      have q1 := cell_of_heap (j := 1) h0.out rfl
      have q4 := cell_of_heap (j := 4) h0.out rfl
      go_upto_region 4 with ((with_reducible refine gate_dst (N := 18) rfl ?_); refine Kd.R_make (Kd.int .u32) (w0 := w0) w0.heap.size 46 rfl (N := 18) rfl 52 (.tmp 17) (.tmp 17) rfl (cc + 1) rfl rfl Tryd.underlying52 (.int .u32 0) 4 infoU rfl (by decide) (by omega) (0 : Int) (ok := fun _ => True) (okp := fun _ => False) rfl (fun _ hk => hk.elim) trivial (by omega) (by omega) (Below.refl _ _) (Nat.le_refl _) ?_; intro v1 w1 hR1 hB1 _ _)
      obtain ⟨g, cap, rfl, _⟩ := Kd.R_form hR1 (by simp; omega)
      have hlen : (List.replicate (cc + 1).toNat (0 : Int)).length = (cc + 1).toNat := by simp
      have hcn : (cc + 1).toNat = cc.toNat + 1 := by omega
      rw [hlen, hcn] at hR1
      obtain ⟨hq, hf⟩ := Kd.R_celln (0 : Int) hR1 cc hlo (by omega)
      have h1 := (hB1.block b hb0).trans h0.out
      have q1 := cell_of_heap (j := 1) h1 rfl
      have q4 := cell_of_heap (j := 4) h1 rfl
      have hgb : w0.heap.size ≤ g := by obtain ⟨hg1, _⟩ := ‹_ ∧ g < w1.heap.size ∧ _›; exact hg1
      have hR2 : Kd.R (Kd.int .u32) 46 (w1.setCell ⟨g, cc.toNat, none⟩ (.int .u32 o)) w0.heap.size (fun _ => True) (.slice (some ⟨g, 0, none⟩) (cc.toNat + 1) cap) (row cc.toNat o) := by
        have := Kd.R_putn hR1 cc o
        exact this
      have hB2 : Below w0.heap.size w0 (w1.setCell ⟨g, cc.toNat, none⟩ (.int .u32 o)) := hB1.setCell (by simpa using hgb) _
      rw [hlen, hcn]
      replace hlen := Lib.hid hlen
      replace hcn := Lib.hid hcn
      replace hR1 := Lib.hid hR1
      have h2 := (hB2.block b hb0).trans h0.out
      have p0 := cell_of_heap (j := 0) h2 rfl
      have p1 := cell_of_heap (j := 1) h2 rfl
      have p2 := cell_of_heap (j := 2) h2 rfl
      have p3 := cell_of_heap (j := 3) h2 rfl
      have p4 := cell_of_heap (j := 4) h2 rfl
      have hltz : cc < ((cc.toNat + 1 : Nat) : Int) := by omega
      go_upto_region 6 with (go_at_call 35; refine (stilemanref01_Do.calls 5 (fun _ => True) _ (row cc.toNat o) k cc x y o r1 r2 r3 r4 r5 (okD k) r7 w0 _ hB2 hR2 hdo.out).mono ?_; rintro e w3 ⟨rfl, hR3, hB3, _⟩; replace hR3 := Lib.hid hR3)
      obtain ⟨_, hgc, hC3⟩ := Kd.R_reads' hR3.out
      obtain ⟨hq3, hf3⟩ := Kd.R_celln (0 : Int) hR3.out cc hlo (by rw [hl7] at *; omega)
      rw [show rdOf (0 : Int) r7 cc = newv k x y o from hr7.out] at hq3
      have hB3' : Below w0.heap.size w0 (w3.alloc (.cells #[.int .i64 r1, .int .i64 r2, .int .u32 r3, .int .u32 r4, .int .u32 r5] 48)) := below_alloc hB3 _
      have hBz := below_drew hB3'
      have hz := (hBz.block b hb0).trans h0.out
      have hqz : (w3.alloc (.cells #[.int .i64 r1, .int .i64 r2, .int .u32 r3, .int .u32 r4, .int .u32 r5] 48)).drew.cell? ⟨g, cc.toNat, none⟩ = some (.int .u32 (newv k x y o)) := by
        have hk := (below_drew (below_alloc (Below.refl w3.heap.size w3) (.cells #[.int .i64 r1, .int .i64 r2, .int .u32 r3, .int .u32 r4, .int .u32 r5] 48))).cell (p := ⟨g, cc.toNat, none⟩) (lt_of_cell hq3)
        exact hk.trans hq3
      clear hq3 hf3 hC3 hq hf h1 h2 p0 p1 p2 p3 p4 q1 q4 hgc hgb hR2 hB1 hB2 hB3 hB3'
      have hltr : cc < (r7.length : Int) := by omega
      replace hl7 := Lib.hid hl7
      cases hok : okD k with
      | false =>
        have hw : wrv k x y o = false := by rw [hpl.out, hok]; rfl
        replace hok := Lib.hid hok
        refine start_ (n := 18) (S := fun w' => w'.cell? ⟨b, 0, none⟩ = some (.int .i64 k) ∧ w'.cell? ⟨b, 1, none⟩ = some (.int .i64 cc) ∧ w'.cell? ⟨b, 2, none⟩ = some (.int .u32 x) ∧ w'.cell? ⟨b, 3, none⟩ = some (.int .u32 y) ∧ w'.cell? ⟨b, 4, none⟩ = some (.int .u32 o) ∧ w'.cell? ⟨g, cc.toNat, none⟩ = some (.int .u32 (newv k x y o))) (ds := []) #[false, false, false, false, false, false, false, false, false, false, false, false, false, false, false, false, false, false] (by kernel_rfl) rfl rfl ⟨(cell_of_heap hz rfl), (cell_of_heap hz rfl), (cell_of_heap hz rfl), (cell_of_heap hz rfl), (cell_of_heap hz rfl), hqz⟩ (fun hHeld => ?_)
        refine pure_ (i := 2) (N := some 33) (v := ?_) (a' := ?_) #[false, false, true, false, false, false, false, false, false, false, false, false, false, false, false, false, false, false] rfl rfl (by kernel_rfl) (fun _ _ _ h => h) (Or.inl ⟨by rfl, ?_⟩) ?_ ?_
        rotate_left
        · intro w'
          go_simp
          with_reducible rfl
        rotate_left
        · simp only [Act.put, List.setIfInBounds_toArray, List.set_cons_zero, List.set_cons_succ, i64_w, i32_w]
          rfl
        refine take_ (i := 0) (N := some 31) (v := ?_) (a' := ?_) #[true, false, true, false, false, false, false, false, false, false, false, false, false, false, false, false, false, false] rfl rfl (by kernel_rfl) (fun _ _ _ h => h) (Or.inl ⟨by rfl, ?_⟩) hHeld ?_ ?_
        rotate_left
        · rintro w' ⟨s0, s1, s2, s3, s4, s5⟩
          go_simp
          with_reducible rfl
        rotate_left
        · simp only [Act.put, List.setIfInBounds_toArray, List.set_cons_zero, List.set_cons_succ, i64_w, i32_w]
          rfl
        refine one_ (i := 1) (N := some 32) #[true, true, true, false, false, false, false, false, false, false, false, false, false, false, false, false, false, false] rfl rfl (by kernel_rfl) (by decide) (fun K hK => ?_)
        refine goes_ Tryd.func36 (by kernel_rfl) rfl #[.agg #[.int .i64 k, .int .i64 cc, .int .u32 x, .int .u32 y, .int .u32 o]] (by rfl) rfl rfl (by simp only [List.map_toArray, List.map_cons, List.map_nil]; rfl) ?_
        with_reducible refine (acc_Writes.calls 5 k cc x y o _ _ (writes_f k cc x y o)).mono ?_
        rintro e w8 ⟨rfl, hb8⟩
        refine ⟨_, rfl, ?_⟩
        have hB8 := below_then hBz hBz.size hb8
        have h8 := (hB8.block b hb0).trans h0.out
        have hq8 := (hb8.cell (p := ⟨g, cc.toNat, none⟩) (lt_of_cell hqz)).trans hqz
        refine hK.out _ _ ⟨(cell_of_heap h8 rfl), (cell_of_heap h8 rfl), (cell_of_heap h8 rfl), (cell_of_heap h8 rfl), (cell_of_heap h8 rfl), hq8⟩ (fun hHeld => ?_)
        clear hK K
        refine norm_ (a' := ?_) ?_ ?_
        rotate_left
        · show Act.put _ (some 32) _ = _
          simp only [Act.put, List.setIfInBounds_toArray, List.set_cons_zero, List.set_cons_succ, i64_w, i32_w]
          rfl
        refine pure_ (i := 3) (N := some 34) (v := ?_) (a' := ?_) #[true, true, true, true, false, false, false, false, false, false, false, false, false, false, false, false, false, false] rfl rfl (by kernel_rfl) (fun _ _ _ h => h) (Or.inl ⟨by rfl, ?_⟩) ?_ ?_
        rotate_left
        · intro w'
          go_simp
          with_reducible rfl
        rotate_left
        · simp only [Act.put, List.setIfInBounds_toArray, List.set_cons_zero, List.set_cons_succ, i64_w, i32_w]
          rfl
        refine pure_ (i := 4) (N := some 35) (v := undef) (a' := ?_) #[true, true, true, true, true, false, false, false, false, false, false, false, false, false, false, false, false, false] rfl rfl (by kernel_rfl) (fun _ _ _ h => h) (Or.inr ⟨by rfl, rfl⟩) ?_ ?_
        rotate_left
        · simp only [Act.put, List.setIfInBounds_toArray, List.set_cons_zero, List.set_cons_succ, i64_w, i32_w]
          rfl
        refine pure_ (i := 5) (N := some 36) (v := undef) (a' := ?_) #[true, true, true, true, true, true, false, false, false, false, false, false, false, false, false, false, false, false] rfl rfl (by kernel_rfl) (fun _ _ _ h => h) (Or.inr ⟨by rfl, rfl⟩) ?_ ?_
        rotate_left
        · simp only [Act.put, List.setIfInBounds_toArray, List.set_cons_zero, List.set_cons_succ, i64_w, i32_w]
          rfl
        refine pure_ (i := 6) (N := some 37) (v := undef) (a' := ?_) #[true, true, true, true, true, true, true, false, false, false, false, false, false, false, false, false, false, false] rfl rfl (by kernel_rfl) (fun _ _ _ h => h) (Or.inr ⟨by rfl, rfl⟩) ?_ ?_
        rotate_left
        · simp only [Act.put, List.setIfInBounds_toArray, List.set_cons_zero, List.set_cons_succ, i64_w, i32_w]
          rfl
        refine pure_ (i := 7) (N := some 38) (v := undef) (a' := ?_) #[true, true, true, true, true, true, true, true, false, false, false, false, false, false, false, false, false, false] rfl rfl (by kernel_rfl) (fun _ _ _ h => h) (Or.inr ⟨by rfl, rfl⟩) ?_ ?_
        rotate_left
        · simp only [Act.put, List.setIfInBounds_toArray, List.set_cons_zero, List.set_cons_succ, i64_w, i32_w]
          rfl
        refine pure_ (i := 8) (N := some 39) (v := undef) (a' := ?_) #[true, true, true, true, true, true, true, true, true, false, false, false, false, false, false, false, false, false] rfl rfl (by kernel_rfl) (fun _ _ _ h => h) (Or.inr ⟨by rfl, rfl⟩) ?_ ?_
        rotate_left
        · simp only [Act.put, List.setIfInBounds_toArray, List.set_cons_zero, List.set_cons_succ, i64_w, i32_w]
          rfl
        refine pure_ (i := 9) (N := some 40) (v := undef) (a' := ?_) #[true, true, true, true, true, true, true, true, true, true, false, false, false, false, false, false, false, false] rfl rfl (by kernel_rfl) (fun _ _ _ h => h) (Or.inr ⟨by rfl, rfl⟩) ?_ ?_
        rotate_left
        · simp only [Act.put, List.setIfInBounds_toArray, List.set_cons_zero, List.set_cons_succ, i64_w, i32_w]
          rfl
        refine pure_ (i := 10) (N := some 41) (v := undef) (a' := ?_) #[true, true, true, true, true, true, true, true, true, true, true, false, false, false, false, false, false, false] rfl rfl (by kernel_rfl) (fun _ _ _ h => h) (Or.inr ⟨by rfl, rfl⟩) ?_ ?_
        rotate_left
        · simp only [Act.put, List.setIfInBounds_toArray, List.set_cons_zero, List.set_cons_succ, i64_w, i32_w]
          rfl
        refine pure_ (i := 11) (N := some 42) (v := undef) (a' := ?_) #[true, true, true, true, true, true, true, true, true, true, true, true, false, false, false, false, false, false] rfl rfl (by kernel_rfl) (fun _ _ _ h => h) (Or.inr ⟨by rfl, rfl⟩) ?_ ?_
        rotate_left
        · simp only [Act.put, List.setIfInBounds_toArray, List.set_cons_zero, List.set_cons_succ, i64_w, i32_w]
          rfl
        refine pure_ (i := 12) (N := some 43) (v := ?_) (a' := ?_) #[true, true, true, true, true, true, true, true, true, true, true, true, true, false, false, false, false, false] rfl rfl (by kernel_rfl) (fun _ _ _ h => h) (Or.inl ⟨by rfl, ?_⟩) ?_ ?_
        rotate_left
        · intro w'
          go_simp
          with_reducible rfl
        rotate_left
        · simp only [Act.put, List.setIfInBounds_toArray, List.set_cons_zero, List.set_cons_succ, i64_w, i32_w]
          rfl
        refine pure_ (i := 13) (N := some 44) (v := ?_) (a' := ?_) #[true, true, true, true, true, true, true, true, true, true, true, true, true, true, false, false, false, false] rfl rfl (by kernel_rfl) (fun _ _ _ h => h) (Or.inl ⟨by rfl, ?_⟩) ?_ ?_
        rotate_left
        · intro w'
          go_simp
          with_reducible rfl
        rotate_left
        · simp only [Act.put, List.setIfInBounds_toArray, List.set_cons_zero, List.set_cons_succ, i64_w, i32_w]
          rfl
        refine pure_ (i := 14) (N := some 45) (v := ?_) (a' := ?_) #[true, true, true, true, true, true, true, true, true, true, true, true, true, true, true, false, false, false] rfl rfl (by kernel_rfl) (fun _ _ _ h => h) (Or.inl ⟨by rfl, ?_⟩) ?_ ?_
        rotate_left
        · intro w'
          go_simp
          with_reducible rfl
        rotate_left
        · simp only [Act.put, List.setIfInBounds_toArray, List.set_cons_zero, List.set_cons_succ, i64_w, i32_w]
          rfl
        refine one_ (i := 15) (N := some 46) #[true, true, true, true, true, true, true, true, true, true, true, true, true, true, true, true, false, false] rfl rfl (by kernel_rfl) (by decide) (fun K hK => ?_)
        refine goes_ Tryd.func34 (by kernel_rfl) rfl #[] (by rfl) rfl rfl (by simp only [List.map_toArray, List.map_nil]) ?_
        with_reducible refine (awake_walk _ (hT.out.mono hBw.out hB8)).mono ?_
        rintro e w9 ⟨rfl, hb9⟩
        refine ⟨_, rfl, ?_⟩
        have hB9 := below_then hB8 hB8.size hb9
        have h9 := (hB9.block b hb0).trans h0.out
        have hq9 := (hb9.cell (p := ⟨g, cc.toNat, none⟩) (lt_of_cell hq8)).trans hq8
        refine hK.out _ _ ⟨(cell_of_heap h9 rfl), (cell_of_heap h9 rfl), (cell_of_heap h9 rfl), (cell_of_heap h9 rfl), (cell_of_heap h9 rfl), hq9⟩ (fun hHeld => ?_)
        clear hK K
        refine norm_ (a' := ?_) ?_ ?_
        rotate_left
        · show Act.put _ (some 46) _ = _
          simp only [Act.put, List.setIfInBounds_toArray, List.set_cons_zero, List.set_cons_succ, i64_w, i32_w]
          rfl
        refine pure_ (i := 16) (N := some 47) (v := ?_) (a' := ?_) #[true, true, true, true, true, true, true, true, true, true, true, true, true, true, true, true, true, false] rfl rfl (by kernel_rfl) (fun _ _ _ h => h) (Or.inl ⟨by rfl, ?_⟩) ?_ ?_
        rotate_left
        · intro w'
          go_simp
          with_reducible rfl
        rotate_left
        · simp only [Act.put, List.setIfInBounds_toArray, List.set_cons_zero, List.set_cons_succ, i64_w, i32_w]
          rfl
        refine pure_ (i := 17) (N := some 2) (v := ?_) (a' := ?_) #[true, true, true, true, true, true, true, true, true, true, true, true, true, true, true, true, true, true] rfl rfl (by kernel_rfl) (fun _ _ _ h => h) (Or.inl ⟨by rfl, ?_⟩) ?_ ?_
        rotate_left
        · intro w'
          go_simp
          with_reducible rfl
        rotate_left
        · simp only [Act.put, List.setIfInBounds_toArray, List.set_cons_zero, List.set_cons_succ, i64_w, i32_w]
          rfl
        refine done_ (by kernel_rfl) ?_
        go_wp2
        go_ret
        exact ⟨by simp, fin.out _ hB9⟩
      | true =>
        have hw : wrv k x y o = (newv k x y o != o) := by rw [hpl.out, hok, Bool.true_and]
        replace hok := Lib.hid hok
        refine start_ (n := 18) (S := fun w' => w'.cell? ⟨b, 0, none⟩ = some (.int .i64 k) ∧ w'.cell? ⟨b, 1, none⟩ = some (.int .i64 cc) ∧ w'.cell? ⟨b, 2, none⟩ = some (.int .u32 x) ∧ w'.cell? ⟨b, 3, none⟩ = some (.int .u32 y) ∧ w'.cell? ⟨b, 4, none⟩ = some (.int .u32 o) ∧ w'.cell? ⟨g, cc.toNat, none⟩ = some (.int .u32 (newv k x y o))) (ds := []) #[false, false, false, false, false, false, false, false, false, false, false, false, false, false, false, false, false, false] (by kernel_rfl) rfl rfl ⟨(cell_of_heap hz rfl), (cell_of_heap hz rfl), (cell_of_heap hz rfl), (cell_of_heap hz rfl), (cell_of_heap hz rfl), hqz⟩ (fun hHeld => ?_)
        refine pure_ (i := 2) (N := some 33) (v := ?_) (a' := ?_) #[false, false, true, false, false, false, false, false, false, false, false, false, false, false, false, false, false, false] rfl rfl (by kernel_rfl) (fun _ _ _ h => h) (Or.inl ⟨by rfl, ?_⟩) ?_ ?_
        rotate_left
        · intro w'
          go_simp
          with_reducible rfl
        rotate_left
        · simp only [Act.put, List.setIfInBounds_toArray, List.set_cons_zero, List.set_cons_succ, i64_w, i32_w]
          rfl
        refine take_ (i := 0) (N := some 31) (v := ?_) (a' := ?_) #[true, false, true, false, false, false, false, false, false, false, false, false, false, false, false, false, false, false] rfl rfl (by kernel_rfl) (fun _ _ _ h => h) (Or.inl ⟨by rfl, ?_⟩) hHeld ?_ ?_
        rotate_left
        · rintro w' ⟨s0, s1, s2, s3, s4, s5⟩
          go_simp
          with_reducible rfl
        rotate_left
        · simp only [Act.put, List.setIfInBounds_toArray, List.set_cons_zero, List.set_cons_succ, i64_w, i32_w]
          rfl
        refine one_ (i := 1) (N := some 32) #[true, true, true, false, false, false, false, false, false, false, false, false, false, false, false, false, false, false] rfl rfl (by kernel_rfl) (by decide) (fun K hK => ?_)
        refine goes_ Tryd.func36 (by kernel_rfl) rfl #[.agg #[.int .i64 k, .int .i64 cc, .int .u32 x, .int .u32 y, .int .u32 o]] (by rfl) rfl rfl (by simp only [List.map_toArray, List.map_cons, List.map_nil]; rfl) ?_
        with_reducible refine (acc_Writes.calls 5 k cc x y o _ _ (writes_f k cc x y o)).mono ?_
        rintro e w8 ⟨rfl, hb8⟩
        refine ⟨_, rfl, ?_⟩
        have hB8 := below_then hBz hBz.size hb8
        have h8 := (hB8.block b hb0).trans h0.out
        have hq8 := (hb8.cell (p := ⟨g, cc.toNat, none⟩) (lt_of_cell hqz)).trans hqz
        refine hK.out _ _ ⟨(cell_of_heap h8 rfl), (cell_of_heap h8 rfl), (cell_of_heap h8 rfl), (cell_of_heap h8 rfl), (cell_of_heap h8 rfl), hq8⟩ (fun hHeld => ?_)
        clear hK K
        refine norm_ (a' := ?_) ?_ ?_
        rotate_left
        · show Act.put _ (some 32) _ = _
          simp only [Act.put, List.setIfInBounds_toArray, List.set_cons_zero, List.set_cons_succ, i64_w, i32_w]
          rfl
        refine pure_ (i := 3) (N := some 34) (v := ?_) (a' := ?_) #[true, true, true, true, false, false, false, false, false, false, false, false, false, false, false, false, false, false] rfl rfl (by kernel_rfl) (fun _ _ _ h => h) (Or.inl ⟨by rfl, ?_⟩) ?_ ?_
        rotate_left
        · intro w'
          go_simp
          with_reducible rfl
        rotate_left
        · simp only [Act.put, List.setIfInBounds_toArray, List.set_cons_zero, List.set_cons_succ, i64_w, i32_w]
          rfl
        refine pure_ (i := 4) (N := some 35) (v := ?_) (a' := ?_) #[true, true, true, true, true, false, false, false, false, false, false, false, false, false, false, false, false, false] rfl rfl (by kernel_rfl) (fun _ _ _ h => h) (Or.inl ⟨by rfl, ?_⟩) ?_ ?_
        rotate_left
        · intro w'
          go_simp
          with_reducible rfl
        rotate_left
        · simp only [Act.put, List.setIfInBounds_toArray, List.set_cons_zero, List.set_cons_succ, i64_w, i32_w]
          rfl
        refine pure_ (i := 5) (N := some 36) (v := ?_) (a' := ?_) #[true, true, true, true, true, true, false, false, false, false, false, false, false, false, false, false, false, false] rfl rfl (by kernel_rfl) (fun _ _ _ h => h) (Or.inl ⟨by rfl, ?_⟩) ?_ ?_
        rotate_left
        · intro w'
          go_simp
          with_reducible rfl
        rotate_left
        · simp only [Act.put, List.setIfInBounds_toArray, List.set_cons_zero, List.set_cons_succ, i64_w, i32_w]
          rfl
        refine pure_ (i := 9) (N := some 40) (v := ?_) (a' := ?_) #[true, true, true, true, true, true, false, false, false, true, false, false, false, false, false, false, false, false] rfl rfl (by kernel_rfl) (fun _ _ _ h => h) (Or.inl ⟨by rfl, ?_⟩) ?_ ?_
        rotate_left
        · intro w'
          go_simp
          with_reducible rfl
        rotate_left
        · simp only [Act.put, List.setIfInBounds_toArray, List.set_cons_zero, List.set_cons_succ, i64_w, i32_w]
          rfl
        refine take_ (i := 6) (N := some 37) (v := ?_) (a' := ?_) #[true, true, true, true, true, true, true, false, false, true, false, false, false, false, false, false, false, false] rfl rfl (by kernel_rfl) (fun _ _ _ h => h) (Or.inl ⟨by rfl, ?_⟩) hHeld ?_ ?_
        rotate_left
        · rintro w' ⟨s0, s1, s2, s3, s4, s5⟩
          go_simp
          with_reducible rfl
        rotate_left
        · simp only [Act.put, List.setIfInBounds_toArray, List.set_cons_zero, List.set_cons_succ, i64_w, i32_w]
          rfl
        refine pure_ (i := 7) (N := some 38) (v := ?_) (a' := ?_) #[true, true, true, true, true, true, true, true, false, true, false, false, false, false, false, false, false, false] rfl rfl (by kernel_rfl) (fun _ _ _ h => h) (Or.inl ⟨by rfl, ?_⟩) ?_ ?_
        rotate_left
        · intro w'
          go_simp
          with_reducible rfl
        rotate_left
        · simp only [Act.put, List.setIfInBounds_toArray, List.set_cons_zero, List.set_cons_succ, i64_w, i32_w]
          rfl
        refine take_ (i := 8) (N := some 39) (v := ?_) (a' := ?_) #[true, true, true, true, true, true, true, true, true, true, false, false, false, false, false, false, false, false] rfl rfl (by kernel_rfl) (fun _ _ _ h => h) (Or.inl ⟨by rfl, ?_⟩) hHeld ?_ ?_
        rotate_left
        · rintro w' ⟨s0, s1, s2, s3, s4, s5⟩
          go_simp
          with_reducible rfl
        rotate_left
        · simp only [Act.put, List.setIfInBounds_toArray, List.set_cons_zero, List.set_cons_succ, i64_w, i32_w]
          rfl
        refine take_ (i := 10) (N := some 41) (v := ?_) (a' := ?_) #[true, true, true, true, true, true, true, true, true, true, true, false, false, false, false, false, false, false] rfl rfl (by kernel_rfl) (fun _ _ _ h => h) (Or.inl ⟨by rfl, ?_⟩) hHeld ?_ ?_
        rotate_left
        · rintro w' ⟨s0, s1, s2, s3, s4, s5⟩
          go_simp
          with_reducible rfl
        rotate_left
        · simp only [Act.put, List.setIfInBounds_toArray, List.set_cons_zero, List.set_cons_succ, i64_w, i32_w]
          rfl
        refine pure_ (i := 11) (N := some 42) (v := ?_) (a' := ?_) #[true, true, true, true, true, true, true, true, true, true, true, true, false, false, false, false, false, false] rfl rfl (by kernel_rfl) (fun _ _ _ h => h) (Or.inl ⟨by rfl, ?_⟩) ?_ ?_
        rotate_left
        · intro w'
          go_simp
          with_reducible rfl
        rotate_left
        · simp only [Act.put, List.setIfInBounds_toArray, List.set_cons_zero, List.set_cons_succ, i64_w, i32_w]
          rfl
        refine pure_ (i := 12) (N := some 43) (v := ?_) (a' := ?_) #[true, true, true, true, true, true, true, true, true, true, true, true, true, false, false, false, false, false] rfl rfl (by kernel_rfl) (fun _ _ _ h => h) (Or.inl ⟨by rfl, ?_⟩) ?_ ?_
        rotate_left
        · intro w'
          go_simp
          with_reducible rfl
        rotate_left
        · simp only [Act.put, List.setIfInBounds_toArray, List.set_cons_zero, List.set_cons_succ, i64_w, i32_w]
          rfl
        refine pure_ (i := 13) (N := some 44) (v := ?_) (a' := ?_) #[true, true, true, true, true, true, true, true, true, true, true, true, true, true, false, false, false, false] rfl rfl (by kernel_rfl) (fun _ _ _ h => h) (Or.inl ⟨by rfl, ?_⟩) ?_ ?_
        rotate_left
        · intro w'
          go_simp
          with_reducible rfl
        rotate_left
        · simp only [Act.put, List.setIfInBounds_toArray, List.set_cons_zero, List.set_cons_succ, i64_w, i32_w]
          rfl
        refine pure_ (i := 14) (N := some 45) (v := ?_) (a' := ?_) #[true, true, true, true, true, true, true, true, true, true, true, true, true, true, true, false, false, false] rfl rfl (by kernel_rfl) (fun _ _ _ h => h) (Or.inl ⟨by rfl, ?_⟩) ?_ ?_
        rotate_left
        · intro w'
          go_simp
          with_reducible rfl
        rotate_left
        · simp only [Act.put, List.setIfInBounds_toArray, List.set_cons_zero, List.set_cons_succ, i64_w, i32_w]
          rfl
        refine one_ (i := 15) (N := some 46) #[true, true, true, true, true, true, true, true, true, true, true, true, true, true, true, true, false, false] rfl rfl (by kernel_rfl) (by decide) (fun K hK => ?_)
        refine goes_ Tryd.func34 (by kernel_rfl) rfl #[] (by rfl) rfl rfl (by simp only [List.map_toArray, List.map_nil]) ?_
        with_reducible refine (awake_walk _ (hT.out.mono hBw.out hB8)).mono ?_
        rintro e w9 ⟨rfl, hb9⟩
        refine ⟨_, rfl, ?_⟩
        have hB9 := below_then hB8 hB8.size hb9
        have h9 := (hB9.block b hb0).trans h0.out
        have hq9 := (hb9.cell (p := ⟨g, cc.toNat, none⟩) (lt_of_cell hq8)).trans hq8
        refine hK.out _ _ ⟨(cell_of_heap h9 rfl), (cell_of_heap h9 rfl), (cell_of_heap h9 rfl), (cell_of_heap h9 rfl), (cell_of_heap h9 rfl), hq9⟩ (fun hHeld => ?_)
        clear hK K
        refine norm_ (a' := ?_) ?_ ?_
        rotate_left
        · show Act.put _ (some 46) _ = _
          simp only [Act.put, List.setIfInBounds_toArray, List.set_cons_zero, List.set_cons_succ, i64_w, i32_w]
          rfl
        refine pure_ (i := 16) (N := some 47) (v := ?_) (a' := ?_) #[true, true, true, true, true, true, true, true, true, true, true, true, true, true, true, true, true, false] rfl rfl (by kernel_rfl) (fun _ _ _ h => h) (Or.inl ⟨by rfl, ?_⟩) ?_ ?_
        rotate_left
        · intro w'
          go_simp
          with_reducible rfl
        rotate_left
        · simp only [Act.put, List.setIfInBounds_toArray, List.set_cons_zero, List.set_cons_succ, i64_w, i32_w]
          rfl
        refine pure_ (i := 17) (N := some 2) (v := ?_) (a' := ?_) #[true, true, true, true, true, true, true, true, true, true, true, true, true, true, true, true, true, true] rfl rfl (by kernel_rfl) (fun _ _ _ h => h) (Or.inl ⟨by rfl, ?_⟩) ?_ ?_
        rotate_left
        · intro w'
          go_simp
          with_reducible rfl
        rotate_left
        · simp only [Act.put, List.setIfInBounds_toArray, List.set_cons_zero, List.set_cons_succ, i64_w, i32_w]
          rfl
        refine done_ (by kernel_rfl) ?_
        go_wp2
        go_ret
        exact ⟨by simp, fin.out _ hB9⟩
  · obtain ⟨cc, rfl⟩ : ∃ cc : Int, cc = c := ⟨_, rfl⟩
    have hlo : 0 ≤ cc := by omega
    have hhi : cc ≤ 100 := by omega
    obtain ⟨w0, hw0⟩ : ∃ w0 : World, w0 = w.alloc (.cells #[.int .i64 k, .int .i64 cc, .int .u32 x, .int .u32 y, .int .u32 o] 48) := ⟨_, rfl⟩
    obtain ⟨b, hbb⟩ : ∃ b, b = w.heap.size := ⟨_, rfl⟩
    have hs0 : w0.heap.size = w.heap.size + 1 := by rw [hw0]; simp
    have hb0 : b < w0.heap.size := by omega
    have h0 := heap_alloc_new w (.cells #[.int .i64 k, .int .i64 cc, .int .u32 x, .int .u32 y, .int .u32 o] 48)
    rw [← hw0, ← hbb] at h0
    have hBw : Below w.heap.size w w0 := by rw [hw0]; exact below_alloc (Below.refl _ _) _
    have fin : ∀ W : World, Below w0.heap.size w0 W → Below w.heap.size w W := fun W hW => below_then hBw hBw.size hW
    replace hBw := Lib.hid hBw
    replace fin := Lib.hid fin
    replace hs0 := Lib.hid hs0
    obtain ⟨r1, r2, r3, r4, r5, r7, hdo, hl7, hr7⟩ := do_f k cc.toNat x y o
    rw [show ((cc.toNat : Nat) : Int) = cc by omega] at hdo hr7
    replace hdo := Lib.hid hdo
    replace hr7 := Lib.hid hr7
    have hpl := Lib.hid (plain_law k x y o hx ho)
    replace h0 := Lib.hid h0
    · have d1 : decide (cc < 0) = false := by simp; omega
      have d2 : decide (cc > 100) = false := by simp; omega
      go_enter Tryd.func7, Tryd.ntmps7
      go_upto_region 3 with (fail)
      rw [← hw0, ← hbb]
      replace hw0 := Lib.hid hw0
      replace hbb := Lib.hid hbb
      have q1 := cell_of_heap (j := 1) h0.out rfl
      have q4 := cell_of_heap (j := 4) h0.out rfl
      go_upto_region 4 with ((with_reducible refine gate_dst (N := 18) rfl ?_); refine Kd.R_make (Kd.int .u32) (w0 := w0) w0.heap.size 46 rfl (N := 18) rfl 52 (.tmp 17) (.tmp 17) rfl (cc + 1) rfl rfl Tryd.underlying52 (.int .u32 0) 4 infoU rfl (by decide) (by omega) (0 : Int) (ok := fun _ => True) (okp := fun _ => False) rfl (fun _ hk => hk.elim) trivial (by omega) (by omega) (Below.refl _ _) (Nat.le_refl _) ?_; intro v1 w1 hR1 hB1 _ _)
      obtain ⟨g, cap, rfl, _⟩ := Kd.R_form hR1 (by simp; omega)
      have hlen : (List.replicate (cc + 1).toNat (0 : Int)).length = (cc + 1).toNat := by simp
      have hcn : (cc + 1).toNat = cc.toNat + 1 := by omega
      rw [hlen, hcn] at hR1
      obtain ⟨hq, hf⟩ := Kd.R_celln (0 : Int) hR1 cc hlo (by omega)
      have h1 := (hB1.block b hb0).trans h0.out
      have q1 := cell_of_heap (j := 1) h1 rfl
      have q4 := cell_of_heap (j := 4) h1 rfl
      have hgb : w0.heap.size ≤ g := by obtain ⟨hg1, _⟩ := ‹_ ∧ g < w1.heap.size ∧ _›; exact hg1
      have hR2 : Kd.R (Kd.int .u32) 46 (w1.setCell ⟨g, cc.toNat, none⟩ (.int .u32 o)) w0.heap.size (fun _ => True) (.slice (some ⟨g, 0, none⟩) (cc.toNat + 1) cap) (row cc.toNat o) := by
        have := Kd.R_putn hR1 cc o
        exact this
      have hB2 : Below w0.heap.size w0 (w1.setCell ⟨g, cc.toNat, none⟩ (.int .u32 o)) := hB1.setCell (by simpa using hgb) _
      rw [hlen, hcn]
      replace hlen := Lib.hid hlen
      replace hcn := Lib.hid hcn
      replace hR1 := Lib.hid hR1
      have h2 := (hB2.block b hb0).trans h0.out
      have p0 := cell_of_heap (j := 0) h2 rfl
      have p1 := cell_of_heap (j := 1) h2 rfl
      have p2 := cell_of_heap (j := 2) h2 rfl
      have p3 := cell_of_heap (j := 3) h2 rfl
      have p4 := cell_of_heap (j := 4) h2 rfl
      have hltz : cc < ((cc.toNat + 1 : Nat) : Int) := by omega
      go_upto_region 6 with (go_at_call 35; refine (stilemanref01_Do.calls 5 (fun _ => True) _ (row cc.toNat o) k cc x y o r1 r2 r3 r4 r5 (okD k) r7 w0 _ hB2 hR2 hdo.out).mono ?_; rintro e w3 ⟨rfl, hR3, hB3, _⟩; replace hR3 := Lib.hid hR3)
      obtain ⟨_, hgc, hC3⟩ := Kd.R_reads' hR3.out
      obtain ⟨hq3, hf3⟩ := Kd.R_celln (0 : Int) hR3.out cc hlo (by rw [hl7] at *; omega)
      rw [show rdOf (0 : Int) r7 cc = newv k x y o from hr7.out] at hq3
      have hB3' : Below w0.heap.size w0 (w3.alloc (.cells #[.int .i64 r1, .int .i64 r2, .int .u32 r3, .int .u32 r4, .int .u32 r5] 48)) := below_alloc hB3 _
      have hBz := below_drew hB3'
      have hz := (hBz.block b hb0).trans h0.out
      have hqz : (w3.alloc (.cells #[.int .i64 r1, .int .i64 r2, .int .u32 r3, .int .u32 r4, .int .u32 r5] 48)).drew.cell? ⟨g, cc.toNat, none⟩ = some (.int .u32 (newv k x y o)) := by
        have hk := (below_drew (below_alloc (Below.refl w3.heap.size w3) (.cells #[.int .i64 r1, .int .i64 r2, .int .u32 r3, .int .u32 r4, .int .u32 r5] 48))).cell (p := ⟨g, cc.toNat, none⟩) (lt_of_cell hq3)
        exact hk.trans hq3
      clear hq3 hf3 hC3 hq hf h1 h2 p0 p1 p2 p3 p4 q1 q4 hgc hgb hR2 hB1 hB2 hB3 hB3'
      have hltr : cc < (r7.length : Int) := by omega
      replace hl7 := Lib.hid hl7
      cases hok : okD k with
      | false =>
        have hw : wrv k x y o = false := by rw [hpl.out, hok]; rfl
        replace hok := Lib.hid hok
        refine start_ (n := 18) (S := fun w' => w'.cell? ⟨b, 0, none⟩ = some (.int .i64 k) ∧ w'.cell? ⟨b, 1, none⟩ = some (.int .i64 cc) ∧ w'.cell? ⟨b, 2, none⟩ = some (.int .u32 x) ∧ w'.cell? ⟨b, 3, none⟩ = some (.int .u32 y) ∧ w'.cell? ⟨b, 4, none⟩ = some (.int .u32 o) ∧ w'.cell? ⟨g, cc.toNat, none⟩ = some (.int .u32 (newv k x y o))) (ds := []) #[false, false, false, false, false, false, false, false, false, false, false, false, false, false, false, false, false, false] (by kernel_rfl) rfl rfl ⟨(cell_of_heap hz rfl), (cell_of_heap hz rfl), (cell_of_heap hz rfl), (cell_of_heap hz rfl), (cell_of_heap hz rfl), hqz⟩ (fun hHeld => ?_)
        refine pure_ (i := 2) (N := some 33) (v := ?_) (a' := ?_) #[false, false, true, false, false, false, false, false, false, false, false, false, false, false, false, false, false, false] rfl rfl (by kernel_rfl) (fun _ _ _ h => h) (Or.inl ⟨by rfl, ?_⟩) ?_ ?_
        rotate_left
        · intro w'
          go_simp
          with_reducible rfl
        rotate_left
        · simp only [Act.put, List.setIfInBounds_toArray, List.set_cons_zero, List.set_cons_succ, i64_w, i32_w]
          rfl
        refine take_ (i := 0) (N := some 31) (v := ?_) (a' := ?_) #[true, false, true, false, false, false, false, false, false, false, false, false, false, false, false, false, false, false] rfl rfl (by kernel_rfl) (fun _ _ _ h => h) (Or.inl ⟨by rfl, ?_⟩) hHeld ?_ ?_
        rotate_left
        · rintro w' ⟨s0, s1, s2, s3, s4, s5⟩
          go_simp
          with_reducible rfl
        rotate_left
        · simp only [Act.put, List.setIfInBounds_toArray, List.set_cons_zero, List.set_cons_succ, i64_w, i32_w]
          rfl
        refine one_ (i := 1) (N := some 32) #[true, true, true, false, false, false, false, false, false, false, false, false, false, false, false, false, false, false] rfl rfl (by kernel_rfl) (by decide) (fun K hK => ?_)
        refine goes_ Tryd.func36 (by kernel_rfl) rfl #[.agg #[.int .i64 k, .int .i64 cc, .int .u32 x, .int .u32 y, .int .u32 o]] (by rfl) rfl rfl (by simp only [List.map_toArray, List.map_cons, List.map_nil]; rfl) ?_
        with_reducible refine (acc_Writes.calls 5 k cc x y o _ _ (writes_f k cc x y o)).mono ?_
        rintro e w8 ⟨rfl, hb8⟩
        refine ⟨_, rfl, ?_⟩
        have hB8 := below_then hBz hBz.size hb8
        have h8 := (hB8.block b hb0).trans h0.out
        have hq8 := (hb8.cell (p := ⟨g, cc.toNat, none⟩) (lt_of_cell hqz)).trans hqz
        refine hK.out _ _ ⟨(cell_of_heap h8 rfl), (cell_of_heap h8 rfl), (cell_of_heap h8 rfl), (cell_of_heap h8 rfl), (cell_of_heap h8 rfl), hq8⟩ (fun hHeld => ?_)
        clear hK K
        refine norm_ (a' := ?_) ?_ ?_
        rotate_left
        · show Act.put _ (some 32) _ = _
          simp only [Act.put, List.setIfInBounds_toArray, List.set_cons_zero, List.set_cons_succ, i64_w, i32_w]
          rfl
        refine pure_ (i := 3) (N := some 34) (v := ?_) (a' := ?_) #[true, true, true, true, false, false, false, false, false, false, false, false, false, false, false, false, false, false] rfl rfl (by kernel_rfl) (fun _ _ _ h => h) (Or.inl ⟨by rfl, ?_⟩) ?_ ?_
        rotate_left
        · intro w'
          go_simp
          with_reducible rfl
        rotate_left
        · simp only [Act.put, List.setIfInBounds_toArray, List.set_cons_zero, List.set_cons_succ, i64_w, i32_w]
          rfl
        refine pure_ (i := 4) (N := some 35) (v := undef) (a' := ?_) #[true, true, true, true, true, false, false, false, false, false, false, false, false, false, false, false, false, false] rfl rfl (by kernel_rfl) (fun _ _ _ h => h) (Or.inr ⟨by rfl, rfl⟩) ?_ ?_
        rotate_left
        · simp only [Act.put, List.setIfInBounds_toArray, List.set_cons_zero, List.set_cons_succ, i64_w, i32_w]
          rfl
        refine pure_ (i := 5) (N := some 36) (v := undef) (a' := ?_) #[true, true, true, true, true, true, false, false, false, false, false, false, false, false, false, false, false, false] rfl rfl (by kernel_rfl) (fun _ _ _ h => h) (Or.inr ⟨by rfl, rfl⟩) ?_ ?_
        rotate_left
        · simp only [Act.put, List.setIfInBounds_toArray, List.set_cons_zero, List.set_cons_succ, i64_w, i32_w]
          rfl
        refine pure_ (i := 6) (N := some 37) (v := undef) (a' := ?_) #[true, true, true, true, true, true, true, false, false, false, false, false, false, false, false, false, false, false] rfl rfl (by kernel_rfl) (fun _ _ _ h => h) (Or.inr ⟨by rfl, rfl⟩) ?_ ?_
        rotate_left
        · simp only [Act.put, List.setIfInBounds_toArray, List.set_cons_zero, List.set_cons_succ, i64_w, i32_w]
          rfl
        refine pure_ (i := 7) (N := some 38) (v := undef) (a' := ?_) #[true, true, true, true, true, true, true, true, false, false, false, false, false, false, false, false, false, false] rfl rfl (by kernel_rfl) (fun _ _ _ h => h) (Or.inr ⟨by rfl, rfl⟩) ?_ ?_
        rotate_left
        · simp only [Act.put, List.setIfInBounds_toArray, List.set_cons_zero, List.set_cons_succ, i64_w, i32_w]
          rfl
        refine pure_ (i := 8) (N := some 39) (v := undef) (a' := ?_) #[true, true, true, true, true, true, true, true, true, false, false, false, false, false, false, false, false, false] rfl rfl (by kernel_rfl) (fun _ _ _ h => h) (Or.inr ⟨by rfl, rfl⟩) ?_ ?_
        rotate_left
        · simp only [Act.put, List.setIfInBounds_toArray, List.set_cons_zero, List.set_cons_succ, i64_w, i32_w]
          rfl
        refine pure_ (i := 9) (N := some 40) (v := undef) (a' := ?_) #[true, true, true, true, true, true, true, true, true, true, false, false, false, false, false, false, false, false] rfl rfl (by kernel_rfl) (fun _ _ _ h => h) (Or.inr ⟨by rfl, rfl⟩) ?_ ?_
        rotate_left
        · simp only [Act.put, List.setIfInBounds_toArray, List.set_cons_zero, List.set_cons_succ, i64_w, i32_w]
          rfl
        refine pure_ (i := 10) (N := some 41) (v := undef) (a' := ?_) #[true, true, true, true, true, true, true, true, true, true, true, false, false, false, false, false, false, false] rfl rfl (by kernel_rfl) (fun _ _ _ h => h) (Or.inr ⟨by rfl, rfl⟩) ?_ ?_
        rotate_left
        · simp only [Act.put, List.setIfInBounds_toArray, List.set_cons_zero, List.set_cons_succ, i64_w, i32_w]
          rfl
        refine pure_ (i := 11) (N := some 42) (v := undef) (a' := ?_) #[true, true, true, true, true, true, true, true, true, true, true, true, false, false, false, false, false, false] rfl rfl (by kernel_rfl) (fun _ _ _ h => h) (Or.inr ⟨by rfl, rfl⟩) ?_ ?_
        rotate_left
        · simp only [Act.put, List.setIfInBounds_toArray, List.set_cons_zero, List.set_cons_succ, i64_w, i32_w]
          rfl
        refine pure_ (i := 12) (N := some 43) (v := ?_) (a' := ?_) #[true, true, true, true, true, true, true, true, true, true, true, true, true, false, false, false, false, false] rfl rfl (by kernel_rfl) (fun _ _ _ h => h) (Or.inl ⟨by rfl, ?_⟩) ?_ ?_
        rotate_left
        · intro w'
          go_simp
          with_reducible rfl
        rotate_left
        · simp only [Act.put, List.setIfInBounds_toArray, List.set_cons_zero, List.set_cons_succ, i64_w, i32_w]
          rfl
        refine pure_ (i := 13) (N := some 44) (v := ?_) (a' := ?_) #[true, true, true, true, true, true, true, true, true, true, true, true, true, true, false, false, false, false] rfl rfl (by kernel_rfl) (fun _ _ _ h => h) (Or.inl ⟨by rfl, ?_⟩) ?_ ?_
        rotate_left
        · intro w'
          go_simp
          with_reducible rfl
        rotate_left
        · simp only [Act.put, List.setIfInBounds_toArray, List.set_cons_zero, List.set_cons_succ, i64_w, i32_w]
          rfl
        refine pure_ (i := 14) (N := some 45) (v := ?_) (a' := ?_) #[true, true, true, true, true, true, true, true, true, true, true, true, true, true, true, false, false, false] rfl rfl (by kernel_rfl) (fun _ _ _ h => h) (Or.inl ⟨by rfl, ?_⟩) ?_ ?_
        rotate_left
        · intro w'
          go_simp
          with_reducible rfl
        rotate_left
        · simp only [Act.put, List.setIfInBounds_toArray, List.set_cons_zero, List.set_cons_succ, i64_w, i32_w]
          rfl
        refine one_ (i := 15) (N := some 46) #[true, true, true, true, true, true, true, true, true, true, true, true, true, true, true, true, false, false] rfl rfl (by kernel_rfl) (by decide) (fun K hK => ?_)
        refine goes_ Tryd.func34 (by kernel_rfl) rfl #[] (by rfl) rfl rfl (by simp only [List.map_toArray, List.map_nil]) ?_
        with_reducible refine (awake_walk _ (hT.out.mono hBw.out hB8)).mono ?_
        rintro e w9 ⟨rfl, hb9⟩
        refine ⟨_, rfl, ?_⟩
        have hB9 := below_then hB8 hB8.size hb9
        have h9 := (hB9.block b hb0).trans h0.out
        have hq9 := (hb9.cell (p := ⟨g, cc.toNat, none⟩) (lt_of_cell hq8)).trans hq8
        refine hK.out _ _ ⟨(cell_of_heap h9 rfl), (cell_of_heap h9 rfl), (cell_of_heap h9 rfl), (cell_of_heap h9 rfl), (cell_of_heap h9 rfl), hq9⟩ (fun hHeld => ?_)
        clear hK K
        refine norm_ (a' := ?_) ?_ ?_
        rotate_left
        · show Act.put _ (some 46) _ = _
          simp only [Act.put, List.setIfInBounds_toArray, List.set_cons_zero, List.set_cons_succ, i64_w, i32_w]
          rfl
        refine pure_ (i := 16) (N := some 47) (v := ?_) (a' := ?_) #[true, true, true, true, true, true, true, true, true, true, true, true, true, true, true, true, true, false] rfl rfl (by kernel_rfl) (fun _ _ _ h => h) (Or.inl ⟨by rfl, ?_⟩) ?_ ?_
        rotate_left
        · intro w'
          go_simp
          with_reducible rfl
        rotate_left
        · simp only [Act.put, List.setIfInBounds_toArray, List.set_cons_zero, List.set_cons_succ, i64_w, i32_w]
          rfl
        refine pure_ (i := 17) (N := some 2) (v := ?_) (a' := ?_) #[true, true, true, true, true, true, true, true, true, true, true, true, true, true, true, true, true, true] rfl rfl (by kernel_rfl) (fun _ _ _ h => h) (Or.inl ⟨by rfl, ?_⟩) ?_ ?_
        rotate_left
        · intro w'
          go_simp
          with_reducible rfl
        rotate_left
        · simp only [Act.put, List.setIfInBounds_toArray, List.set_cons_zero, List.set_cons_succ, i64_w, i32_w]
          rfl
        refine done_ (by kernel_rfl) ?_
        go_wp2
        go_ret
        exact ⟨by simp, fin.out _ hB9⟩
      | true =>
        have hw : wrv k x y o = (newv k x y o != o) := by rw [hpl.out, hok, Bool.true_and]
        replace hok := Lib.hid hok
        refine start_ (n := 18) (S := fun w' => w'.cell? ⟨b, 0, none⟩ = some (.int .i64 k) ∧ w'.cell? ⟨b, 1, none⟩ = some (.int .i64 cc) ∧ w'.cell? ⟨b, 2, none⟩ = some (.int .u32 x) ∧ w'.cell? ⟨b, 3, none⟩ = some (.int .u32 y) ∧ w'.cell? ⟨b, 4, none⟩ = some (.int .u32 o) ∧ w'.cell? ⟨g, cc.toNat, none⟩ = some (.int .u32 (newv k x y o))) (ds := []) #[false, false, false, false, false, false, false, false, false, false, false, false, false, false, false, false, false, false] (by kernel_rfl) rfl rfl ⟨(cell_of_heap hz rfl), (cell_of_heap hz rfl), (cell_of_heap hz rfl), (cell_of_heap hz rfl), (cell_of_heap hz rfl), hqz⟩ (fun hHeld => ?_)
        refine pure_ (i := 2) (N := some 33) (v := ?_) (a' := ?_) #[false, false, true, false, false, false, false, false, false, false, false, false, false, false, false, false, false, false] rfl rfl (by kernel_rfl) (fun _ _ _ h => h) (Or.inl ⟨by rfl, ?_⟩) ?_ ?_
        rotate_left
        · intro w'
          go_simp
          with_reducible rfl
        rotate_left
        · simp only [Act.put, List.setIfInBounds_toArray, List.set_cons_zero, List.set_cons_succ, i64_w, i32_w]
          rfl
        refine take_ (i := 0) (N := some 31) (v := ?_) (a' := ?_) #[true, false, true, false, false, false, false, false, false, false, false, false, false, false, false, false, false, false] rfl rfl (by kernel_rfl) (fun _ _ _ h => h) (Or.inl ⟨by rfl, ?_⟩) hHeld ?_ ?_
        rotate_left
        · rintro w' ⟨s0, s1, s2, s3, s4, s5⟩
          go_simp
          with_reducible rfl
        rotate_left
        · simp only [Act.put, List.setIfInBounds_toArray, List.set_cons_zero, List.set_cons_succ, i64_w, i32_w]
          rfl
        refine one_ (i := 1) (N := some 32) #[true, true, true, false, false, false, false, false, false, false, false, false, false, false, false, false, false, false] rfl rfl (by kernel_rfl) (by decide) (fun K hK => ?_)
        refine goes_ Tryd.func36 (by kernel_rfl) rfl #[.agg #[.int .i64 k, .int .i64 cc, .int .u32 x, .int .u32 y, .int .u32 o]] (by rfl) rfl rfl (by simp only [List.map_toArray, List.map_cons, List.map_nil]; rfl) ?_
        with_reducible refine (acc_Writes.calls 5 k cc x y o _ _ (writes_f k cc x y o)).mono ?_
        rintro e w8 ⟨rfl, hb8⟩
        refine ⟨_, rfl, ?_⟩
        have hB8 := below_then hBz hBz.size hb8
        have h8 := (hB8.block b hb0).trans h0.out
        have hq8 := (hb8.cell (p := ⟨g, cc.toNat, none⟩) (lt_of_cell hqz)).trans hqz
        refine hK.out _ _ ⟨(cell_of_heap h8 rfl), (cell_of_heap h8 rfl), (cell_of_heap h8 rfl), (cell_of_heap h8 rfl), (cell_of_heap h8 rfl), hq8⟩ (fun hHeld => ?_)
        clear hK K
        refine norm_ (a' := ?_) ?_ ?_
        rotate_left
        · show Act.put _ (some 32) _ = _
          simp only [Act.put, List.setIfInBounds_toArray, List.set_cons_zero, List.set_cons_succ, i64_w, i32_w]
          rfl
        refine pure_ (i := 3) (N := some 34) (v := ?_) (a' := ?_) #[true, true, true, true, false, false, false, false, false, false, false, false, false, false, false, false, false, false] rfl rfl (by kernel_rfl) (fun _ _ _ h => h) (Or.inl ⟨by rfl, ?_⟩) ?_ ?_
        rotate_left
        · intro w'
          go_simp
          with_reducible rfl
        rotate_left
        · simp only [Act.put, List.setIfInBounds_toArray, List.set_cons_zero, List.set_cons_succ, i64_w, i32_w]
          rfl
        refine pure_ (i := 4) (N := some 35) (v := ?_) (a' := ?_) #[true, true, true, true, true, false, false, false, false, false, false, false, false, false, false, false, false, false] rfl rfl (by kernel_rfl) (fun _ _ _ h => h) (Or.inl ⟨by rfl, ?_⟩) ?_ ?_
        rotate_left
        · intro w'
          go_simp
          with_reducible rfl
        rotate_left
        · simp only [Act.put, List.setIfInBounds_toArray, List.set_cons_zero, List.set_cons_succ, i64_w, i32_w]
          rfl
        refine pure_ (i := 5) (N := some 36) (v := ?_) (a' := ?_) #[true, true, true, true, true, true, false, false, false, false, false, false, false, false, false, false, false, false] rfl rfl (by kernel_rfl) (fun _ _ _ h => h) (Or.inl ⟨by rfl, ?_⟩) ?_ ?_
        rotate_left
        · intro w'
          go_simp
          with_reducible rfl
        rotate_left
        · simp only [Act.put, List.setIfInBounds_toArray, List.set_cons_zero, List.set_cons_succ, i64_w, i32_w]
          rfl
        refine pure_ (i := 9) (N := some 40) (v := ?_) (a' := ?_) #[true, true, true, true, true, true, false, false, false, true, false, false, false, false, false, false, false, false] rfl rfl (by kernel_rfl) (fun _ _ _ h => h) (Or.inl ⟨by rfl, ?_⟩) ?_ ?_
        rotate_left
        · intro w'
          go_simp
          with_reducible rfl
        rotate_left
        · simp only [Act.put, List.setIfInBounds_toArray, List.set_cons_zero, List.set_cons_succ, i64_w, i32_w]
          rfl
        refine take_ (i := 6) (N := some 37) (v := ?_) (a' := ?_) #[true, true, true, true, true, true, true, false, false, true, false, false, false, false, false, false, false, false] rfl rfl (by kernel_rfl) (fun _ _ _ h => h) (Or.inl ⟨by rfl, ?_⟩) hHeld ?_ ?_
        rotate_left
        · rintro w' ⟨s0, s1, s2, s3, s4, s5⟩
          go_simp
          with_reducible rfl
        rotate_left
        · simp only [Act.put, List.setIfInBounds_toArray, List.set_cons_zero, List.set_cons_succ, i64_w, i32_w]
          rfl
        refine pure_ (i := 7) (N := some 38) (v := ?_) (a' := ?_) #[true, true, true, true, true, true, true, true, false, true, false, false, false, false, false, false, false, false] rfl rfl (by kernel_rfl) (fun _ _ _ h => h) (Or.inl ⟨by rfl, ?_⟩) ?_ ?_
        rotate_left
        · intro w'
          go_simp
          with_reducible rfl
        rotate_left
        · simp only [Act.put, List.setIfInBounds_toArray, List.set_cons_zero, List.set_cons_succ, i64_w, i32_w]
          rfl
        refine take_ (i := 8) (N := some 39) (v := ?_) (a' := ?_) #[true, true, true, true, true, true, true, true, true, true, false, false, false, false, false, false, false, false] rfl rfl (by kernel_rfl) (fun _ _ _ h => h) (Or.inl ⟨by rfl, ?_⟩) hHeld ?_ ?_
        rotate_left
        · rintro w' ⟨s0, s1, s2, s3, s4, s5⟩
          go_simp
          with_reducible rfl
        rotate_left
        · simp only [Act.put, List.setIfInBounds_toArray, List.set_cons_zero, List.set_cons_succ, i64_w, i32_w]
          rfl
        refine take_ (i := 10) (N := some 41) (v := ?_) (a' := ?_) #[true, true, true, true, true, true, true, true, true, true, true, false, false, false, false, false, false, false] rfl rfl (by kernel_rfl) (fun _ _ _ h => h) (Or.inl ⟨by rfl, ?_⟩) hHeld ?_ ?_
        rotate_left
        · rintro w' ⟨s0, s1, s2, s3, s4, s5⟩
          go_simp
          with_reducible rfl
        rotate_left
        · simp only [Act.put, List.setIfInBounds_toArray, List.set_cons_zero, List.set_cons_succ, i64_w, i32_w]
          rfl
        refine pure_ (i := 11) (N := some 42) (v := ?_) (a' := ?_) #[true, true, true, true, true, true, true, true, true, true, true, true, false, false, false, false, false, false] rfl rfl (by kernel_rfl) (fun _ _ _ h => h) (Or.inl ⟨by rfl, ?_⟩) ?_ ?_
        rotate_left
        · intro w'
          go_simp
          with_reducible rfl
        rotate_left
        · simp only [Act.put, List.setIfInBounds_toArray, List.set_cons_zero, List.set_cons_succ, i64_w, i32_w]
          rfl
        refine pure_ (i := 12) (N := some 43) (v := ?_) (a' := ?_) #[true, true, true, true, true, true, true, true, true, true, true, true, true, false, false, false, false, false] rfl rfl (by kernel_rfl) (fun _ _ _ h => h) (Or.inl ⟨by rfl, ?_⟩) ?_ ?_
        rotate_left
        · intro w'
          go_simp
          with_reducible rfl
        rotate_left
        · simp only [Act.put, List.setIfInBounds_toArray, List.set_cons_zero, List.set_cons_succ, i64_w, i32_w]
          rfl
        refine pure_ (i := 13) (N := some 44) (v := ?_) (a' := ?_) #[true, true, true, true, true, true, true, true, true, true, true, true, true, true, false, false, false, false] rfl rfl (by kernel_rfl) (fun _ _ _ h => h) (Or.inl ⟨by rfl, ?_⟩) ?_ ?_
        rotate_left
        · intro w'
          go_simp
          with_reducible rfl
        rotate_left
        · simp only [Act.put, List.setIfInBounds_toArray, List.set_cons_zero, List.set_cons_succ, i64_w, i32_w]
          rfl
        refine pure_ (i := 14) (N := some 45) (v := ?_) (a' := ?_) #[true, true, true, true, true, true, true, true, true, true, true, true, true, true, true, false, false, false] rfl rfl (by kernel_rfl) (fun _ _ _ h => h) (Or.inl ⟨by rfl, ?_⟩) ?_ ?_
        rotate_left
        · intro w'
          go_simp
          with_reducible rfl
        rotate_left
        · simp only [Act.put, List.setIfInBounds_toArray, List.set_cons_zero, List.set_cons_succ, i64_w, i32_w]
          rfl
        refine one_ (i := 15) (N := some 46) #[true, true, true, true, true, true, true, true, true, true, true, true, true, true, true, true, false, false] rfl rfl (by kernel_rfl) (by decide) (fun K hK => ?_)
        refine goes_ Tryd.func34 (by kernel_rfl) rfl #[] (by rfl) rfl rfl (by simp only [List.map_toArray, List.map_nil]) ?_
        with_reducible refine (awake_walk _ (hT.out.mono hBw.out hB8)).mono ?_
        rintro e w9 ⟨rfl, hb9⟩
        refine ⟨_, rfl, ?_⟩
        have hB9 := below_then hB8 hB8.size hb9
        have h9 := (hB9.block b hb0).trans h0.out
        have hq9 := (hb9.cell (p := ⟨g, cc.toNat, none⟩) (lt_of_cell hq8)).trans hq8
        refine hK.out _ _ ⟨(cell_of_heap h9 rfl), (cell_of_heap h9 rfl), (cell_of_heap h9 rfl), (cell_of_heap h9 rfl), (cell_of_heap h9 rfl), hq9⟩ (fun hHeld => ?_)
        clear hK K
        refine norm_ (a' := ?_) ?_ ?_
        rotate_left
        · show Act.put _ (some 46) _ = _
          simp only [Act.put, List.setIfInBounds_toArray, List.set_cons_zero, List.set_cons_succ, i64_w, i32_w]
          rfl
        refine pure_ (i := 16) (N := some 47) (v := ?_) (a' := ?_) #[true, true, true, true, true, true, true, true, true, true, true, true, true, true, true, true, true, false] rfl rfl (by kernel_rfl) (fun _ _ _ h => h) (Or.inl ⟨by rfl, ?_⟩) ?_ ?_
        rotate_left
        · intro w'
          go_simp
          with_reducible rfl
        rotate_left
        · simp only [Act.put, List.setIfInBounds_toArray, List.set_cons_zero, List.set_cons_succ, i64_w, i32_w]
          rfl
        refine pure_ (i := 17) (N := some 2) (v := ?_) (a' := ?_) #[true, true, true, true, true, true, true, true, true, true, true, true, true, true, true, true, true, true] rfl rfl (by kernel_rfl) (fun _ _ _ h => h) (Or.inl ⟨by rfl, ?_⟩) ?_ ?_
        rotate_left
        · intro w'
          go_simp
          with_reducible rfl
        rotate_left
        · simp only [Act.put, List.setIfInBounds_toArray, List.set_cons_zero, List.set_cons_succ, i64_w, i32_w]
          rfl
        refine done_ (by kernel_rfl) ?_
        go_wp2
        go_ret
        exact ⟨by simp, fin.out _ hB9⟩

theorem writes_args {W : World} (hT : Tabs W) {x : Int × Int × Int × Int × Int} {g0 : Array Value} (q0 : Wf x) (K0 : (Kd.pair (Kd.int .i64) (Kd.pair (Kd.int .i64) (Kd.pair (Kd.int .u32) (Kd.pair (Kd.int .u32) (Kd.int .u32))))).K W x (Value.agg g0).cells.toList) :
    Calls Tryd.prog 7 #[.agg g0] W fun e w' => e = .returned (.bool true) ∧ Below W.heap.size W w' := by
  rw [agg_of K0]
  exact writes_walk _ _ _ _ _ W hT (wf_u32 q0.2.2.1) (wf_u32 q0.2.2.2.2)

end Go.Proofs.YtejmbmhehbcflaaDoor.Acc
