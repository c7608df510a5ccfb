/- Printed contracts (print.sh), gathered: stilemanref04_Text. -/
import Derived.Test.YtejmbmhehbcflaaDoorQ0
import Derived.Test.YtejmbmhehbcflaaDoorQ2
import Derived.Test.YtejmbmhehbcflaaDoorQ7
namespace Go.Proofs.YtejmbmhehbcflaaDoor.Pr
open Go.RowKit Go.Proofs.YtejmbmhehbcflaaDoorW.PrintWords Go.Proofs.YtejmbmhehbcflaaDoorW.PrintLast Go.Proofs.YtejmbmhehbcflaaDoorW.PrintMore
attribute [local go_sem] max2_int min2_int max_two min_two max_three min_three max_four min_four   -- for this text's walks alone
set_option linter.unusedVariables false
set_option linter.unusedSimpArgs false

/-! ### stilemanref04_Text: function 45 -/
def stilemanref04_Text.j0 : Nat → ByteArray → Int → Int → Int → Int → Int → Option (ByteArray)
  | 0, _, _, _, _, _, _ => none
  | k + 1, x3, x144000, x144001, x144002, x144003, x144004 => if x144000 = 5 then (if x3.size + 1 ≤ 9223372036854775807 then ((stilemanref04_Hex.f k x144003).bind fun t148 => (if (x3 ++ (⟨#[32]⟩ : ByteArray)).size + t148.size ≤ 9223372036854775807 then (if ((x3 ++ (⟨#[32]⟩ : ByteArray)) ++ t148).size + 5 ≤ 9223372036854775807 then ((stilemanref04_Hex.f k x144004).bind fun t149 => (if (((x3 ++ (⟨#[32]⟩ : ByteArray)) ++ t148) ++ (⟨#[32, 119, 97, 115, 32]⟩ : ByteArray)).size + t149.size ≤ 9223372036854775807 then (some ((((x3 ++ (⟨#[32]⟩ : ByteArray)) ++ t148) ++ (⟨#[32, 119, 97, 115, 32]⟩ : ByteArray)) ++ t149)) else (none))) else (none)) else (none))) else (none)) else (if x3.size + 5 ≤ 9223372036854775807 then ((stilemanref04_Hex.f k x144004).bind fun t150 => (if (x3 ++ (⟨#[32, 119, 97, 115, 32]⟩ : ByteArray)).size + t150.size ≤ 9223372036854775807 then (some ((x3 ++ (⟨#[32, 119, 97, 115, 32]⟩ : ByteArray)) ++ t150)) else (none))) else (none))
def stilemanref04_Text.f (k : Nat) (a0_0 : Int) (a0_1 : Int) (a0_2 : Int) (a0_3 : Int) (a0_4 : Int) : Option (ByteArray) := (stilemanref04_Right.f a0_0 a0_1 a0_2 a0_3 a0_4).bind fun t144 => (if t144 = true then ((stilemanref04_word.f a0_0).bind fun t145 => (if t145.size + 1 ≤ 9223372036854775807 then ((stilemanref03_Text.f k a0_1).bind fun t146 => (if (t145 ++ (⟨#[32]⟩ : ByteArray)).size + t146.size ≤ 9223372036854775807 then (if a0_0 = 1 then (stilemanref04_Text.j0 k ((t145 ++ (⟨#[32]⟩ : ByteArray)) ++ t146) a0_0 a0_1 a0_2 a0_3 a0_4) else (if ((t145 ++ (⟨#[32]⟩ : ByteArray)) ++ t146).size + 1 ≤ 9223372036854775807 then ((stilemanref04_Hex.f k a0_2).bind fun t147 => (if (((t145 ++ (⟨#[32]⟩ : ByteArray)) ++ t146) ++ (⟨#[32]⟩ : ByteArray)).size + t147.size ≤ 9223372036854775807 then (stilemanref04_Text.j0 k ((((t145 ++ (⟨#[32]⟩ : ByteArray)) ++ t146) ++ (⟨#[32]⟩ : ByteArray)) ++ t147) a0_0 a0_1 a0_2 a0_3 a0_4) else (none))) else (none))) else (none))) else (none))) else (some (⟨#[]⟩ : ByteArray)))
theorem stilemanref04_Text.mono_l : ∀ k, (∀ y0 y1 y2 y3 y4 y5, LeO (stilemanref04_Text.j0 k y0 y1 y2 y3 y4 y5) (stilemanref04_Text.j0 (k + 1) y0 y1 y2 y3 y4 y5))
  | 0 => fun _ _ _ _ _ _ r h => by simp [stilemanref04_Text.j0] at h
  | k + 1 => by
    have ih0 := stilemanref04_Text.mono_l k
    · intro y0 y1 y2 y3 y4 y5
      unfold stilemanref04_Text.j0
      repeat' first
      | (with_reducible exact ih0 _ _ _ _ _ _)
      | (with_reducible exact stilemanref03_Text.mono _ _)
      | (with_reducible exact stilemanref04_Hex.mono _ _)
      | (with_reducible exact LeO.refl _)
      | (with_reducible exact LeO.none _)
      | (with_reducible refine LeO.ite ?_ ?_)
      | (with_reducible refine LeO.bind ?_ (fun _ => ?_))
      | exact ih0 _ _ _ _ _ _
      | exact stilemanref03_Text.mono _ _
      | exact stilemanref04_Hex.mono _ _
      | exact LeO.none _
      | refine LeO.ite ?_ ?_
      | refine LeO.bind ?_ (fun _ => ?_)
theorem stilemanref04_Text.mono : ∀ a0 a1 a2 a3 a4 k, LeO (stilemanref04_Text.f k a0 a1 a2 a3 a4) (stilemanref04_Text.f (k + 1) a0 a1 a2 a3 a4) := by
  intro a0 a1 a2 a3 a4 k
  have ih0 := stilemanref04_Text.mono_l k
  unfold stilemanref04_Text.f
  repeat' first
      | (with_reducible exact ih0 _ _ _ _ _ _)
      | (with_reducible exact stilemanref03_Text.mono _ _)
      | (with_reducible exact stilemanref04_Hex.mono _ _)
      | (with_reducible exact LeO.refl _)
      | (with_reducible exact LeO.none _)
      | (with_reducible refine LeO.ite ?_ ?_)
      | (with_reducible refine LeO.bind ?_ (fun _ => ?_))
      | exact ih0 _ _ _ _ _ _
      | exact stilemanref03_Text.mono _ _
      | exact stilemanref04_Hex.mono _ _
      | exact LeO.none _
      | refine LeO.ite ?_ ?_
      | refine LeO.bind ?_ (fun _ => ?_)
def stilemanref04_Text.T3 : Bool × List (List Nat × List Nat) := (true, [([], []), ([0], [0]), ([1], [1]), ([2], [2]), ([], []), ([4], [4]), ([5, 2], [5]), ([3, 6], [3, 6]), ([7, 6, 0, 1, 2, 3, 4, 5, 6, 7], [7])])
def stilemanref04_Text.B3 : List Nat := [0, 1, 3, 7, 0, 16, 55, 127, 255]
theorem stilemanref04_Text.tab3 : rtab .any (opsOf Tryd.f45 3) = stilemanref04_Text.T3 := by kernel_rfl
theorem stilemanref04_Text.bits3 : waitsOk stilemanref04_Text.T3.2 stilemanref04_Text.B3 = true := by kernel_rfl
set_option maxHeartbeats 8000000 in
set_option maxRecDepth 100000 in
theorem stilemanref04_Text.calls (k : Nat) (a0_0 : Int) (a0_1 : Int) (a0_2 : Int) (a0_3 : Int) (a0_4 : Int) (r : ByteArray) (w : World) (h : stilemanref04_Text.f k a0_0 a0_1 a0_2 a0_3 a0_4 = some r) :
    Calls Tryd.prog 45 #[.agg #[.int .i64 a0_0, .int .i64 a0_1, .int .u32 a0_2, .int .u32 a0_3, .int .u32 a0_4]] w fun e w' => e = .returned (.string r) ∧ Below w.heap.size w w' := by
  have hu48 := Tryd.underlying48
  have HB := Aside0.mk (Below.refl w.heap.size w)
  have H : ((stilemanref04_Right.f a0_0 a0_1 a0_2 a0_3 a0_4).bind fun t144 => (if t144 = true then ((stilemanref04_word.f a0_0).bind fun t145 => (if t145.size + 1 ≤ 9223372036854775807 then ((stilemanref03_Text.f k a0_1).bind fun t146 => (if (t145 ++ (⟨#[32]⟩ : ByteArray)).size + t146.size ≤ 9223372036854775807 then (if a0_0 = 1 then (stilemanref04_Text.j0 k ((t145 ++ (⟨#[32]⟩ : ByteArray)) ++ t146) a0_0 a0_1 a0_2 a0_3 a0_4) else (if ((t145 ++ (⟨#[32]⟩ : ByteArray)) ++ t146).size + 1 ≤ 9223372036854775807 then ((stilemanref04_Hex.f k a0_2).bind fun t147 => (if (((t145 ++ (⟨#[32]⟩ : ByteArray)) ++ t146) ++ (⟨#[32]⟩ : ByteArray)).size + t147.size ≤ 9223372036854775807 then (stilemanref04_Text.j0 k ((((t145 ++ (⟨#[32]⟩ : ByteArray)) ++ t146) ++ (⟨#[32]⟩ : ByteArray)) ++ t147) a0_0 a0_1 a0_2 a0_3 a0_4) else (none))) else (none))) else (none))) else (none))) else (some (⟨#[]⟩ : ByteArray)))) = some r := h
  clear h
  replace H := Option.bind_eq_some_iff.mp H
  obtain ⟨t144, A20, H⟩ := H
  replace H : (if t144 = true then ((stilemanref04_word.f a0_0).bind fun t145 => (if t145.size + 1 ≤ 9223372036854775807 then ((stilemanref03_Text.f k a0_1).bind fun t146 => (if (t145 ++ (⟨#[32]⟩ : ByteArray)).size + t146.size ≤ 9223372036854775807 then (if a0_0 = 1 then (stilemanref04_Text.j0 k ((t145 ++ (⟨#[32]⟩ : ByteArray)) ++ t146) a0_0 a0_1 a0_2 a0_3 a0_4) else (if ((t145 ++ (⟨#[32]⟩ : ByteArray)) ++ t146).size + 1 ≤ 9223372036854775807 then ((stilemanref04_Hex.f k a0_2).bind fun t147 => (if (((t145 ++ (⟨#[32]⟩ : ByteArray)) ++ t146) ++ (⟨#[32]⟩ : ByteArray)).size + t147.size ≤ 9223372036854775807 then (stilemanref04_Text.j0 k ((((t145 ++ (⟨#[32]⟩ : ByteArray)) ++ t146) ++ (⟨#[32]⟩ : ByteArray)) ++ t147) a0_0 a0_1 a0_2 a0_3 a0_4) else (none))) else (none))) else (none))) else (none))) else (some (⟨#[]⟩ : ByteArray))) = some r := H
  have A2 := Aside0.mk A20
  clear A20
  by_cases c3 : t144 = true
  · subst c3
    have H1 : ((stilemanref04_word.f a0_0).bind fun t145 => (if t145.size + 1 ≤ 9223372036854775807 then ((stilemanref03_Text.f k a0_1).bind fun t146 => (if (t145 ++ (⟨#[32]⟩ : ByteArray)).size + t146.size ≤ 9223372036854775807 then (if a0_0 = 1 then (stilemanref04_Text.j0 k ((t145 ++ (⟨#[32]⟩ : ByteArray)) ++ t146) a0_0 a0_1 a0_2 a0_3 a0_4) else (if ((t145 ++ (⟨#[32]⟩ : ByteArray)) ++ t146).size + 1 ≤ 9223372036854775807 then ((stilemanref04_Hex.f k a0_2).bind fun t147 => (if (((t145 ++ (⟨#[32]⟩ : ByteArray)) ++ t146) ++ (⟨#[32]⟩ : ByteArray)).size + t147.size ≤ 9223372036854775807 then (stilemanref04_Text.j0 k ((((t145 ++ (⟨#[32]⟩ : ByteArray)) ++ t146) ++ (⟨#[32]⟩ : ByteArray)) ++ t147) a0_0 a0_1 a0_2 a0_3 a0_4) else (none))) else (none))) else (none))) else (none))) = some r := by rw [if_pos rfl] at H; exact H
    clear H
    have H := H1
    clear H1
    replace H := Option.bind_eq_some_iff.mp H
    obtain ⟨t145, A40, H⟩ := H
    replace H : (if t145.size + 1 ≤ 9223372036854775807 then ((stilemanref03_Text.f k a0_1).bind fun t146 => (if (t145 ++ (⟨#[32]⟩ : ByteArray)).size + t146.size ≤ 9223372036854775807 then (if a0_0 = 1 then (stilemanref04_Text.j0 k ((t145 ++ (⟨#[32]⟩ : ByteArray)) ++ t146) a0_0 a0_1 a0_2 a0_3 a0_4) else (if ((t145 ++ (⟨#[32]⟩ : ByteArray)) ++ t146).size + 1 ≤ 9223372036854775807 then ((stilemanref04_Hex.f k a0_2).bind fun t147 => (if (((t145 ++ (⟨#[32]⟩ : ByteArray)) ++ t146) ++ (⟨#[32]⟩ : ByteArray)).size + t147.size ≤ 9223372036854775807 then (stilemanref04_Text.j0 k ((((t145 ++ (⟨#[32]⟩ : ByteArray)) ++ t146) ++ (⟨#[32]⟩ : ByteArray)) ++ t147) a0_0 a0_1 a0_2 a0_3 a0_4) else (none))) else (none))) else (none))) else (none)) = some r := H
    have A4 := Aside0.mk A40
    clear A40
    by_cases c5 : t145.size + 1 ≤ 9223372036854775807
    · rw [if_pos c5] at H
      have c5b0 := eq_true c5
      have c5b1 : decide (t145.size + 1 ≤ 9223372036854775807) = true := decide_eq_true c5
      try have c5b2 : (9223372036854775807 < t145.size + 1) = False := eq_false (Nat.not_lt.2 c5)
      replace H := Option.bind_eq_some_iff.mp H
      obtain ⟨t146, A60, H⟩ := H
      replace H : (if (t145 ++ (⟨#[32]⟩ : ByteArray)).size + t146.size ≤ 9223372036854775807 then (if a0_0 = 1 then (stilemanref04_Text.j0 k ((t145 ++ (⟨#[32]⟩ : ByteArray)) ++ t146) a0_0 a0_1 a0_2 a0_3 a0_4) else (if ((t145 ++ (⟨#[32]⟩ : ByteArray)) ++ t146).size + 1 ≤ 9223372036854775807 then ((stilemanref04_Hex.f k a0_2).bind fun t147 => (if (((t145 ++ (⟨#[32]⟩ : ByteArray)) ++ t146) ++ (⟨#[32]⟩ : ByteArray)).size + t147.size ≤ 9223372036854775807 then (stilemanref04_Text.j0 k ((((t145 ++ (⟨#[32]⟩ : ByteArray)) ++ t146) ++ (⟨#[32]⟩ : ByteArray)) ++ t147) a0_0 a0_1 a0_2 a0_3 a0_4) else (none))) else (none))) else (none)) = some r := H
      have A6 := Aside0.mk A60
      clear A60
      by_cases c7 : (t145 ++ (⟨#[32]⟩ : ByteArray)).size + t146.size ≤ 9223372036854775807
      · rw [if_pos c7] at H
        have c7b0 := eq_true c7
        have c7b1 : decide ((t145 ++ (⟨#[32]⟩ : ByteArray)).size + t146.size ≤ 9223372036854775807) = true := decide_eq_true c7
        try have c7b2 : (9223372036854775807 < (t145 ++ (⟨#[32]⟩ : ByteArray)).size + t146.size) = False := eq_false (Nat.not_lt.2 c7)
        have c7b9 : (9223372036854775807 < t145.size + 1 + t146.size) = False := by have h_ := Nat.not_lt.2 c7; simp only [ByteArray.size_append] at h_; exact eq_false h_
        have HC8 := Aside0.mk H
        clear H
        go_enter Tryd.func45, Tryd.ntmps45
        try go_wp2_with (first | ((with_reducible refine gate_dst (N := 1) rfl ?_); refine box_event ?hg (N := 1) ?hd (cs := #[.int .i64 a0_0, .int .i64 a0_1, .int .u32 a0_2, .int .u32 a0_3, .int .u32 a0_4]) (t := 48) ?hr ?_; (case hd => rfl); (case hg => rfl); (case hr => first | (go_simp; done) | (go_simp; rfl)); intro gb143 hg w9 hbox hb; have n0_ := Aside0.mk (below_step (by repeat (first | (with_reducible first | exact HB.out | apply below_alloc | apply pw_below_drewN | apply below_drew1) | exact HB.out)) hb); have n1_ := Aside0.mk (hbox); have n2_ := Aside0.mk ((by rw [hg]; exact (below_size (by repeat (first | (with_reducible first | exact HB.out | apply below_alloc | apply pw_below_drewN | apply below_drew1) | exact HB.out))) : w.heap.size ≤ gb143)); have n3_ := Aside0.mk ((by rw [hg]; exact (below_size (by repeat (first | (with_reducible first | exact HB.out | apply below_alloc | apply pw_below_drewN | apply below_drew1) | exact HB.out))) : w.heap.size ≤ gb143)); clear HB; have HB := n0_; have BK143 := n1_; have GW143 := n2_; have GE143 := n3_; clear n0_ n1_ n2_ n3_; clear hb hbox hg; have hcz10_0 : w9.cell? ⟨gb143, 0, none⟩ = some (.int .i64 a0_0) := (blk_cell BK143.out 0).trans rfl; have hcz10_1 : w9.cell? ⟨gb143, 1, none⟩ = some (.int .i64 a0_1) := (blk_cell BK143.out 1).trans rfl; have hcz10_2 : w9.cell? ⟨gb143, 2, none⟩ = some (.int .u32 a0_2) := (blk_cell BK143.out 2).trans rfl; have hcz10_3 : w9.cell? ⟨gb143, 3, none⟩ = some (.int .u32 a0_3) := (blk_cell BK143.out 3).trans rfl; have hcz10_4 : w9.cell? ⟨gb143, 4, none⟩ = some (.int .u32 a0_4) := (blk_cell BK143.out 4).trans rfl; have hfz10_0 := blk_frozen BK143.out 0; have hfz10_1 := blk_frozen BK143.out 1; have hfz10_2 := blk_frozen BK143.out 2; have hfz10_3 := blk_frozen BK143.out 3; have hfz10_4 := blk_frozen BK143.out 4) | ((with_reducible refine gate_callee (f := 44) rfl ?_); refine goesL_ (some 5) rfl rfl Tryd.func44 (by kernel_rfl) rfl #[.agg #[.int .i64 a0_0, .int .i64 a0_1, .int .u32 a0_2, .int .u32 a0_3, .int .u32 a0_4]] rfl (by (try simp only [List.map_toArray, List.map_cons, List.map_nil]); first | done | rfl | (simp only [List.length_drop, List.length_take]; rfl)) ?_; (with_reducible refine (stilemanref04_Right.calls a0_0 a0_1 a0_2 a0_3 a0_4 true _ A2.out).mono ?_); rintro e w11 ⟨rfl, hb⟩; refine ⟨_, rfl, ?_⟩; have n0_ := Aside0.mk (blk_below (g := gb143) (o := .cells #[.int .i64 a0_0, .int .i64 a0_1, .int .u32 a0_2, .int .u32 a0_3, .int .u32 a0_4] 48 (0, 0)) (by (with_reducible repeat (first | refine blk_drewN ?_ _ | refine blk_drew ?_ | refine blk_alloc ?_ _)); exact BK143.out) hb); have n1_ := Aside0.mk (below_step (by repeat (first | (with_reducible first | exact HB.out | apply below_alloc | apply pw_below_drewN | apply below_drew1 | refine below_set ?_ GE143.out) | exact HB.out)) hb); clear BK143; clear HB; have BK143 := n0_; have HB := n1_; clear n0_ n1_; (try clear hb); (try clear hb2); (try clear hk); (try clear hi)))
        have n0_ := Aside0.mk (blk_drew BK143.out)
        have n1_ := Aside0.mk (below_drew1 HB.out)
        clear BK143
        clear HB
        have BK143 := n0_
        have HB := n1_
        clear n0_ n1_
        refine start_ (n := 9) (S := fun w' => w'.cell? ⟨gb143, 0, none⟩ = some (.int .i64 a0_0) ∧ w'.cell? ⟨gb143, 1, none⟩ = some (.int .i64 a0_1) ∧ w'.cell? ⟨gb143, 2, none⟩ = some (.int .u32 a0_2) ∧ w'.cell? ⟨gb143, 3, none⟩ = some (.int .u32 a0_3) ∧ w'.cell? ⟨gb143, 4, none⟩ = some (.int .u32 a0_4)) (ds := []) #[false, false, false, false, false, false, false, false, false] (by kernel_rfl) rfl rfl ⟨(blk_cell BK143.out 0).trans rfl, (blk_cell BK143.out 1).trans rfl, (blk_cell BK143.out 2).trans rfl, (blk_cell BK143.out 3).trans rfl, (blk_cell BK143.out 4).trans rfl⟩ (fun hHeld => ?_); refine with_tabW stilemanref04_Text.tab3 stilemanref04_Text.bits3 (fun HT_ HW_ => ?_)
        generalize w11.drew = w12 at BK143 HB hHeld ⊢
        refine pure_ (i := 0) (N := some 7) (v := ?_) (a' := ?_) #[true, false, false, false, false, false, false, false, false] rfl rfl (any_of HT_.out (by kernel_rfl)) (fun _ _ _ h => h) (Or.inl ⟨by rfl, ?_⟩) ?_ ?_
        rotate_left
        · intro w'
          go_simp
          with_reducible rfl
        rotate_left
        · simp only [Act.put, List.setIfInBounds_toArray, List.set_cons_zero, List.set_cons_succ, i64_w, i32_w]
          rfl
        refine pure_ (i := 4) (N := some 11) (v := ?_) (a' := ?_) #[true, false, false, false, true, false, false, false, false] rfl rfl (any_of HT_.out (by kernel_rfl)) (fun _ _ _ h => h) (Or.inl ⟨by rfl, ?_⟩) ?_ ?_
        rotate_left
        · intro w'
          go_simp
          with_reducible rfl
        rotate_left
        · simp only [Act.put, List.setIfInBounds_toArray, List.set_cons_zero, List.set_cons_succ, i64_w, i32_w]
          rfl
        refine take_ (i := 1) (N := some 8) (v := ?_) (a' := ?_) #[true, true, false, false, true, false, false, false, false] rfl rfl (take_ofW HT_.out HW_.out (by kernel_rfl)) (fun _ _ _ h => h) (Or.inl ⟨by rfl, ?_⟩) hHeld ?_ ?_
        rotate_left
        · rintro w' ⟨s0, s1, s2, s3, s4⟩
          go_simp
          with_reducible rfl
        rotate_left
        · simp only [Act.put, List.setIfInBounds_toArray, List.set_cons_zero, List.set_cons_succ, i64_w, i32_w]
          rfl
        refine take_ (i := 5) (N := some 12) (v := ?_) (a' := ?_) #[true, true, false, false, true, true, false, false, false] rfl rfl (take_ofW HT_.out HW_.out (by kernel_rfl)) (fun _ _ _ h => h) (Or.inl ⟨by rfl, ?_⟩) hHeld ?_ ?_
        rotate_left
        · rintro w' ⟨s0, s1, s2, s3, s4⟩
          go_simp
          with_reducible rfl
        rotate_left
        · simp only [Act.put, List.setIfInBounds_toArray, List.set_cons_zero, List.set_cons_succ, i64_w, i32_w]
          rfl
        refine one_ (i := 2) (N := some 9) #[true, true, true, false, true, true, false, false, false] rfl rfl (one_of HT_.out (by kernel_rfl)) (by decide) (fun K hK => ?_)
        refine goes_ Tryd.func80 (by kernel_rfl) rfl #[.int .i64 a0_0] (by rfl) rfl rfl (by (try simp only [List.map_toArray, List.map_cons, List.map_nil]); first | done | rfl | (simp only [List.length_drop, List.length_take]; rfl)) ?_
        with_reducible refine (stilemanref04_word.calls a0_0 t145 _ A4.out).mono ?_
        rintro e w' ⟨rfl, ⟨nd, rfl⟩⟩
        refine ⟨_, rfl, ?_⟩
        refine hK.out _ _ ⟨(blk_cell BK143.out 0).trans rfl, (blk_cell BK143.out 1).trans rfl, (blk_cell BK143.out 2).trans rfl, (blk_cell BK143.out 3).trans rfl, (blk_cell BK143.out 4).trans rfl⟩ (fun hHeld => ?_)
        clear hK K
        refine norm_ (a' := ?_) ?_ ?_
        rotate_left
        · show Act.put _ (some 9) _ = _
          simp only [Act.put, List.setIfInBounds_toArray, List.set_cons_zero, List.set_cons_succ, i64_w, i32_w]
          rfl
        refine pure_ (i := 3) (N := some 10) (v := ?_) (a' := ?_) #[true, true, true, true, true, true, false, false, false] rfl rfl (any_of HT_.out (by kernel_rfl)) (fun _ _ _ h => h) (Or.inl ⟨by rfl, ?_⟩) ?_ ?_
        rotate_left
        · intro w'
          go_simp
          with_reducible rfl
        rotate_left
        · simp only [Act.put, List.setIfInBounds_toArray, List.set_cons_zero, List.set_cons_succ, i64_w, i32_w]
          rfl
        refine one_ (i := 6) (N := some 13) #[true, true, true, true, true, true, true, false, false] rfl rfl (one_of HT_.out (by kernel_rfl)) (by decide) (fun K hK => ?_)
        refine goes_ Tryd.func67 (by kernel_rfl) rfl #[.int .i64 a0_1] (by rfl) rfl rfl (by (try simp only [List.map_toArray, List.map_cons, List.map_nil]); first | done | rfl | (simp only [List.length_drop, List.length_take]; rfl)) ?_
        with_reducible refine (stilemanref03_Text.calls k a0_1 t146 _ A6.out).mono ?_
        rintro e w13 ⟨rfl, hb⟩
        refine ⟨_, rfl, ?_⟩
        have n0_ := Aside0.mk (blk_below (g := gb143) (o := .cells #[.int .i64 a0_0, .int .i64 a0_1, .int .u32 a0_2, .int .u32 a0_3, .int .u32 a0_4] 48 (0, 0)) (by (with_reducible repeat (first | refine blk_drewN ?_ _ | refine blk_drew ?_ | refine blk_alloc ?_ _)); exact BK143.out) hb)
        have n1_ := Aside0.mk (below_step (by repeat (first | (with_reducible first | exact HB.out | apply below_alloc | apply pw_below_drewN | apply below_drew1 | refine below_set ?_ GE143.out) | exact HB.out)) hb)
        clear BK143
        clear HB
        have BK143 := n0_
        have HB := n1_
        clear n0_ n1_
        (try clear hb)
        (try clear hb2)
        (try clear hk)
        (try clear hi)
        refine hK.out _ _ ⟨(blk_cell BK143.out 0).trans rfl, (blk_cell BK143.out 1).trans rfl, (blk_cell BK143.out 2).trans rfl, (blk_cell BK143.out 3).trans rfl, (blk_cell BK143.out 4).trans rfl⟩ (fun hHeld => ?_)
        clear hK K
        refine norm_ (a' := ?_) ?_ ?_
        rotate_left
        · show Act.put _ (some 13) _ = _
          simp only [Act.put, List.setIfInBounds_toArray, List.set_cons_zero, List.set_cons_succ, i64_w, i32_w]
          rfl
        refine pure_ (i := 7) (N := some 14) (v := ?_) (a' := ?_) #[true, true, true, true, true, true, true, true, false] rfl rfl (any_of HT_.out (by kernel_rfl)) (fun _ _ _ h => h) (Or.inl ⟨by rfl, ?_⟩) ?_ ?_
        rotate_left
        · intro w'
          go_simp
          with_reducible rfl
        rotate_left
        · simp only [Act.put, List.setIfInBounds_toArray, List.set_cons_zero, List.set_cons_succ, i64_w, i32_w]
          rfl
        refine pure_ (i := 8) (N := some 3) (v := ?_) (a' := ?_) #[true, true, true, true, true, true, true, true, true] rfl rfl (any_of HT_.out (by kernel_rfl)) (fun _ _ _ h => h) (Or.inl ⟨by rfl, ?_⟩) ?_ ?_
        rotate_left
        · intro w'
          go_simp
          with_reducible rfl
        rotate_left
        · simp only [Act.put, List.setIfInBounds_toArray, List.set_cons_zero, List.set_cons_succ, i64_w, i32_w]
          rfl
        refine done_ (done_of HT_.out (by kernel_rfl)) ?_
        have hcz14_0 : w13.cell? ⟨gb143, 0, none⟩ = some (.int .i64 a0_0) := (blk_cell BK143.out 0).trans rfl
        have hcz14_1 : w13.cell? ⟨gb143, 1, none⟩ = some (.int .i64 a0_1) := (blk_cell BK143.out 1).trans rfl
        have hcz14_2 : w13.cell? ⟨gb143, 2, none⟩ = some (.int .u32 a0_2) := (blk_cell BK143.out 2).trans rfl
        have hcz14_3 : w13.cell? ⟨gb143, 3, none⟩ = some (.int .u32 a0_3) := (blk_cell BK143.out 3).trans rfl
        have hcz14_4 : w13.cell? ⟨gb143, 4, none⟩ = some (.int .u32 a0_4) := (blk_cell BK143.out 4).trans rfl
        have hfz14_0 := blk_frozen BK143.out 0
        have hfz14_1 := blk_frozen BK143.out 1
        have hfz14_2 := blk_frozen BK143.out 2
        have hfz14_3 := blk_frozen BK143.out 3
        have hfz14_4 := blk_frozen BK143.out 4
        go_upto_if 17 with (fail)
        go_cut [3] (fun v3 wc => ∃ (kq : Nat) (x3_7 : ByteArray), v3 = .string x3_7 ∧ Aside0 (stilemanref04_Text.j0 kq x3_7 a0_0 a0_1 a0_2 a0_3 a0_4 = some r) ∧ Aside0 (kq ≤ k) ∧ Aside0 (wc.heap[gb143]? = some (.cells #[.int .i64 a0_0, .int .i64 a0_1, .int .u32 a0_2, .int .u32 a0_3, .int .u32 a0_4] 48 (0, 0))) ∧ Aside0 (Below w.heap.size w wc))
        case first =>
          have H := HC8.out
          clear HC8
          by_cases c15 : a0_0 = 1
          · rw [if_pos c15] at H
            have c15b0 : (a0_0 == 1) = true := beq_iff_eq.mpr c15
            have c15b1 : (a0_0 != 1) = false := bne_eq_false_iff_eq.mpr c15
            clear c15
            (first | rw [c15b0] | (simp only [i64_w, i32_w]; rw [c15b0]) | skip)
            have H' := Aside0.mk H
            clear H
            go_wp2
            go_meet
            case rel => exact ⟨_, ((t145 ++ (⟨#[32]⟩ : ByteArray)) ++ t146), (by first | rfl | (simp; done) | (simp [*]; done)), H', ⟨by first | omega | exact Nat.le_refl _⟩, ⟨by (with_reducible repeat (first | refine blk_drewN ?_ _ | refine blk_drew ?_ | refine blk_alloc ?_ _)); exact BK143.out⟩, ⟨by repeat (first | (with_reducible first | exact HB.out | apply below_alloc | apply pw_below_drewN | apply below_drew1 | refine below_set ?_ GE143.out) | exact HB.out)⟩⟩
          · rw [if_neg c15] at H
            have c15b0 : (a0_0 == 1) = false := beq_eq_false_iff_ne.mpr c15
            have c15b1 : (a0_0 != 1) = true := bne_iff_ne.mpr c15
            (first | rw [c15b0] | (simp only [i64_w, i32_w]; rw [c15b0]) | skip)
            by_cases c16 : ((t145 ++ (⟨#[32]⟩ : ByteArray)) ++ t146).size + 1 ≤ 9223372036854775807
            · rw [if_pos c16] at H
              have c16b0 := eq_true c16
              have c16b1 : decide (((t145 ++ (⟨#[32]⟩ : ByteArray)) ++ t146).size + 1 ≤ 9223372036854775807) = true := decide_eq_true c16
              try have c16b2 : (9223372036854775807 < ((t145 ++ (⟨#[32]⟩ : ByteArray)) ++ t146).size + 1) = False := eq_false (Nat.not_lt.2 c16)
              have c16b9 : (9223372036854775807 < t145.size + 1 + t146.size + 1) = False := by have h_ := Nat.not_lt.2 c16; simp only [ByteArray.size_append] at h_; exact eq_false h_
              replace H := Option.bind_eq_some_iff.mp H
              obtain ⟨t147, A170, H⟩ := H
              replace H : (if (((t145 ++ (⟨#[32]⟩ : ByteArray)) ++ t146) ++ (⟨#[32]⟩ : ByteArray)).size + t147.size ≤ 9223372036854775807 then (stilemanref04_Text.j0 k ((((t145 ++ (⟨#[32]⟩ : ByteArray)) ++ t146) ++ (⟨#[32]⟩ : ByteArray)) ++ t147) a0_0 a0_1 a0_2 a0_3 a0_4) else (none)) = some r := H
              have A17 := Aside0.mk A170
              clear A170
              by_cases c18 : (((t145 ++ (⟨#[32]⟩ : ByteArray)) ++ t146) ++ (⟨#[32]⟩ : ByteArray)).size + t147.size ≤ 9223372036854775807
              · rw [if_pos c18] at H
                have c18b0 := eq_true c18
                have c18b1 : decide ((((t145 ++ (⟨#[32]⟩ : ByteArray)) ++ t146) ++ (⟨#[32]⟩ : ByteArray)).size + t147.size ≤ 9223372036854775807) = true := decide_eq_true c18
                try have c18b2 : (9223372036854775807 < (((t145 ++ (⟨#[32]⟩ : ByteArray)) ++ t146) ++ (⟨#[32]⟩ : ByteArray)).size + t147.size) = False := eq_false (Nat.not_lt.2 c18)
                have c18b9 : (9223372036854775807 < t145.size + 1 + t146.size + 1 + t147.size) = False := by have h_ := Nat.not_lt.2 c18; simp only [ByteArray.size_append] at h_; exact eq_false h_
                have H' := Aside0.mk H
                clear H
                have hcz19_0 : w13.cell? ⟨gb143, 0, none⟩ = some (.int .i64 a0_0) := (blk_cell BK143.out 0).trans rfl
                have hcz19_1 : w13.cell? ⟨gb143, 1, none⟩ = some (.int .i64 a0_1) := (blk_cell BK143.out 1).trans rfl
                have hcz19_2 : w13.cell? ⟨gb143, 2, none⟩ = some (.int .u32 a0_2) := (blk_cell BK143.out 2).trans rfl
                have hcz19_3 : w13.cell? ⟨gb143, 3, none⟩ = some (.int .u32 a0_3) := (blk_cell BK143.out 3).trans rfl
                have hcz19_4 : w13.cell? ⟨gb143, 4, none⟩ = some (.int .u32 a0_4) := (blk_cell BK143.out 4).trans rfl
                have hfz19_0 := blk_frozen BK143.out 0
                have hfz19_1 := blk_frozen BK143.out 1
                have hfz19_2 := blk_frozen BK143.out 2
                have hfz19_3 := blk_frozen BK143.out 3
                have hfz19_4 := blk_frozen BK143.out 4
                go_wp2_with (first | ((with_reducible refine gate_callee (f := 81) rfl ?_); refine goesL_ (some 22) rfl rfl Tryd.func81 (by kernel_rfl) rfl #[.int .u32 a0_2] rfl (by (try simp only [List.map_toArray, List.map_cons, List.map_nil]); first | done | rfl | (simp only [List.length_drop, List.length_take]; rfl)) ?_; (with_reducible refine (stilemanref04_Hex.calls k a0_2 t147 _ A17.out).mono ?_); rintro e w' ⟨rfl, ⟨nd, rfl⟩⟩; refine ⟨_, rfl, ?_⟩))
                go_meet
                case rel => exact ⟨_, ((((t145 ++ (⟨#[32]⟩ : ByteArray)) ++ t146) ++ (⟨#[32]⟩ : ByteArray)) ++ t147), (by first | rfl | (simp; done) | (simp [*]; done)), H', ⟨by first | omega | exact Nat.le_refl _⟩, ⟨by (with_reducible repeat (first | refine blk_drewN ?_ _ | refine blk_drew ?_ | refine blk_alloc ?_ _)); exact BK143.out⟩, ⟨by repeat (first | (with_reducible first | exact HB.out | apply below_alloc | apply pw_below_drewN | apply below_drew1 | refine below_set ?_ GE143.out) | exact HB.out)⟩⟩
              · rw [if_neg c18] at H
                exact absurd H (by simp)
            · rw [if_neg c16] at H
              exact absurd H (by simp)
        case rest =>
          clear HC8
          try clear c1
          try clear p2
          try clear c3
          try clear c4
          try clear c5
          try clear c5b0
          try clear c5b1
          try clear c5b2
          try clear c6
          try clear c7
          try clear c7b0
          try clear c7b1
          try clear c7b2
          try clear c8
          try clear c15
          try clear c15b0
          try clear c15b1
          try clear c16
          try clear c16b0
          try clear c16b1
          try clear c16b2
          try clear c18
          try clear c18b0
          try clear c18b1
          try clear c18b2
          try clear hcz10_0
          try clear hcz10_1
          try clear hcz10_2
          try clear hcz10_3
          try clear hcz10_4
          try clear hcz14_0
          try clear hcz14_1
          try clear hcz14_2
          try clear hcz14_3
          try clear hcz14_4
          try clear hcz19_0
          try clear hcz19_1
          try clear hcz19_2
          try clear hcz19_3
          try clear hcz19_4
          try clear hfz10_0
          try clear hfz10_1
          try clear hfz10_2
          try clear hfz10_3
          try clear hfz10_4
          try clear hfz14_0
          try clear hfz14_1
          try clear hfz14_2
          try clear hfz14_3
          try clear hfz14_4
          try clear hfz19_0
          try clear hfz19_1
          try clear hfz19_2
          try clear hfz19_3
          try clear hfz19_4
          obtain ⟨kq, x3_7, rfl, HA, HJ7, BK143, HB⟩ := hcut
          cases kq with
          | zero => exact absurd HA.out (by simp [stilemanref04_Text.j0])
          | succ kj7 =>
            have H := HA.out
            clear HA
            simp only [stilemanref04_Text.j0] at H
            by_cases c20 : a0_0 = 5
            · rw [if_pos c20] at H
              have c20b0 : (a0_0 == 5) = true := beq_iff_eq.mpr c20
              have c20b1 : (a0_0 != 5) = false := bne_eq_false_iff_eq.mpr c20
              clear c20
              by_cases c21 : x3_7.size + 1 ≤ 9223372036854775807
              · rw [if_pos c21] at H
                have c21b0 := eq_true c21
                have c21b1 : decide (x3_7.size + 1 ≤ 9223372036854775807) = true := decide_eq_true c21
                try have c21b2 : (9223372036854775807 < x3_7.size + 1) = False := eq_false (Nat.not_lt.2 c21)
                replace H := Option.bind_eq_some_iff.mp H
                obtain ⟨t148, A220, H⟩ := H
                replace H : (if (x3_7 ++ (⟨#[32]⟩ : ByteArray)).size + t148.size ≤ 9223372036854775807 then (if ((x3_7 ++ (⟨#[32]⟩ : ByteArray)) ++ t148).size + 5 ≤ 9223372036854775807 then ((stilemanref04_Hex.f kj7 a0_4).bind fun t149 => (if (((x3_7 ++ (⟨#[32]⟩ : ByteArray)) ++ t148) ++ (⟨#[32, 119, 97, 115, 32]⟩ : ByteArray)).size + t149.size ≤ 9223372036854775807 then (some ((((x3_7 ++ (⟨#[32]⟩ : ByteArray)) ++ t148) ++ (⟨#[32, 119, 97, 115, 32]⟩ : ByteArray)) ++ t149)) else (none))) else (none)) else (none)) = some r := H
                have A22 := Aside0.mk A220
                clear A220
                by_cases c23 : (x3_7 ++ (⟨#[32]⟩ : ByteArray)).size + t148.size ≤ 9223372036854775807
                · rw [if_pos c23] at H
                  have c23b0 := eq_true c23
                  have c23b1 : decide ((x3_7 ++ (⟨#[32]⟩ : ByteArray)).size + t148.size ≤ 9223372036854775807) = true := decide_eq_true c23
                  try have c23b2 : (9223372036854775807 < (x3_7 ++ (⟨#[32]⟩ : ByteArray)).size + t148.size) = False := eq_false (Nat.not_lt.2 c23)
                  have c23b9 : (9223372036854775807 < x3_7.size + 1 + t148.size) = False := by have h_ := Nat.not_lt.2 c23; simp only [ByteArray.size_append] at h_; exact eq_false h_
                  by_cases c24 : ((x3_7 ++ (⟨#[32]⟩ : ByteArray)) ++ t148).size + 5 ≤ 9223372036854775807
                  · rw [if_pos c24] at H
                    have c24b0 := eq_true c24
                    have c24b1 : decide (((x3_7 ++ (⟨#[32]⟩ : ByteArray)) ++ t148).size + 5 ≤ 9223372036854775807) = true := decide_eq_true c24
                    try have c24b2 : (9223372036854775807 < ((x3_7 ++ (⟨#[32]⟩ : ByteArray)) ++ t148).size + 5) = False := eq_false (Nat.not_lt.2 c24)
                    have c24b9 : (9223372036854775807 < x3_7.size + 1 + t148.size + 5) = False := by have h_ := Nat.not_lt.2 c24; simp only [ByteArray.size_append] at h_; exact eq_false h_
                    replace H := Option.bind_eq_some_iff.mp H
                    obtain ⟨t149, A250, H⟩ := H
                    replace H : (if (((x3_7 ++ (⟨#[32]⟩ : ByteArray)) ++ t148) ++ (⟨#[32, 119, 97, 115, 32]⟩ : ByteArray)).size + t149.size ≤ 9223372036854775807 then (some ((((x3_7 ++ (⟨#[32]⟩ : ByteArray)) ++ t148) ++ (⟨#[32, 119, 97, 115, 32]⟩ : ByteArray)) ++ t149)) else (none)) = some r := H
                    have A25 := Aside0.mk A250
                    clear A250
                    by_cases c26 : (((x3_7 ++ (⟨#[32]⟩ : ByteArray)) ++ t148) ++ (⟨#[32, 119, 97, 115, 32]⟩ : ByteArray)).size + t149.size ≤ 9223372036854775807
                    · rw [if_pos c26] at H
                      have c26b0 := eq_true c26
                      have c26b1 : decide ((((x3_7 ++ (⟨#[32]⟩ : ByteArray)) ++ t148) ++ (⟨#[32, 119, 97, 115, 32]⟩ : ByteArray)).size + t149.size ≤ 9223372036854775807) = true := decide_eq_true c26
                      try have c26b2 : (9223372036854775807 < (((x3_7 ++ (⟨#[32]⟩ : ByteArray)) ++ t148) ++ (⟨#[32, 119, 97, 115, 32]⟩ : ByteArray)).size + t149.size) = False := eq_false (Nat.not_lt.2 c26)
                      have c26b9 : (9223372036854775807 < x3_7.size + 1 + t148.size + 5 + t149.size) = False := by have h_ := Nat.not_lt.2 c26; simp only [ByteArray.size_append] at h_; exact eq_false h_
                      obtain rfl := Option.some.inj H
                      have hcz27_0 : wc.cell? ⟨gb143, 0, none⟩ = some (.int .i64 a0_0) := (blk_cell BK143.out 0).trans rfl
                      have hcz27_1 : wc.cell? ⟨gb143, 1, none⟩ = some (.int .i64 a0_1) := (blk_cell BK143.out 1).trans rfl
                      have hcz27_2 : wc.cell? ⟨gb143, 2, none⟩ = some (.int .u32 a0_2) := (blk_cell BK143.out 2).trans rfl
                      have hcz27_3 : wc.cell? ⟨gb143, 3, none⟩ = some (.int .u32 a0_3) := (blk_cell BK143.out 3).trans rfl
                      have hcz27_4 : wc.cell? ⟨gb143, 4, none⟩ = some (.int .u32 a0_4) := (blk_cell BK143.out 4).trans rfl
                      have hfz27_0 := blk_frozen BK143.out 0
                      have hfz27_1 := blk_frozen BK143.out 1
                      have hfz27_2 := blk_frozen BK143.out 2
                      have hfz27_3 := blk_frozen BK143.out 3
                      have hfz27_4 := blk_frozen BK143.out 4
                      go_wp2_with (first | ((with_reducible refine gate_callee (f := 81) rfl ?_); refine goesL_ (some 31) rfl rfl Tryd.func81 (by kernel_rfl) rfl #[.int .u32 a0_3] rfl (by (try simp only [List.map_toArray, List.map_cons, List.map_nil]); first | done | rfl | (simp only [List.length_drop, List.length_take]; rfl)) ?_; (with_reducible refine (stilemanref04_Hex.calls kj7 a0_3 t148 _ A22.out).mono ?_); rintro e w' ⟨rfl, ⟨nd, rfl⟩⟩; refine ⟨_, rfl, ?_⟩) | ((with_reducible refine gate_callee (f := 81) rfl ?_); refine goesL_ (some 37) rfl rfl Tryd.func81 (by kernel_rfl) rfl #[.int .u32 a0_4] rfl (by (try simp only [List.map_toArray, List.map_cons, List.map_nil]); first | done | rfl | (simp only [List.length_drop, List.length_take]; rfl)) ?_; (with_reducible refine (stilemanref04_Hex.calls kj7 a0_4 t149 _ A25.out).mono ?_); rintro e w' ⟨rfl, ⟨nd, rfl⟩⟩; refine ⟨_, rfl, ?_⟩))
                      go_ret
                      exact ⟨by first | rfl | (simp [errW_none, errW_some] <;> rfl) | (simp [*, errW_none, errW_some] <;> rfl), by repeat (first | (with_reducible first | exact HB.out | apply below_alloc | apply pw_below_drewN | apply below_drew1 | refine below_set ?_ GE143.out) | exact HB.out)⟩
                    · rw [if_neg c26] at H
                      exact absurd H (by simp)
                  · rw [if_neg c24] at H
                    exact absurd H (by simp)
                · rw [if_neg c23] at H
                  exact absurd H (by simp)
              · rw [if_neg c21] at H
                exact absurd H (by simp)
            · rw [if_neg c20] at H
              have c20b0 : (a0_0 == 5) = false := beq_eq_false_iff_ne.mpr c20
              have c20b1 : (a0_0 != 5) = true := bne_iff_ne.mpr c20
              by_cases c28 : x3_7.size + 5 ≤ 9223372036854775807
              · rw [if_pos c28] at H
                have c28b0 := eq_true c28
                have c28b1 : decide (x3_7.size + 5 ≤ 9223372036854775807) = true := decide_eq_true c28
                try have c28b2 : (9223372036854775807 < x3_7.size + 5) = False := eq_false (Nat.not_lt.2 c28)
                replace H := Option.bind_eq_some_iff.mp H
                obtain ⟨t150, A290, H⟩ := H
                replace H : (if (x3_7 ++ (⟨#[32, 119, 97, 115, 32]⟩ : ByteArray)).size + t150.size ≤ 9223372036854775807 then (some ((x3_7 ++ (⟨#[32, 119, 97, 115, 32]⟩ : ByteArray)) ++ t150)) else (none)) = some r := H
                have A29 := Aside0.mk A290
                clear A290
                by_cases c30 : (x3_7 ++ (⟨#[32, 119, 97, 115, 32]⟩ : ByteArray)).size + t150.size ≤ 9223372036854775807
                · rw [if_pos c30] at H
                  have c30b0 := eq_true c30
                  have c30b1 : decide ((x3_7 ++ (⟨#[32, 119, 97, 115, 32]⟩ : ByteArray)).size + t150.size ≤ 9223372036854775807) = true := decide_eq_true c30
                  try have c30b2 : (9223372036854775807 < (x3_7 ++ (⟨#[32, 119, 97, 115, 32]⟩ : ByteArray)).size + t150.size) = False := eq_false (Nat.not_lt.2 c30)
                  have c30b9 : (9223372036854775807 < x3_7.size + 5 + t150.size) = False := by have h_ := Nat.not_lt.2 c30; simp only [ByteArray.size_append] at h_; exact eq_false h_
                  obtain rfl := Option.some.inj H
                  have hcz31_0 : wc.cell? ⟨gb143, 0, none⟩ = some (.int .i64 a0_0) := (blk_cell BK143.out 0).trans rfl
                  have hcz31_1 : wc.cell? ⟨gb143, 1, none⟩ = some (.int .i64 a0_1) := (blk_cell BK143.out 1).trans rfl
                  have hcz31_2 : wc.cell? ⟨gb143, 2, none⟩ = some (.int .u32 a0_2) := (blk_cell BK143.out 2).trans rfl
                  have hcz31_3 : wc.cell? ⟨gb143, 3, none⟩ = some (.int .u32 a0_3) := (blk_cell BK143.out 3).trans rfl
                  have hcz31_4 : wc.cell? ⟨gb143, 4, none⟩ = some (.int .u32 a0_4) := (blk_cell BK143.out 4).trans rfl
                  have hfz31_0 := blk_frozen BK143.out 0
                  have hfz31_1 := blk_frozen BK143.out 1
                  have hfz31_2 := blk_frozen BK143.out 2
                  have hfz31_3 := blk_frozen BK143.out 3
                  have hfz31_4 := blk_frozen BK143.out 4
                  go_wp2_with (first | ((with_reducible refine gate_callee (f := 81) rfl ?_); refine goesL_ (some 37) rfl rfl Tryd.func81 (by kernel_rfl) rfl #[.int .u32 a0_4] rfl (by (try simp only [List.map_toArray, List.map_cons, List.map_nil]); first | done | rfl | (simp only [List.length_drop, List.length_take]; rfl)) ?_; (with_reducible refine (stilemanref04_Hex.calls kj7 a0_4 t150 _ A29.out).mono ?_); rintro e w' ⟨rfl, ⟨nd, rfl⟩⟩; refine ⟨_, rfl, ?_⟩))
                  go_ret
                  exact ⟨by first | rfl | (simp [errW_none, errW_some] <;> rfl) | (simp [*, errW_none, errW_some] <;> rfl), by repeat (first | (with_reducible first | exact HB.out | apply below_alloc | apply pw_below_drewN | apply below_drew1 | refine below_set ?_ GE143.out) | exact HB.out)⟩
                · rw [if_neg c30] at H
                  exact absurd H (by simp)
              · rw [if_neg c28] at H
                exact absurd H (by simp)
      · rw [if_neg c7] at H
        exact absurd H (by simp)
    · rw [if_neg c5] at H
      exact absurd H (by simp)
  · replace c3 := Bool.eq_false_iff.mpr c3
    subst c3
    have H1 : (some (⟨#[]⟩ : ByteArray)) = some r := by rw [if_neg (show ¬ (false = true) by decide)] at H; exact H
    clear H
    have H := H1
    clear H1
    obtain rfl := Option.some.inj H
    go_enter Tryd.func45, Tryd.ntmps45
    go_wp2_with (first | ((with_reducible refine gate_dst (N := 1) rfl ?_); refine box_event ?hg (N := 1) ?hd (cs := #[.int .i64 a0_0, .int .i64 a0_1, .int .u32 a0_2, .int .u32 a0_3, .int .u32 a0_4]) (t := 48) ?hr ?_; (case hd => rfl); (case hg => rfl); (case hr => first | (go_simp; done) | (go_simp; rfl)); intro gb143 hg w32 hbox hb; have n0_ := Aside0.mk (below_step (by repeat (first | (with_reducible first | exact HB.out | apply below_alloc | apply pw_below_drewN | apply below_drew1) | exact HB.out)) hb); have n1_ := Aside0.mk (hbox); have n2_ := Aside0.mk ((by rw [hg]; exact (below_size (by repeat (first | (with_reducible first | exact HB.out | apply below_alloc | apply pw_below_drewN | apply below_drew1) | exact HB.out))) : w.heap.size ≤ gb143)); have n3_ := Aside0.mk ((by rw [hg]; exact (below_size (by repeat (first | (with_reducible first | exact HB.out | apply below_alloc | apply pw_below_drewN | apply below_drew1) | exact HB.out))) : w.heap.size ≤ gb143)); clear HB; have HB := n0_; have BK143 := n1_; have GW143 := n2_; have GE143 := n3_; clear n0_ n1_ n2_ n3_; clear hb hbox hg; have hcz33_0 : w32.cell? ⟨gb143, 0, none⟩ = some (.int .i64 a0_0) := (blk_cell BK143.out 0).trans rfl; have hcz33_1 : w32.cell? ⟨gb143, 1, none⟩ = some (.int .i64 a0_1) := (blk_cell BK143.out 1).trans rfl; have hcz33_2 : w32.cell? ⟨gb143, 2, none⟩ = some (.int .u32 a0_2) := (blk_cell BK143.out 2).trans rfl; have hcz33_3 : w32.cell? ⟨gb143, 3, none⟩ = some (.int .u32 a0_3) := (blk_cell BK143.out 3).trans rfl; have hcz33_4 : w32.cell? ⟨gb143, 4, none⟩ = some (.int .u32 a0_4) := (blk_cell BK143.out 4).trans rfl; have hfz33_0 := blk_frozen BK143.out 0; have hfz33_1 := blk_frozen BK143.out 1; have hfz33_2 := blk_frozen BK143.out 2; have hfz33_3 := blk_frozen BK143.out 3; have hfz33_4 := blk_frozen BK143.out 4) | ((with_reducible refine gate_callee (f := 44) rfl ?_); refine goesL_ (some 5) rfl rfl Tryd.func44 (by kernel_rfl) rfl #[.agg #[.int .i64 a0_0, .int .i64 a0_1, .int .u32 a0_2, .int .u32 a0_3, .int .u32 a0_4]] rfl (by (try simp only [List.map_toArray, List.map_cons, List.map_nil]); first | done | rfl | (simp only [List.length_drop, List.length_take]; rfl)) ?_; (with_reducible refine (stilemanref04_Right.calls a0_0 a0_1 a0_2 a0_3 a0_4 false _ A2.out).mono ?_); rintro e w34 ⟨rfl, hb⟩; refine ⟨_, rfl, ?_⟩; have n0_ := Aside0.mk (blk_below (g := gb143) (o := .cells #[.int .i64 a0_0, .int .i64 a0_1, .int .u32 a0_2, .int .u32 a0_3, .int .u32 a0_4] 48 (0, 0)) (by (with_reducible repeat (first | refine blk_drewN ?_ _ | refine blk_drew ?_ | refine blk_alloc ?_ _)); exact BK143.out) hb); have n1_ := Aside0.mk (below_step (by repeat (first | (with_reducible first | exact HB.out | apply below_alloc | apply pw_below_drewN | apply below_drew1 | refine below_set ?_ GE143.out) | exact HB.out)) hb); clear BK143; clear HB; have BK143 := n0_; have HB := n1_; clear n0_ n1_; (try clear hb); (try clear hb2); (try clear hk); (try clear hi)))
    go_ret
    exact ⟨by first | rfl | (simp [errW_none, errW_some] <;> rfl) | (simp [*, errW_none, errW_some] <;> rfl), by repeat (first | (with_reducible first | exact HB.out | apply below_alloc | apply pw_below_drewN | apply below_drew1 | refine below_set ?_ GE143.out) | exact HB.out)⟩

end Go.Proofs.YtejmbmhehbcflaaDoor.Pr
