-- PRINTED BY print.sh 35421559b90ae4d0a3588c463048766b98c2df88dd9212a6774a882060cdf62d: not written by this session
import Derived.Test.YtgbofijdjgpgeaaPRecChecksx0
namespace Go.Proofs.Ytgbofijdjgpgeaa.PRecChecks
open Go.RowKit Go.Proofs.YtgbofijdjgpgeaaW.PrintWords Go.Proofs.YtgbofijdjgpgeaaW.PrintLast Go.Proofs.YtgbofijdjgpgeaaW.PrintMore
attribute [local go_sem] max2_int min2_int max_two min_two max_three min_three max_four min_four   -- for this text's walks alone
set_option linter.unusedVariables false
set_option linter.unusedSimpArgs false

-- NOT PRINTED: function 65 (rec_Calls)

-- NOT PRINTED: function 28 (stilemanlaw20_awake)

/-! ### note_args: function 84 -/
def note_args.f (a0 : Int) : Option (List ByteArray) := if a0 = 2 then (some (([(⟨#[]⟩ : ByteArray), (⟨#[114, 101, 97, 100]⟩ : ByteArray), (⟨#[119, 114, 105, 116, 101]⟩ : ByteArray)] : List ByteArray))) else (if a0 = 11 then (some (([(⟨#[]⟩ : ByteArray), (⟨#[102, 97, 108, 115, 101]⟩ : ByteArray), (⟨#[116, 114, 117, 101]⟩ : ByteArray), (⟨#[109, 105, 115, 117, 115, 101]⟩ : ByteArray)] : List ByteArray))) else (some ([] : List ByteArray)))
set_option maxHeartbeats 8000000 in
set_option maxRecDepth 100000 in
theorem note_args.calls (a0 : Int) (r : List ByteArray) (w : World) (h : note_args.f a0 = some r) :
    Calls Try.prog 84 #[.int .i64 a0] w fun e w' => ∃ v0_ : Value, e = .returned (v0_) ∧ Kd.R Kd.string 9 w' w.heap.size (fun _ => True) v0_ r ∧ Below w.heap.size w w' := by
  have HB := Aside0.mk (Below.refl w.heap.size w)
  have H : (if a0 = 2 then (some (([(⟨#[]⟩ : ByteArray), (⟨#[114, 101, 97, 100]⟩ : ByteArray), (⟨#[119, 114, 105, 116, 101]⟩ : ByteArray)] : List ByteArray))) else (if a0 = 11 then (some (([(⟨#[]⟩ : ByteArray), (⟨#[102, 97, 108, 115, 101]⟩ : ByteArray), (⟨#[116, 114, 117, 101]⟩ : ByteArray), (⟨#[109, 105, 115, 117, 115, 101]⟩ : ByteArray)] : List ByteArray))) else (some ([] : List ByteArray)))) = some r := h
  clear h
  by_cases c2 : a0 = 2
  · rw [if_pos c2] at H
    have c2b0 : (a0 == 2) = true := beq_iff_eq.mpr c2
    have c2b1 : (a0 != 2) = false := bne_eq_false_iff_eq.mpr c2
    clear c2
    obtain ⟨y104, hy104⟩ : ∃ y_ : List ByteArray, y_ = (([(⟨#[]⟩ : ByteArray), (⟨#[114, 101, 97, 100]⟩ : ByteArray), (⟨#[119, 114, 105, 116, 101]⟩ : ByteArray)] : List ByteArray)) := ⟨_, rfl⟩
    replace H : (some y104) = some r := by first | (rw [hy104]; with_reducible exact H) | (have H2_ := (Option.bind_some _ _).symm.trans H; rw [hy104]; with_reducible exact H2_) | (have H2_ := (Option.bind_some _ _).symm.trans H; with_reducible exact H2_) | with_reducible exact H | (rw [hy104]; exact H) | exact H
    have Ny104 := Aside0.mk hy104
    clear hy104
    obtain rfl := Option.some.inj H
    go_enter Try.func84, Try.ntmps84
    go_wp2_with (first | ((with_reducible refine gate_dst (N := 6) rfl ?_); refine Kd.R_lit Kd.string _ 9 ?hg (N := 6) ?hd (xs := ([(⟨#[]⟩ : ByteArray), (⟨#[114, 101, 97, 100]⟩ : ByteArray), (⟨#[119, 114, 105, 116, 101]⟩ : ByteArray)] : List ByteArray)) (inner := [.string (⟨#[]⟩ : ByteArray), .string (⟨#[114, 101, 97, 100]⟩ : ByteArray), .string (⟨#[119, 114, 105, 116, 101]⟩ : ByteArray)]) (ok := fun _ => True) (okp := fun _ => True) ?hr ?hp (fun _ hk => hk) trivial (Below.refl _ _) (Nat.le_refl _) (by simp) ?_; (case hd => rfl); (case hg => rfl); (case hr => first | (go_simp; done) | (go_simp; rfl)); (case hp => exact (Reps.one (show Kd.M Kd.string _ _ _ (⟨#[]⟩ : ByteArray) [.string (⟨#[]⟩ : ByteArray)] from rfl) (Reps.one (show Kd.M Kd.string _ _ _ (⟨#[114, 101, 97, 100]⟩ : ByteArray) [.string (⟨#[114, 101, 97, 100]⟩ : ByteArray)] from rfl) (Reps.one (show Kd.M Kd.string _ _ _ (⟨#[119, 114, 105, 116, 101]⟩ : ByteArray) [.string (⟨#[119, 114, 105, 116, 101]⟩ : ByteArray)] from rfl) (Reps.none _ _))))); intro v105 w3 ho4 hb hg_ hnew_; clear hg_ hnew_; (first | rw [← Ny104.out] at ho4 | (simp only [Int.reduceToNat] at ho4; rw [← Ny104.out] at ho4)); have n0_ := Aside0.mk (Kd.R_lower ho4 (below_size (by repeat (first | (with_reducible first | exact HB.out | apply below_alloc | apply pw_below_drewN | apply below_drew1) | exact HB.out)))); have n1_ := Aside0.mk (below_step (by repeat (first | (with_reducible first | exact HB.out | apply below_alloc | apply pw_below_drewN | apply below_drew1) | exact HB.out)) hb); clear HB; have HO106 := n0_; have HB := n1_; clear n0_ n1_; clear hb ho4))
    go_ret
    exact ⟨_, by first | rfl | (simp [errW_none, errW_some] <;> rfl) | (simp [*, errW_none, errW_some] <;> rfl), by (with_reducible repeat (first | apply Kd.R_alloc | apply Kd.R_drewN | apply Kd.R_drew)); exact HO106.out, by repeat (first | (with_reducible first | exact HB.out | apply below_alloc | apply pw_below_drewN | apply below_drew1) | exact HB.out)⟩
  · rw [if_neg c2] at H
    have c2b0 : (a0 == 2) = false := beq_eq_false_iff_ne.mpr c2
    have c2b1 : (a0 != 2) = true := bne_iff_ne.mpr c2
    by_cases c5 : a0 = 11
    · rw [if_pos c5] at H
      have c5b0 : (a0 == 11) = true := beq_iff_eq.mpr c5
      have c5b1 : (a0 != 11) = false := bne_eq_false_iff_eq.mpr c5
      clear c5
      obtain ⟨y107, hy107⟩ : ∃ y_ : List ByteArray, y_ = (([(⟨#[]⟩ : ByteArray), (⟨#[102, 97, 108, 115, 101]⟩ : ByteArray), (⟨#[116, 114, 117, 101]⟩ : ByteArray), (⟨#[109, 105, 115, 117, 115, 101]⟩ : ByteArray)] : List ByteArray)) := ⟨_, rfl⟩
      replace H : (some y107) = some r := by first | (rw [hy107]; with_reducible exact H) | (have H2_ := (Option.bind_some _ _).symm.trans H; rw [hy107]; with_reducible exact H2_) | (have H2_ := (Option.bind_some _ _).symm.trans H; with_reducible exact H2_) | with_reducible exact H | (rw [hy107]; exact H) | exact H
      have Ny107 := Aside0.mk hy107
      clear hy107
      obtain rfl := Option.some.inj H
      go_enter Try.func84, Try.ntmps84
      go_wp2_with (first | ((with_reducible refine gate_dst (N := 9) rfl ?_); refine Kd.R_lit Kd.string _ 9 ?hg (N := 9) ?hd (xs := ([(⟨#[]⟩ : ByteArray), (⟨#[102, 97, 108, 115, 101]⟩ : ByteArray), (⟨#[116, 114, 117, 101]⟩ : ByteArray), (⟨#[109, 105, 115, 117, 115, 101]⟩ : ByteArray)] : List ByteArray)) (inner := [.string (⟨#[]⟩ : ByteArray), .string (⟨#[102, 97, 108, 115, 101]⟩ : ByteArray), .string (⟨#[116, 114, 117, 101]⟩ : ByteArray), .string (⟨#[109, 105, 115, 117, 115, 101]⟩ : ByteArray)]) (ok := fun _ => True) (okp := fun _ => True) ?hr ?hp (fun _ hk => hk) trivial (Below.refl _ _) (Nat.le_refl _) (by simp) ?_; (case hd => rfl); (case hg => rfl); (case hr => first | (go_simp; done) | (go_simp; rfl)); (case hp => exact (Reps.one (show Kd.M Kd.string _ _ _ (⟨#[]⟩ : ByteArray) [.string (⟨#[]⟩ : ByteArray)] from rfl) (Reps.one (show Kd.M Kd.string _ _ _ (⟨#[102, 97, 108, 115, 101]⟩ : ByteArray) [.string (⟨#[102, 97, 108, 115, 101]⟩ : ByteArray)] from rfl) (Reps.one (show Kd.M Kd.string _ _ _ (⟨#[116, 114, 117, 101]⟩ : ByteArray) [.string (⟨#[116, 114, 117, 101]⟩ : ByteArray)] from rfl) (Reps.one (show Kd.M Kd.string _ _ _ (⟨#[109, 105, 115, 117, 115, 101]⟩ : ByteArray) [.string (⟨#[109, 105, 115, 117, 115, 101]⟩ : ByteArray)] from rfl) (Reps.none _ _)))))); intro v108 w6 ho7 hb hg_ hnew_; clear hg_ hnew_; (first | rw [← Ny107.out] at ho7 | (simp only [Int.reduceToNat] at ho7; rw [← Ny107.out] at ho7)); have n0_ := Aside0.mk (Kd.R_lower ho7 (below_size (by repeat (first | (with_reducible first | exact HB.out | apply below_alloc | apply pw_below_drewN | apply below_drew1) | exact HB.out)))); have n1_ := Aside0.mk (below_step (by repeat (first | (with_reducible first | exact HB.out | apply below_alloc | apply pw_below_drewN | apply below_drew1) | exact HB.out)) hb); clear HB; have HO109 := n0_; have HB := n1_; clear n0_ n1_; clear hb ho7))
      go_ret
      exact ⟨_, by first | rfl | (simp [errW_none, errW_some] <;> rfl) | (simp [*, errW_none, errW_some] <;> rfl), by (with_reducible repeat (first | apply Kd.R_alloc | apply Kd.R_drewN | apply Kd.R_drew)); exact HO109.out, by repeat (first | (with_reducible first | exact HB.out | apply below_alloc | apply pw_below_drewN | apply below_drew1) | exact HB.out)⟩
    · rw [if_neg c5] at H
      have c5b0 : (a0 == 11) = false := beq_eq_false_iff_ne.mpr c5
      have c5b1 : (a0 != 11) = true := bne_iff_ne.mpr c5
      obtain rfl := Option.some.inj H
      go_enter Try.func84, Try.ntmps84
      go_wp2
      go_ret
      exact ⟨_, by first | rfl | (simp [errW_none, errW_some] <;> rfl) | (simp [*, errW_none, errW_some] <;> rfl), by first | exact Kd.R_nil _ _ _ _ _ | exact Kd.N_nil _ _ _ _ _ | exact Kd.V_nil _ _ _ _ _ | exact Kd.Q_nil _ _ _ _ _ | exact Kd.S_nil _ _ _ _ _, by repeat (first | (with_reducible first | exact HB.out | apply below_alloc | apply pw_below_drewN | apply below_drew1) | exact HB.out)⟩

/-! ### note_at: function 85 -/
def note_at.f (l0 : List ByteArray) (a1 : Int) : Option (ByteArray) := if a1 < 0 then (some (⟨#[]⟩ : ByteArray)) else (if a1 ≥ (l0.length : Int) then (some (⟨#[]⟩ : ByteArray)) else (if 0 ≤ a1 then (if a1 < (l0.length : Int) then (some (rdOf ByteArray.empty l0 a1)) else (none)) else (none)))
set_option maxHeartbeats 8000000 in
set_option maxRecDepth 100000 in
theorem note_at.calls (A0 : Option Addr) (c0 : Nat) (l0 : List ByteArray) (a1 : Int) (r : ByteArray) (w : World) (hr0 : Kd.C Kd.string w A0 l0.length l0) (hc0 : l0.length ≤ c0) (h : note_at.f l0 a1 = some r) :
    Calls Try.prog 85 #[.slice A0 l0.length c0, .int .i64 a1] w fun e w' => e = .returned (.string r) ∧ Drawn0 w w' := by
  have HR0 := Aside0.mk hr0
  have HC0 := Aside0.mk hc0
  clear hr0 hc0
  have H : (if a1 < 0 then (some (⟨#[]⟩ : ByteArray)) else (if a1 ≥ (l0.length : Int) then (some (⟨#[]⟩ : ByteArray)) else (if 0 ≤ a1 then (if a1 < (l0.length : Int) then (some (rdOf ByteArray.empty l0 a1)) else (none)) else (none)))) = some r := h
  clear h
  by_cases c3 : a1 < 0
  · rw [if_pos c3] at H
    have c3b0 : decide (a1 < 0) = true := decide_eq_true c3
    clear c3
    obtain rfl := Option.some.inj H
    go_enter Try.func85, Try.ntmps85
    go_wp2
    go_ret
    exact ⟨by first | rfl | (simp; done) | (simp [*]; done), by repeat (first | exact Drawn0.refl _ | apply Drawn0.step)⟩
  · rw [if_neg c3] at H
    have c3b0 : decide (a1 < 0) = false := decide_eq_false c3
    clear c3
    by_cases c4 : a1 ≥ (l0.length : Int)
    · rw [if_pos c4] at H
      have c4b0 : decide ((l0.length : Int) ≤ a1) = true := decide_eq_true c4
      clear c4
      obtain rfl := Option.some.inj H
      go_enter Try.func85, Try.ntmps85
      go_wp2
      go_ret
      exact ⟨by first | rfl | (simp; done) | (simp [*]; done), by repeat (first | exact Drawn0.refl _ | apply Drawn0.step)⟩
    · rw [if_neg c4] at H
      have c4b0 : decide ((l0.length : Int) ≤ a1) = false := decide_eq_false c4
      clear c4
      by_cases c5 : 0 ≤ a1
      · rw [if_pos c5] at H
        have c5b0 : decide (0 ≤ a1) = true := decide_eq_true c5
        clear c5
        by_cases c6 : a1 < (l0.length : Int)
        · rw [if_pos c6] at H
          have c6b0 : decide (a1 < (l0.length : Int)) = true := decide_eq_true c6
          clear c6
          obtain rfl := Option.some.inj H
          have p110 : 0 ≤ (a1 : Int) := of_decide_eq_true (by first | (with_reducible assumption) | assumption)
          have q110 : a1 < (l0.length : Int) := of_decide_eq_true (by first | (with_reducible assumption) | assumption)
          obtain ⟨ad110, e110, hx110_0⟩ := Kd.at_string HR0.out a1 p110 q110
          cases e110
          replace p110 := eq_true p110
          replace q110 := eq_true q110
          go_enter Try.func85, Try.ntmps85
          go_wp2
          go_ret
          exact ⟨by first | rfl | (simp; done) | (simp [*]; done), by repeat (first | exact Drawn0.refl _ | apply Drawn0.step)⟩
        · rw [if_neg c6] at H
          exact absurd H (by simp)
      · rw [if_neg c5] at H
        exact absurd H (by simp)

/-! ### note_whats: function 86 -/
def note_whats.f  : Option (List ByteArray) := some (([(⟨#[]⟩ : ByteArray), (⟨#[99, 97, 108, 108]⟩ : ByteArray), (⟨#[114, 101, 103]⟩ : ByteArray), (⟨#[112, 114, 101, 115, 101, 110, 116]⟩ : ByteArray), (⟨#[97, 100, 109, 105, 116]⟩ : ByteArray), (⟨#[114, 101, 102, 117, 115, 101]⟩ : ByteArray), (⟨#[114, 101, 108, 101, 97, 115, 101]⟩ : ByteArray), (⟨#[108, 101, 97, 118, 101]⟩ : ByteArray), (⟨#[112, 97, 115, 115]⟩ : ByteArray), (⟨#[117, 112]⟩ : ByteArray), (⟨#[100, 111, 119, 110]⟩ : ByteArray), (⟨#[114, 101, 116, 117, 114, 110]⟩ : ByteArray)] : List ByteArray))
set_option maxHeartbeats 8000000 in
set_option maxRecDepth 100000 in
theorem note_whats.calls  (r : List ByteArray) (w : World) (h : note_whats.f  = some r) :
    Calls Try.prog 86 #[] w fun e w' => ∃ v0_ : Value, e = .returned (v0_) ∧ Kd.R Kd.string 9 w' w.heap.size (fun _ => True) v0_ r ∧ Below w.heap.size w w' := by
  have HB := Aside0.mk (Below.refl w.heap.size w)
  have H : (some (([(⟨#[]⟩ : ByteArray), (⟨#[99, 97, 108, 108]⟩ : ByteArray), (⟨#[114, 101, 103]⟩ : ByteArray), (⟨#[112, 114, 101, 115, 101, 110, 116]⟩ : ByteArray), (⟨#[97, 100, 109, 105, 116]⟩ : ByteArray), (⟨#[114, 101, 102, 117, 115, 101]⟩ : ByteArray), (⟨#[114, 101, 108, 101, 97, 115, 101]⟩ : ByteArray), (⟨#[108, 101, 97, 118, 101]⟩ : ByteArray), (⟨#[112, 97, 115, 115]⟩ : ByteArray), (⟨#[117, 112]⟩ : ByteArray), (⟨#[100, 111, 119, 110]⟩ : ByteArray), (⟨#[114, 101, 116, 117, 114, 110]⟩ : ByteArray)] : List ByteArray))) = some r := h
  clear h
  obtain ⟨y111, hy111⟩ : ∃ y_ : List ByteArray, y_ = (([(⟨#[]⟩ : ByteArray), (⟨#[99, 97, 108, 108]⟩ : ByteArray), (⟨#[114, 101, 103]⟩ : ByteArray), (⟨#[112, 114, 101, 115, 101, 110, 116]⟩ : ByteArray), (⟨#[97, 100, 109, 105, 116]⟩ : ByteArray), (⟨#[114, 101, 102, 117, 115, 101]⟩ : ByteArray), (⟨#[114, 101, 108, 101, 97, 115, 101]⟩ : ByteArray), (⟨#[108, 101, 97, 118, 101]⟩ : ByteArray), (⟨#[112, 97, 115, 115]⟩ : ByteArray), (⟨#[117, 112]⟩ : ByteArray), (⟨#[100, 111, 119, 110]⟩ : ByteArray), (⟨#[114, 101, 116, 117, 114, 110]⟩ : ByteArray)] : List ByteArray)) := ⟨_, rfl⟩
  replace H : (some y111) = some r := by first | (rw [hy111]; with_reducible exact H) | (have H2_ := (Option.bind_some _ _).symm.trans H; rw [hy111]; with_reducible exact H2_) | (have H2_ := (Option.bind_some _ _).symm.trans H; with_reducible exact H2_) | with_reducible exact H | (rw [hy111]; exact H) | exact H
  have Ny111 := Aside0.mk hy111
  clear hy111
  obtain rfl := Option.some.inj H
  go_enter Try.func86, Try.ntmps86
  go_wp2_with (first | ((with_reducible refine gate_dst (N := 1) rfl ?_); refine Kd.R_lit Kd.string _ 9 ?hg (N := 1) ?hd (xs := ([(⟨#[]⟩ : ByteArray), (⟨#[99, 97, 108, 108]⟩ : ByteArray), (⟨#[114, 101, 103]⟩ : ByteArray), (⟨#[112, 114, 101, 115, 101, 110, 116]⟩ : ByteArray), (⟨#[97, 100, 109, 105, 116]⟩ : ByteArray), (⟨#[114, 101, 102, 117, 115, 101]⟩ : ByteArray), (⟨#[114, 101, 108, 101, 97, 115, 101]⟩ : ByteArray), (⟨#[108, 101, 97, 118, 101]⟩ : ByteArray), (⟨#[112, 97, 115, 115]⟩ : ByteArray), (⟨#[117, 112]⟩ : ByteArray), (⟨#[100, 111, 119, 110]⟩ : ByteArray), (⟨#[114, 101, 116, 117, 114, 110]⟩ : ByteArray)] : List ByteArray)) (inner := [.string (⟨#[]⟩ : ByteArray), .string (⟨#[99, 97, 108, 108]⟩ : ByteArray), .string (⟨#[114, 101, 103]⟩ : ByteArray), .string (⟨#[112, 114, 101, 115, 101, 110, 116]⟩ : ByteArray), .string (⟨#[97, 100, 109, 105, 116]⟩ : ByteArray), .string (⟨#[114, 101, 102, 117, 115, 101]⟩ : ByteArray), .string (⟨#[114, 101, 108, 101, 97, 115, 101]⟩ : ByteArray), .string (⟨#[108, 101, 97, 118, 101]⟩ : ByteArray), .string (⟨#[112, 97, 115, 115]⟩ : ByteArray), .string (⟨#[117, 112]⟩ : ByteArray), .string (⟨#[100, 111, 119, 110]⟩ : ByteArray), .string (⟨#[114, 101, 116, 117, 114, 110]⟩ : ByteArray)]) (ok := fun _ => True) (okp := fun _ => True) ?hr ?hp (fun _ hk => hk) trivial (Below.refl _ _) (Nat.le_refl _) (by simp) ?_; (case hd => rfl); (case hg => rfl); (case hr => first | (go_simp; done) | (go_simp; rfl)); (case hp => exact (Reps.one (show Kd.M Kd.string _ _ _ (⟨#[]⟩ : ByteArray) [.string (⟨#[]⟩ : ByteArray)] from rfl) (Reps.one (show Kd.M Kd.string _ _ _ (⟨#[99, 97, 108, 108]⟩ : ByteArray) [.string (⟨#[99, 97, 108, 108]⟩ : ByteArray)] from rfl) (Reps.one (show Kd.M Kd.string _ _ _ (⟨#[114, 101, 103]⟩ : ByteArray) [.string (⟨#[114, 101, 103]⟩ : ByteArray)] from rfl) (Reps.one (show Kd.M Kd.string _ _ _ (⟨#[112, 114, 101, 115, 101, 110, 116]⟩ : ByteArray) [.string (⟨#[112, 114, 101, 115, 101, 110, 116]⟩ : ByteArray)] from rfl) (Reps.one (show Kd.M Kd.string _ _ _ (⟨#[97, 100, 109, 105, 116]⟩ : ByteArray) [.string (⟨#[97, 100, 109, 105, 116]⟩ : ByteArray)] from rfl) (Reps.one (show Kd.M Kd.string _ _ _ (⟨#[114, 101, 102, 117, 115, 101]⟩ : ByteArray) [.string (⟨#[114, 101, 102, 117, 115, 101]⟩ : ByteArray)] from rfl) (Reps.one (show Kd.M Kd.string _ _ _ (⟨#[114, 101, 108, 101, 97, 115, 101]⟩ : ByteArray) [.string (⟨#[114, 101, 108, 101, 97, 115, 101]⟩ : ByteArray)] from rfl) (Reps.one (show Kd.M Kd.string _ _ _ (⟨#[108, 101, 97, 118, 101]⟩ : ByteArray) [.string (⟨#[108, 101, 97, 118, 101]⟩ : ByteArray)] from rfl) (Reps.one (show Kd.M Kd.string _ _ _ (⟨#[112, 97, 115, 115]⟩ : ByteArray) [.string (⟨#[112, 97, 115, 115]⟩ : ByteArray)] from rfl) (Reps.one (show Kd.M Kd.string _ _ _ (⟨#[117, 112]⟩ : ByteArray) [.string (⟨#[117, 112]⟩ : ByteArray)] from rfl) (Reps.one (show Kd.M Kd.string _ _ _ (⟨#[100, 111, 119, 110]⟩ : ByteArray) [.string (⟨#[100, 111, 119, 110]⟩ : ByteArray)] from rfl) (Reps.one (show Kd.M Kd.string _ _ _ (⟨#[114, 101, 116, 117, 114, 110]⟩ : ByteArray) [.string (⟨#[114, 101, 116, 117, 114, 110]⟩ : ByteArray)] from rfl) (Reps.none _ _)))))))))))))); intro v112 w1 ho2 hb hg_ hnew_; clear hg_ hnew_; (first | rw [← Ny111.out] at ho2 | (simp only [Int.reduceToNat] at ho2; rw [← Ny111.out] at ho2)); have n0_ := Aside0.mk (Kd.R_lower ho2 (below_size (by repeat (first | (with_reducible first | exact HB.out | apply below_alloc | apply pw_below_drewN | apply below_drew1) | exact HB.out)))); have n1_ := Aside0.mk (below_step (by repeat (first | (with_reducible first | exact HB.out | apply below_alloc | apply pw_below_drewN | apply below_drew1) | exact HB.out)) hb); clear HB; have HO113 := n0_; have HB := n1_; clear n0_ n1_; clear hb ho2))
  go_ret
  exact ⟨_, by first | rfl | (simp [errW_none, errW_some] <;> rfl) | (simp [*, errW_none, errW_some] <;> rfl), by (with_reducible repeat (first | apply Kd.R_alloc | apply Kd.R_drewN | apply Kd.R_drew)); exact HO113.out, by repeat (first | (with_reducible first | exact HB.out | apply below_alloc | apply pw_below_drewN | apply below_drew1) | exact HB.out)⟩

/-! ### note_hasOp: function 87 -/
def note_hasOp.f (a0 : Int) : Option (Bool) := if a0 = 1 then (some true) else (some (a0 == 11))
set_option maxHeartbeats 8000000 in
set_option maxRecDepth 100000 in
theorem note_hasOp.calls (a0 : Int) (r : Bool) (w : World) (h : note_hasOp.f a0 = some r) :
    Calls Try.prog 87 #[.int .i64 a0] w fun e w' => e = .returned (.bool r) ∧ Drawn0 w w' := by
  have H : (if a0 = 1 then (some true) else (some (a0 == 11))) = some r := h
  clear h
  by_cases c2 : a0 = 1
  · rw [if_pos c2] at H
    have c2b0 : (a0 == 1) = true := beq_iff_eq.mpr c2
    have c2b1 : (a0 != 1) = false := bne_eq_false_iff_eq.mpr c2
    clear c2
    obtain rfl := Option.some.inj H
    go_enter Try.func87, Try.ntmps87
    go_wp2
    go_ret
    exact ⟨by first | rfl | (simp; done) | (simp [*]; done), by repeat (first | exact Drawn0.refl _ | apply Drawn0.step)⟩
  · rw [if_neg c2] at H
    have c2b0 : (a0 == 1) = false := beq_eq_false_iff_ne.mpr c2
    have c2b1 : (a0 != 1) = true := bne_iff_ne.mpr c2
    obtain rfl := Option.some.inj H
    go_enter Try.func87, Try.ntmps87
    go_wp2
    go_ret
    exact ⟨by first | rfl | (simp; done) | (simp [*]; done), by repeat (first | exact Drawn0.refl _ | apply Drawn0.step)⟩

/-! ### note_ops: function 94 -/
def note_ops.f  : Option (List ByteArray) := some (([(⟨#[]⟩ : ByteArray), (⟨#[114, 108, 111, 99, 107]⟩ : ByteArray), (⟨#[114, 117, 110, 108, 111, 99, 107]⟩ : ByteArray), (⟨#[108, 111, 99, 107]⟩ : ByteArray), (⟨#[117, 110, 108, 111, 99, 107]⟩ : ByteArray), (⟨#[116, 114, 121, 114, 108, 111, 99, 107]⟩ : ByteArray), (⟨#[116, 114, 121, 108, 111, 99, 107]⟩ : ByteArray), (⟨#[117, 112, 103, 114, 97, 100, 101]⟩ : ByteArray), (⟨#[100, 111, 119, 110, 103, 114, 97, 100, 101]⟩ : ByteArray)] : List ByteArray))
set_option maxHeartbeats 8000000 in
set_option maxRecDepth 100000 in
theorem note_ops.calls  (r : List ByteArray) (w : World) (h : note_ops.f  = some r) :
    Calls Try.prog 94 #[] w fun e w' => ∃ v0_ : Value, e = .returned (v0_) ∧ Kd.R Kd.string 9 w' w.heap.size (fun _ => True) v0_ r ∧ Below w.heap.size w w' := by
  have HB := Aside0.mk (Below.refl w.heap.size w)
  have H : (some (([(⟨#[]⟩ : ByteArray), (⟨#[114, 108, 111, 99, 107]⟩ : ByteArray), (⟨#[114, 117, 110, 108, 111, 99, 107]⟩ : ByteArray), (⟨#[108, 111, 99, 107]⟩ : ByteArray), (⟨#[117, 110, 108, 111, 99, 107]⟩ : ByteArray), (⟨#[116, 114, 121, 114, 108, 111, 99, 107]⟩ : ByteArray), (⟨#[116, 114, 121, 108, 111, 99, 107]⟩ : ByteArray), (⟨#[117, 112, 103, 114, 97, 100, 101]⟩ : ByteArray), (⟨#[100, 111, 119, 110, 103, 114, 97, 100, 101]⟩ : ByteArray)] : List ByteArray))) = some r := h
  clear h
  obtain ⟨y114, hy114⟩ : ∃ y_ : List ByteArray, y_ = (([(⟨#[]⟩ : ByteArray), (⟨#[114, 108, 111, 99, 107]⟩ : ByteArray), (⟨#[114, 117, 110, 108, 111, 99, 107]⟩ : ByteArray), (⟨#[108, 111, 99, 107]⟩ : ByteArray), (⟨#[117, 110, 108, 111, 99, 107]⟩ : ByteArray), (⟨#[116, 114, 121, 114, 108, 111, 99, 107]⟩ : ByteArray), (⟨#[116, 114, 121, 108, 111, 99, 107]⟩ : ByteArray), (⟨#[117, 112, 103, 114, 97, 100, 101]⟩ : ByteArray), (⟨#[100, 111, 119, 110, 103, 114, 97, 100, 101]⟩ : ByteArray)] : List ByteArray)) := ⟨_, rfl⟩
  replace H : (some y114) = some r := by first | (rw [hy114]; with_reducible exact H) | (have H2_ := (Option.bind_some _ _).symm.trans H; rw [hy114]; with_reducible exact H2_) | (have H2_ := (Option.bind_some _ _).symm.trans H; with_reducible exact H2_) | with_reducible exact H | (rw [hy114]; exact H) | exact H
  have Ny114 := Aside0.mk hy114
  clear hy114
  obtain rfl := Option.some.inj H
  go_enter Try.func94, Try.ntmps94
  go_wp2_with (first | ((with_reducible refine gate_dst (N := 1) rfl ?_); refine Kd.R_lit Kd.string _ 9 ?hg (N := 1) ?hd (xs := ([(⟨#[]⟩ : ByteArray), (⟨#[114, 108, 111, 99, 107]⟩ : ByteArray), (⟨#[114, 117, 110, 108, 111, 99, 107]⟩ : ByteArray), (⟨#[108, 111, 99, 107]⟩ : ByteArray), (⟨#[117, 110, 108, 111, 99, 107]⟩ : ByteArray), (⟨#[116, 114, 121, 114, 108, 111, 99, 107]⟩ : ByteArray), (⟨#[116, 114, 121, 108, 111, 99, 107]⟩ : ByteArray), (⟨#[117, 112, 103, 114, 97, 100, 101]⟩ : ByteArray), (⟨#[100, 111, 119, 110, 103, 114, 97, 100, 101]⟩ : ByteArray)] : List ByteArray)) (inner := [.string (⟨#[]⟩ : ByteArray), .string (⟨#[114, 108, 111, 99, 107]⟩ : ByteArray), .string (⟨#[114, 117, 110, 108, 111, 99, 107]⟩ : ByteArray), .string (⟨#[108, 111, 99, 107]⟩ : ByteArray), .string (⟨#[117, 110, 108, 111, 99, 107]⟩ : ByteArray), .string (⟨#[116, 114, 121, 114, 108, 111, 99, 107]⟩ : ByteArray), .string (⟨#[116, 114, 121, 108, 111, 99, 107]⟩ : ByteArray), .string (⟨#[117, 112, 103, 114, 97, 100, 101]⟩ : ByteArray), .string (⟨#[100, 111, 119, 110, 103, 114, 97, 100, 101]⟩ : ByteArray)]) (ok := fun _ => True) (okp := fun _ => True) ?hr ?hp (fun _ hk => hk) trivial (Below.refl _ _) (Nat.le_refl _) (by simp) ?_; (case hd => rfl); (case hg => rfl); (case hr => first | (go_simp; done) | (go_simp; rfl)); (case hp => exact (Reps.one (show Kd.M Kd.string _ _ _ (⟨#[]⟩ : ByteArray) [.string (⟨#[]⟩ : ByteArray)] from rfl) (Reps.one (show Kd.M Kd.string _ _ _ (⟨#[114, 108, 111, 99, 107]⟩ : ByteArray) [.string (⟨#[114, 108, 111, 99, 107]⟩ : ByteArray)] from rfl) (Reps.one (show Kd.M Kd.string _ _ _ (⟨#[114, 117, 110, 108, 111, 99, 107]⟩ : ByteArray) [.string (⟨#[114, 117, 110, 108, 111, 99, 107]⟩ : ByteArray)] from rfl) (Reps.one (show Kd.M Kd.string _ _ _ (⟨#[108, 111, 99, 107]⟩ : ByteArray) [.string (⟨#[108, 111, 99, 107]⟩ : ByteArray)] from rfl) (Reps.one (show Kd.M Kd.string _ _ _ (⟨#[117, 110, 108, 111, 99, 107]⟩ : ByteArray) [.string (⟨#[117, 110, 108, 111, 99, 107]⟩ : ByteArray)] from rfl) (Reps.one (show Kd.M Kd.string _ _ _ (⟨#[116, 114, 121, 114, 108, 111, 99, 107]⟩ : ByteArray) [.string (⟨#[116, 114, 121, 114, 108, 111, 99, 107]⟩ : ByteArray)] from rfl) (Reps.one (show Kd.M Kd.string _ _ _ (⟨#[116, 114, 121, 108, 111, 99, 107]⟩ : ByteArray) [.string (⟨#[116, 114, 121, 108, 111, 99, 107]⟩ : ByteArray)] from rfl) (Reps.one (show Kd.M Kd.string _ _ _ (⟨#[117, 112, 103, 114, 97, 100, 101]⟩ : ByteArray) [.string (⟨#[117, 112, 103, 114, 97, 100, 101]⟩ : ByteArray)] from rfl) (Reps.one (show Kd.M Kd.string _ _ _ (⟨#[100, 111, 119, 110, 103, 114, 97, 100, 101]⟩ : ByteArray) [.string (⟨#[100, 111, 119, 110, 103, 114, 97, 100, 101]⟩ : ByteArray)] from rfl) (Reps.none _ _))))))))))); intro v115 w1 ho2 hb hg_ hnew_; clear hg_ hnew_; (first | rw [← Ny114.out] at ho2 | (simp only [Int.reduceToNat] at ho2; rw [← Ny114.out] at ho2)); have n0_ := Aside0.mk (Kd.R_lower ho2 (below_size (by repeat (first | (with_reducible first | exact HB.out | apply below_alloc | apply pw_below_drewN | apply below_drew1) | exact HB.out)))); have n1_ := Aside0.mk (below_step (by repeat (first | (with_reducible first | exact HB.out | apply below_alloc | apply pw_below_drewN | apply below_drew1) | exact HB.out)) hb); clear HB; have HO116 := n0_; have HB := n1_; clear n0_ n1_; clear hb ho2))
  go_ret
  exact ⟨_, by first | rfl | (simp [errW_none, errW_some] <;> rfl) | (simp [*, errW_none, errW_some] <;> rfl), by (with_reducible repeat (first | apply Kd.R_alloc | apply Kd.R_drewN | apply Kd.R_drew)); exact HO116.out, by repeat (first | (with_reducible first | exact HB.out | apply below_alloc | apply pw_below_drewN | apply below_drew1) | exact HB.out)⟩

/-! ### note_Op: function 88 -/
def note_Op.f (a0 : Int) : Option (ByteArray) := (note_ops.f).bind fun t117 => ((note_at.f t117 a0).bind fun t120 => (some t120))
set_option maxHeartbeats 8000000 in
set_option maxRecDepth 100000 in
theorem note_Op.calls (a0 : Int) (r : ByteArray) (w : World) (h : note_Op.f a0 = some r) :
    Calls Try.prog 88 #[.int .i64 a0] w fun e w' => e = .returned (.string r) ∧ Below w.heap.size w w' := by
  have HB := Aside0.mk (Below.refl w.heap.size w)
  have H : ((note_ops.f).bind fun t117 => ((note_at.f t117 a0).bind fun t120 => (some t120))) = some r := h
  clear h
  replace H := Option.bind_eq_some_iff.mp H
  obtain ⟨t117, A20, H⟩ := H
  replace H : ((note_at.f t117 a0).bind fun t120 => (some t120)) = some r := H
  have A2 := Aside0.mk A20
  clear A20
  replace H := Option.bind_eq_some_iff.mp H
  obtain ⟨t120, A30, H⟩ := H
  replace H : (some t120) = some r := H
  have A3 := Aside0.mk A30
  clear A30
  obtain rfl := Option.some.inj H
  go_enter Try.func88, Try.ntmps88
  go_wp2_with (first | ((with_reducible refine gate_callee (f := 94) rfl ?_); refine goesL_ (some 3) rfl rfl Try.func94 (by kernel_rfl) rfl #[] rfl (by (try simp only [List.map_toArray, List.map_cons, List.map_nil]); first | done | rfl | (simp only [List.length_drop, List.length_take]; rfl)) ?_; (with_reducible refine (note_ops.calls  t117 _ A2.out).mono ?_); rintro e w4 ⟨v118, rfl, ho0, hb⟩; refine ⟨_, rfl, ?_⟩; have n0_ := Aside0.mk (Kd.R_lower ho0 (below_size (by repeat (first | (with_reducible first | exact HB.out | apply below_alloc | apply pw_below_drewN | apply below_drew1) | exact HB.out)))); have n1_ := Aside0.mk (below_step (by repeat (first | (with_reducible first | exact HB.out | apply below_alloc | apply pw_below_drewN | apply below_drew1) | exact HB.out)) hb); clear HB; have HO119 := n0_; have HB := n1_; clear n0_ n1_; (try clear hb); (try clear hb2); (try clear hk); (try clear hi); (try clear ho0); obtain ⟨Ao5, co5, eo5⟩ := Kd.R_slice HO119.out; subst eo5) | ((with_reducible refine gate_callee (f := 85) rfl ?_); refine goesL_ (some 5) rfl rfl Try.func85 (by kernel_rfl) rfl #[.slice Ao5 t117.length co5, .int .i64 a0] rfl (by (try simp only [List.map_toArray, List.map_cons, List.map_nil]); first | done | rfl | (simp only [List.length_drop, List.length_take]; rfl)) ?_; (with_reducible refine (note_at.calls _ _ t117 a0 t120 _ ?side1 ?side2 A3.out).mono ?_); (case side1 => repeat (first | exact (Kd.R_reads' HO119.out).2.2 | (with_reducible refine Kd.C_alloc ?_ _) | (with_reducible refine Kd.C_drewN ?_ _) | (with_reducible refine Kd.C_drew ?_))); (case side2 => exact (Kd.R_reads' HO119.out).2.1); rintro e w' ⟨rfl, ⟨nd, rfl⟩⟩; refine ⟨_, rfl, ?_⟩))
  go_ret
  exact ⟨by first | rfl | (simp [errW_none, errW_some] <;> rfl) | (simp [*, errW_none, errW_some] <;> rfl), by repeat (first | (with_reducible first | exact HB.out | apply below_alloc | apply pw_below_drewN | apply below_drew1) | exact HB.out)⟩

-- NOT PRINTED: function 74 (note_Right)

-- NOT PRINTED: function 55 (rec_Check)

/-! ### stilemanref05_word: function 89 -/
def stilemanref05_word.f (a0 : Int) : Option (ByteArray) := (some (([(⟨#[]⟩ : ByteArray), (⟨#[99, 97, 108, 108]⟩ : ByteArray), (⟨#[114, 101, 103]⟩ : ByteArray), (⟨#[112, 114, 101, 115, 101, 110, 116]⟩ : ByteArray), (⟨#[97, 100, 109, 105, 116]⟩ : ByteArray), (⟨#[114, 101, 102, 117, 115, 101]⟩ : ByteArray), (⟨#[114, 101, 108, 101, 97, 115, 101]⟩ : ByteArray), (⟨#[108, 101, 97, 118, 101]⟩ : ByteArray), (⟨#[112, 97, 115, 115]⟩ : ByteArray), (⟨#[117, 112]⟩ : ByteArray), (⟨#[100, 111, 119, 110]⟩ : ByteArray), (⟨#[114, 101, 116, 117, 114, 110]⟩ : ByteArray)] : List ByteArray) : List ByteArray)).bind fun y132 => (if a0 < 0 then (some (⟨#[]⟩ : ByteArray)) else (if a0 > 11 then (some (⟨#[]⟩ : ByteArray)) else (if 0 ≤ a0 then (if a0 < (y132.length : Int) then (some (rdOf ByteArray.empty y132 a0)) else (none)) else (none))))
set_option maxHeartbeats 8000000 in
set_option maxRecDepth 100000 in
theorem stilemanref05_word.calls (a0 : Int) (r : ByteArray) (w : World) (h : stilemanref05_word.f a0 = some r) :
    Calls Try.prog 89 #[.int .i64 a0] w fun e w' => e = .returned (.string r) ∧ Below w.heap.size w w' := by
  have HB := Aside0.mk (Below.refl w.heap.size w)
  have H : ((some (([(⟨#[]⟩ : ByteArray), (⟨#[99, 97, 108, 108]⟩ : ByteArray), (⟨#[114, 101, 103]⟩ : ByteArray), (⟨#[112, 114, 101, 115, 101, 110, 116]⟩ : ByteArray), (⟨#[97, 100, 109, 105, 116]⟩ : ByteArray), (⟨#[114, 101, 102, 117, 115, 101]⟩ : ByteArray), (⟨#[114, 101, 108, 101, 97, 115, 101]⟩ : ByteArray), (⟨#[108, 101, 97, 118, 101]⟩ : ByteArray), (⟨#[112, 97, 115, 115]⟩ : ByteArray), (⟨#[117, 112]⟩ : ByteArray), (⟨#[100, 111, 119, 110]⟩ : ByteArray), (⟨#[114, 101, 116, 117, 114, 110]⟩ : ByteArray)] : List ByteArray) : List ByteArray)).bind fun y132 => (if a0 < 0 then (some (⟨#[]⟩ : ByteArray)) else (if a0 > 11 then (some (⟨#[]⟩ : ByteArray)) else (if 0 ≤ a0 then (if a0 < (y132.length : Int) then (some (rdOf ByteArray.empty y132 a0)) else (none)) else (none))))) = some r := h
  clear h
  obtain ⟨y132, hy132⟩ : ∃ y_ : List ByteArray, y_ = (([(⟨#[]⟩ : ByteArray), (⟨#[99, 97, 108, 108]⟩ : ByteArray), (⟨#[114, 101, 103]⟩ : ByteArray), (⟨#[112, 114, 101, 115, 101, 110, 116]⟩ : ByteArray), (⟨#[97, 100, 109, 105, 116]⟩ : ByteArray), (⟨#[114, 101, 102, 117, 115, 101]⟩ : ByteArray), (⟨#[114, 101, 108, 101, 97, 115, 101]⟩ : ByteArray), (⟨#[108, 101, 97, 118, 101]⟩ : ByteArray), (⟨#[112, 97, 115, 115]⟩ : ByteArray), (⟨#[117, 112]⟩ : ByteArray), (⟨#[100, 111, 119, 110]⟩ : ByteArray), (⟨#[114, 101, 116, 117, 114, 110]⟩ : ByteArray)] : List ByteArray)) := ⟨_, rfl⟩
  replace H : (if a0 < 0 then (some (⟨#[]⟩ : ByteArray)) else (if a0 > 11 then (some (⟨#[]⟩ : ByteArray)) else (if 0 ≤ a0 then (if a0 < (y132.length : Int) then (some (rdOf ByteArray.empty y132 a0)) else (none)) else (none)))) = some r := by first | (rw [hy132]; with_reducible exact H) | (have H2_ := (Option.bind_some _ _).symm.trans H; rw [hy132]; with_reducible exact H2_) | (have H2_ := (Option.bind_some _ _).symm.trans H; with_reducible exact H2_) | with_reducible exact H | (rw [hy132]; exact H) | exact H
  have Ny132 := Aside0.mk hy132
  clear hy132
  by_cases c2 : a0 < 0
  · rw [if_pos c2] at H
    have c2b0 : decide (a0 < 0) = true := decide_eq_true c2
    clear c2
    obtain rfl := Option.some.inj H
    go_enter Try.func89, Try.ntmps89
    go_wp2_with (first | ((with_reducible refine gate_dst (N := 4) rfl ?_); refine Kd.R_lit Kd.string _ 9 ?hg (N := 4) ?hd (xs := ([(⟨#[]⟩ : ByteArray), (⟨#[99, 97, 108, 108]⟩ : ByteArray), (⟨#[114, 101, 103]⟩ : ByteArray), (⟨#[112, 114, 101, 115, 101, 110, 116]⟩ : ByteArray), (⟨#[97, 100, 109, 105, 116]⟩ : ByteArray), (⟨#[114, 101, 102, 117, 115, 101]⟩ : ByteArray), (⟨#[114, 101, 108, 101, 97, 115, 101]⟩ : ByteArray), (⟨#[108, 101, 97, 118, 101]⟩ : ByteArray), (⟨#[112, 97, 115, 115]⟩ : ByteArray), (⟨#[117, 112]⟩ : ByteArray), (⟨#[100, 111, 119, 110]⟩ : ByteArray), (⟨#[114, 101, 116, 117, 114, 110]⟩ : ByteArray)] : List ByteArray)) (inner := [.string (⟨#[]⟩ : ByteArray), .string (⟨#[99, 97, 108, 108]⟩ : ByteArray), .string (⟨#[114, 101, 103]⟩ : ByteArray), .string (⟨#[112, 114, 101, 115, 101, 110, 116]⟩ : ByteArray), .string (⟨#[97, 100, 109, 105, 116]⟩ : ByteArray), .string (⟨#[114, 101, 102, 117, 115, 101]⟩ : ByteArray), .string (⟨#[114, 101, 108, 101, 97, 115, 101]⟩ : ByteArray), .string (⟨#[108, 101, 97, 118, 101]⟩ : ByteArray), .string (⟨#[112, 97, 115, 115]⟩ : ByteArray), .string (⟨#[117, 112]⟩ : ByteArray), .string (⟨#[100, 111, 119, 110]⟩ : ByteArray), .string (⟨#[114, 101, 116, 117, 114, 110]⟩ : ByteArray)]) (ok := fun _ => True) (okp := fun _ => True) ?hr ?hp (fun _ hk => hk) trivial (Below.refl _ _) (Nat.le_refl _) (by simp) ?_; (case hd => rfl); (case hg => rfl); (case hr => first | (go_simp; done) | (go_simp; rfl)); (case hp => exact (Reps.one (show Kd.M Kd.string _ _ _ (⟨#[]⟩ : ByteArray) [.string (⟨#[]⟩ : ByteArray)] from rfl) (Reps.one (show Kd.M Kd.string _ _ _ (⟨#[99, 97, 108, 108]⟩ : ByteArray) [.string (⟨#[99, 97, 108, 108]⟩ : ByteArray)] from rfl) (Reps.one (show Kd.M Kd.string _ _ _ (⟨#[114, 101, 103]⟩ : ByteArray) [.string (⟨#[114, 101, 103]⟩ : ByteArray)] from rfl) (Reps.one (show Kd.M Kd.string _ _ _ (⟨#[112, 114, 101, 115, 101, 110, 116]⟩ : ByteArray) [.string (⟨#[112, 114, 101, 115, 101, 110, 116]⟩ : ByteArray)] from rfl) (Reps.one (show Kd.M Kd.string _ _ _ (⟨#[97, 100, 109, 105, 116]⟩ : ByteArray) [.string (⟨#[97, 100, 109, 105, 116]⟩ : ByteArray)] from rfl) (Reps.one (show Kd.M Kd.string _ _ _ (⟨#[114, 101, 102, 117, 115, 101]⟩ : ByteArray) [.string (⟨#[114, 101, 102, 117, 115, 101]⟩ : ByteArray)] from rfl) (Reps.one (show Kd.M Kd.string _ _ _ (⟨#[114, 101, 108, 101, 97, 115, 101]⟩ : ByteArray) [.string (⟨#[114, 101, 108, 101, 97, 115, 101]⟩ : ByteArray)] from rfl) (Reps.one (show Kd.M Kd.string _ _ _ (⟨#[108, 101, 97, 118, 101]⟩ : ByteArray) [.string (⟨#[108, 101, 97, 118, 101]⟩ : ByteArray)] from rfl) (Reps.one (show Kd.M Kd.string _ _ _ (⟨#[112, 97, 115, 115]⟩ : ByteArray) [.string (⟨#[112, 97, 115, 115]⟩ : ByteArray)] from rfl) (Reps.one (show Kd.M Kd.string _ _ _ (⟨#[117, 112]⟩ : ByteArray) [.string (⟨#[117, 112]⟩ : ByteArray)] from rfl) (Reps.one (show Kd.M Kd.string _ _ _ (⟨#[100, 111, 119, 110]⟩ : ByteArray) [.string (⟨#[100, 111, 119, 110]⟩ : ByteArray)] from rfl) (Reps.one (show Kd.M Kd.string _ _ _ (⟨#[114, 101, 116, 117, 114, 110]⟩ : ByteArray) [.string (⟨#[114, 101, 116, 117, 114, 110]⟩ : ByteArray)] from rfl) (Reps.none _ _)))))))))))))); intro v133 w3 ho4 hb hg_ hnew_; clear hg_ hnew_; (first | rw [← Ny132.out] at ho4 | (simp only [Int.reduceToNat] at ho4; rw [← Ny132.out] at ho4)); have n0_ := Aside0.mk (Kd.R_lower ho4 (below_size (by repeat (first | (with_reducible first | exact HB.out | apply below_alloc | apply pw_below_drewN | apply below_drew1) | exact HB.out)))); have n1_ := Aside0.mk (below_step (by repeat (first | (with_reducible first | exact HB.out | apply below_alloc | apply pw_below_drewN | apply below_drew1) | exact HB.out)) hb); clear HB; have HO134 := n0_; have HB := n1_; clear n0_ n1_; clear hb ho4))
    go_ret
    exact ⟨by first | rfl | (simp [errW_none, errW_some] <;> rfl) | (simp [*, errW_none, errW_some] <;> rfl), by repeat (first | (with_reducible first | exact HB.out | apply below_alloc | apply pw_below_drewN | apply below_drew1) | exact HB.out)⟩
  · rw [if_neg c2] at H
    have c2b0 : decide (a0 < 0) = false := decide_eq_false c2
    clear c2
    by_cases c5 : a0 > 11
    · rw [if_pos c5] at H
      have c5b0 : decide (11 < a0) = true := decide_eq_true c5
      clear c5
      obtain rfl := Option.some.inj H
      go_enter Try.func89, Try.ntmps89
      go_wp2_with (first | ((with_reducible refine gate_dst (N := 4) rfl ?_); refine Kd.R_lit Kd.string _ 9 ?hg (N := 4) ?hd (xs := ([(⟨#[]⟩ : ByteArray), (⟨#[99, 97, 108, 108]⟩ : ByteArray), (⟨#[114, 101, 103]⟩ : ByteArray), (⟨#[112, 114, 101, 115, 101, 110, 116]⟩ : ByteArray), (⟨#[97, 100, 109, 105, 116]⟩ : ByteArray), (⟨#[114, 101, 102, 117, 115, 101]⟩ : ByteArray), (⟨#[114, 101, 108, 101, 97, 115, 101]⟩ : ByteArray), (⟨#[108, 101, 97, 118, 101]⟩ : ByteArray), (⟨#[112, 97, 115, 115]⟩ : ByteArray), (⟨#[117, 112]⟩ : ByteArray), (⟨#[100, 111, 119, 110]⟩ : ByteArray), (⟨#[114, 101, 116, 117, 114, 110]⟩ : ByteArray)] : List ByteArray)) (inner := [.string (⟨#[]⟩ : ByteArray), .string (⟨#[99, 97, 108, 108]⟩ : ByteArray), .string (⟨#[114, 101, 103]⟩ : ByteArray), .string (⟨#[112, 114, 101, 115, 101, 110, 116]⟩ : ByteArray), .string (⟨#[97, 100, 109, 105, 116]⟩ : ByteArray), .string (⟨#[114, 101, 102, 117, 115, 101]⟩ : ByteArray), .string (⟨#[114, 101, 108, 101, 97, 115, 101]⟩ : ByteArray), .string (⟨#[108, 101, 97, 118, 101]⟩ : ByteArray), .string (⟨#[112, 97, 115, 115]⟩ : ByteArray), .string (⟨#[117, 112]⟩ : ByteArray), .string (⟨#[100, 111, 119, 110]⟩ : ByteArray), .string (⟨#[114, 101, 116, 117, 114, 110]⟩ : ByteArray)]) (ok := fun _ => True) (okp := fun _ => True) ?hr ?hp (fun _ hk => hk) trivial (Below.refl _ _) (Nat.le_refl _) (by simp) ?_; (case hd => rfl); (case hg => rfl); (case hr => first | (go_simp; done) | (go_simp; rfl)); (case hp => exact (Reps.one (show Kd.M Kd.string _ _ _ (⟨#[]⟩ : ByteArray) [.string (⟨#[]⟩ : ByteArray)] from rfl) (Reps.one (show Kd.M Kd.string _ _ _ (⟨#[99, 97, 108, 108]⟩ : ByteArray) [.string (⟨#[99, 97, 108, 108]⟩ : ByteArray)] from rfl) (Reps.one (show Kd.M Kd.string _ _ _ (⟨#[114, 101, 103]⟩ : ByteArray) [.string (⟨#[114, 101, 103]⟩ : ByteArray)] from rfl) (Reps.one (show Kd.M Kd.string _ _ _ (⟨#[112, 114, 101, 115, 101, 110, 116]⟩ : ByteArray) [.string (⟨#[112, 114, 101, 115, 101, 110, 116]⟩ : ByteArray)] from rfl) (Reps.one (show Kd.M Kd.string _ _ _ (⟨#[97, 100, 109, 105, 116]⟩ : ByteArray) [.string (⟨#[97, 100, 109, 105, 116]⟩ : ByteArray)] from rfl) (Reps.one (show Kd.M Kd.string _ _ _ (⟨#[114, 101, 102, 117, 115, 101]⟩ : ByteArray) [.string (⟨#[114, 101, 102, 117, 115, 101]⟩ : ByteArray)] from rfl) (Reps.one (show Kd.M Kd.string _ _ _ (⟨#[114, 101, 108, 101, 97, 115, 101]⟩ : ByteArray) [.string (⟨#[114, 101, 108, 101, 97, 115, 101]⟩ : ByteArray)] from rfl) (Reps.one (show Kd.M Kd.string _ _ _ (⟨#[108, 101, 97, 118, 101]⟩ : ByteArray) [.string (⟨#[108, 101, 97, 118, 101]⟩ : ByteArray)] from rfl) (Reps.one (show Kd.M Kd.string _ _ _ (⟨#[112, 97, 115, 115]⟩ : ByteArray) [.string (⟨#[112, 97, 115, 115]⟩ : ByteArray)] from rfl) (Reps.one (show Kd.M Kd.string _ _ _ (⟨#[117, 112]⟩ : ByteArray) [.string (⟨#[117, 112]⟩ : ByteArray)] from rfl) (Reps.one (show Kd.M Kd.string _ _ _ (⟨#[100, 111, 119, 110]⟩ : ByteArray) [.string (⟨#[100, 111, 119, 110]⟩ : ByteArray)] from rfl) (Reps.one (show Kd.M Kd.string _ _ _ (⟨#[114, 101, 116, 117, 114, 110]⟩ : ByteArray) [.string (⟨#[114, 101, 116, 117, 114, 110]⟩ : ByteArray)] from rfl) (Reps.none _ _)))))))))))))); intro v133 w6 ho7 hb hg_ hnew_; clear hg_ hnew_; (first | rw [← Ny132.out] at ho7 | (simp only [Int.reduceToNat] at ho7; rw [← Ny132.out] at ho7)); have n0_ := Aside0.mk (Kd.R_lower ho7 (below_size (by repeat (first | (with_reducible first | exact HB.out | apply below_alloc | apply pw_below_drewN | apply below_drew1) | exact HB.out)))); have n1_ := Aside0.mk (below_step (by repeat (first | (with_reducible first | exact HB.out | apply below_alloc | apply pw_below_drewN | apply below_drew1) | exact HB.out)) hb); clear HB; have HO134 := n0_; have HB := n1_; clear n0_ n1_; clear hb ho7))
      go_ret
      exact ⟨by first | rfl | (simp [errW_none, errW_some] <;> rfl) | (simp [*, errW_none, errW_some] <;> rfl), by repeat (first | (with_reducible first | exact HB.out | apply below_alloc | apply pw_below_drewN | apply below_drew1) | exact HB.out)⟩
    · rw [if_neg c5] at H
      have c5b0 : decide (11 < a0) = false := decide_eq_false c5
      clear c5
      by_cases c8 : 0 ≤ a0
      · rw [if_pos c8] at H
        have c8b0 : decide (0 ≤ a0) = true := decide_eq_true c8
        clear c8
        by_cases c9 : a0 < (y132.length : Int)
        · rw [if_pos c9] at H
          have c9b0 : decide (a0 < (y132.length : Int)) = true := decide_eq_true c9
          clear c9
          obtain rfl := Option.some.inj H
          go_enter Try.func89, Try.ntmps89
          go_wp2_with (first | ((with_reducible refine gate_dst (N := 4) rfl ?_); refine Kd.R_lit Kd.string _ 9 ?hg (N := 4) ?hd (xs := ([(⟨#[]⟩ : ByteArray), (⟨#[99, 97, 108, 108]⟩ : ByteArray), (⟨#[114, 101, 103]⟩ : ByteArray), (⟨#[112, 114, 101, 115, 101, 110, 116]⟩ : ByteArray), (⟨#[97, 100, 109, 105, 116]⟩ : ByteArray), (⟨#[114, 101, 102, 117, 115, 101]⟩ : ByteArray), (⟨#[114, 101, 108, 101, 97, 115, 101]⟩ : ByteArray), (⟨#[108, 101, 97, 118, 101]⟩ : ByteArray), (⟨#[112, 97, 115, 115]⟩ : ByteArray), (⟨#[117, 112]⟩ : ByteArray), (⟨#[100, 111, 119, 110]⟩ : ByteArray), (⟨#[114, 101, 116, 117, 114, 110]⟩ : ByteArray)] : List ByteArray)) (inner := [.string (⟨#[]⟩ : ByteArray), .string (⟨#[99, 97, 108, 108]⟩ : ByteArray), .string (⟨#[114, 101, 103]⟩ : ByteArray), .string (⟨#[112, 114, 101, 115, 101, 110, 116]⟩ : ByteArray), .string (⟨#[97, 100, 109, 105, 116]⟩ : ByteArray), .string (⟨#[114, 101, 102, 117, 115, 101]⟩ : ByteArray), .string (⟨#[114, 101, 108, 101, 97, 115, 101]⟩ : ByteArray), .string (⟨#[108, 101, 97, 118, 101]⟩ : ByteArray), .string (⟨#[112, 97, 115, 115]⟩ : ByteArray), .string (⟨#[117, 112]⟩ : ByteArray), .string (⟨#[100, 111, 119, 110]⟩ : ByteArray), .string (⟨#[114, 101, 116, 117, 114, 110]⟩ : ByteArray)]) (ok := fun _ => True) (okp := fun _ => True) ?hr ?hp (fun _ hk => hk) trivial (Below.refl _ _) (Nat.le_refl _) (by simp) ?_; (case hd => rfl); (case hg => rfl); (case hr => first | (go_simp; done) | (go_simp; rfl)); (case hp => exact (Reps.one (show Kd.M Kd.string _ _ _ (⟨#[]⟩ : ByteArray) [.string (⟨#[]⟩ : ByteArray)] from rfl) (Reps.one (show Kd.M Kd.string _ _ _ (⟨#[99, 97, 108, 108]⟩ : ByteArray) [.string (⟨#[99, 97, 108, 108]⟩ : ByteArray)] from rfl) (Reps.one (show Kd.M Kd.string _ _ _ (⟨#[114, 101, 103]⟩ : ByteArray) [.string (⟨#[114, 101, 103]⟩ : ByteArray)] from rfl) (Reps.one (show Kd.M Kd.string _ _ _ (⟨#[112, 114, 101, 115, 101, 110, 116]⟩ : ByteArray) [.string (⟨#[112, 114, 101, 115, 101, 110, 116]⟩ : ByteArray)] from rfl) (Reps.one (show Kd.M Kd.string _ _ _ (⟨#[97, 100, 109, 105, 116]⟩ : ByteArray) [.string (⟨#[97, 100, 109, 105, 116]⟩ : ByteArray)] from rfl) (Reps.one (show Kd.M Kd.string _ _ _ (⟨#[114, 101, 102, 117, 115, 101]⟩ : ByteArray) [.string (⟨#[114, 101, 102, 117, 115, 101]⟩ : ByteArray)] from rfl) (Reps.one (show Kd.M Kd.string _ _ _ (⟨#[114, 101, 108, 101, 97, 115, 101]⟩ : ByteArray) [.string (⟨#[114, 101, 108, 101, 97, 115, 101]⟩ : ByteArray)] from rfl) (Reps.one (show Kd.M Kd.string _ _ _ (⟨#[108, 101, 97, 118, 101]⟩ : ByteArray) [.string (⟨#[108, 101, 97, 118, 101]⟩ : ByteArray)] from rfl) (Reps.one (show Kd.M Kd.string _ _ _ (⟨#[112, 97, 115, 115]⟩ : ByteArray) [.string (⟨#[112, 97, 115, 115]⟩ : ByteArray)] from rfl) (Reps.one (show Kd.M Kd.string _ _ _ (⟨#[117, 112]⟩ : ByteArray) [.string (⟨#[117, 112]⟩ : ByteArray)] from rfl) (Reps.one (show Kd.M Kd.string _ _ _ (⟨#[100, 111, 119, 110]⟩ : ByteArray) [.string (⟨#[100, 111, 119, 110]⟩ : ByteArray)] from rfl) (Reps.one (show Kd.M Kd.string _ _ _ (⟨#[114, 101, 116, 117, 114, 110]⟩ : ByteArray) [.string (⟨#[114, 101, 116, 117, 114, 110]⟩ : ByteArray)] from rfl) (Reps.none _ _)))))))))))))); intro v133 w10 ho11 hb hg_ hnew_; clear hg_ hnew_; (first | rw [← Ny132.out] at ho11 | (simp only [Int.reduceToNat] at ho11; rw [← Ny132.out] at ho11)); have n0_ := Aside0.mk (Kd.R_lower ho11 (below_size (by repeat (first | (with_reducible first | exact HB.out | apply below_alloc | apply pw_below_drewN | apply below_drew1) | exact HB.out)))); have n1_ := Aside0.mk (below_step (by repeat (first | (with_reducible first | exact HB.out | apply below_alloc | apply pw_below_drewN | apply below_drew1) | exact HB.out)) hb); clear HB; have HO134 := n0_; have HB := n1_; clear n0_ n1_; clear hb ho11; obtain ⟨Ao12, co12, eo12⟩ := Kd.R_slice HO134.out; subst eo12; have p135 : 0 ≤ (a0 : Int) := of_decide_eq_true (by first | (with_reducible assumption) | assumption); have q135 : a0 < (y132.length : Int) := of_decide_eq_true (by first | (with_reducible assumption) | assumption); obtain ⟨ad135, e135, hx135_0⟩ := Kd.at_string (Kd.R_reads' HO134.out).2.2 a0 p135 q135; cases e135; replace p135 := eq_true p135; replace q135 := eq_true q135))
          go_ret
          exact ⟨by first | rfl | (simp [errW_none, errW_some] <;> rfl) | (simp [*, errW_none, errW_some] <;> rfl), by repeat (first | (with_reducible first | exact HB.out | apply below_alloc | apply pw_below_drewN | apply below_drew1) | exact HB.out)⟩
        · rw [if_neg c9] at H
          exact absurd H (by simp)
      · rw [if_neg c8] at H
        exact absurd H (by simp)

/-! ### stilemanref05_Op: function 90 -/
def stilemanref05_Op.f (a0 : Int) : Option (ByteArray) := (some (([(⟨#[]⟩ : ByteArray), (⟨#[114, 108, 111, 99, 107]⟩ : ByteArray), (⟨#[114, 117, 110, 108, 111, 99, 107]⟩ : ByteArray), (⟨#[108, 111, 99, 107]⟩ : ByteArray), (⟨#[117, 110, 108, 111, 99, 107]⟩ : ByteArray), (⟨#[116, 114, 121, 114, 108, 111, 99, 107]⟩ : ByteArray), (⟨#[116, 114, 121, 108, 111, 99, 107]⟩ : ByteArray), (⟨#[117, 112, 103, 114, 97, 100, 101]⟩ : ByteArray), (⟨#[100, 111, 119, 110, 103, 114, 97, 100, 101]⟩ : ByteArray)] : List ByteArray) : List ByteArray)).bind fun y136 => (if a0 < 0 then (some (⟨#[]⟩ : ByteArray)) else (if a0 > 8 then (some (⟨#[]⟩ : ByteArray)) else (if 0 ≤ a0 then (if a0 < (y136.length : Int) then (some (rdOf ByteArray.empty y136 a0)) else (none)) else (none))))
set_option maxHeartbeats 8000000 in
set_option maxRecDepth 100000 in
theorem stilemanref05_Op.calls (a0 : Int) (r : ByteArray) (w : World) (h : stilemanref05_Op.f a0 = some r) :
    Calls Try.prog 90 #[.int .i64 a0] w fun e w' => e = .returned (.string r) ∧ Below w.heap.size w w' := by
  have HB := Aside0.mk (Below.refl w.heap.size w)
  have H : ((some (([(⟨#[]⟩ : ByteArray), (⟨#[114, 108, 111, 99, 107]⟩ : ByteArray), (⟨#[114, 117, 110, 108, 111, 99, 107]⟩ : ByteArray), (⟨#[108, 111, 99, 107]⟩ : ByteArray), (⟨#[117, 110, 108, 111, 99, 107]⟩ : ByteArray), (⟨#[116, 114, 121, 114, 108, 111, 99, 107]⟩ : ByteArray), (⟨#[116, 114, 121, 108, 111, 99, 107]⟩ : ByteArray), (⟨#[117, 112, 103, 114, 97, 100, 101]⟩ : ByteArray), (⟨#[100, 111, 119, 110, 103, 114, 97, 100, 101]⟩ : ByteArray)] : List ByteArray) : List ByteArray)).bind fun y136 => (if a0 < 0 then (some (⟨#[]⟩ : ByteArray)) else (if a0 > 8 then (some (⟨#[]⟩ : ByteArray)) else (if 0 ≤ a0 then (if a0 < (y136.length : Int) then (some (rdOf ByteArray.empty y136 a0)) else (none)) else (none))))) = some r := h
  clear h
  obtain ⟨y136, hy136⟩ : ∃ y_ : List ByteArray, y_ = (([(⟨#[]⟩ : ByteArray), (⟨#[114, 108, 111, 99, 107]⟩ : ByteArray), (⟨#[114, 117, 110, 108, 111, 99, 107]⟩ : ByteArray), (⟨#[108, 111, 99, 107]⟩ : ByteArray), (⟨#[117, 110, 108, 111, 99, 107]⟩ : ByteArray), (⟨#[116, 114, 121, 114, 108, 111, 99, 107]⟩ : ByteArray), (⟨#[116, 114, 121, 108, 111, 99, 107]⟩ : ByteArray), (⟨#[117, 112, 103, 114, 97, 100, 101]⟩ : ByteArray), (⟨#[100, 111, 119, 110, 103, 114, 97, 100, 101]⟩ : ByteArray)] : List ByteArray)) := ⟨_, rfl⟩
  replace H : (if a0 < 0 then (some (⟨#[]⟩ : ByteArray)) else (if a0 > 8 then (some (⟨#[]⟩ : ByteArray)) else (if 0 ≤ a0 then (if a0 < (y136.length : Int) then (some (rdOf ByteArray.empty y136 a0)) else (none)) else (none)))) = some r := by first | (rw [hy136]; with_reducible exact H) | (have H2_ := (Option.bind_some _ _).symm.trans H; rw [hy136]; with_reducible exact H2_) | (have H2_ := (Option.bind_some _ _).symm.trans H; with_reducible exact H2_) | with_reducible exact H | (rw [hy136]; exact H) | exact H
  have Ny136 := Aside0.mk hy136
  clear hy136
  by_cases c2 : a0 < 0
  · rw [if_pos c2] at H
    have c2b0 : decide (a0 < 0) = true := decide_eq_true c2
    clear c2
    obtain rfl := Option.some.inj H
    go_enter Try.func90, Try.ntmps90
    go_wp2_with (first | ((with_reducible refine gate_dst (N := 4) rfl ?_); refine Kd.R_lit Kd.string _ 9 ?hg (N := 4) ?hd (xs := ([(⟨#[]⟩ : ByteArray), (⟨#[114, 108, 111, 99, 107]⟩ : ByteArray), (⟨#[114, 117, 110, 108, 111, 99, 107]⟩ : ByteArray), (⟨#[108, 111, 99, 107]⟩ : ByteArray), (⟨#[117, 110, 108, 111, 99, 107]⟩ : ByteArray), (⟨#[116, 114, 121, 114, 108, 111, 99, 107]⟩ : ByteArray), (⟨#[116, 114, 121, 108, 111, 99, 107]⟩ : ByteArray), (⟨#[117, 112, 103, 114, 97, 100, 101]⟩ : ByteArray), (⟨#[100, 111, 119, 110, 103, 114, 97, 100, 101]⟩ : ByteArray)] : List ByteArray)) (inner := [.string (⟨#[]⟩ : ByteArray), .string (⟨#[114, 108, 111, 99, 107]⟩ : ByteArray), .string (⟨#[114, 117, 110, 108, 111, 99, 107]⟩ : ByteArray), .string (⟨#[108, 111, 99, 107]⟩ : ByteArray), .string (⟨#[117, 110, 108, 111, 99, 107]⟩ : ByteArray), .string (⟨#[116, 114, 121, 114, 108, 111, 99, 107]⟩ : ByteArray), .string (⟨#[116, 114, 121, 108, 111, 99, 107]⟩ : ByteArray), .string (⟨#[117, 112, 103, 114, 97, 100, 101]⟩ : ByteArray), .string (⟨#[100, 111, 119, 110, 103, 114, 97, 100, 101]⟩ : ByteArray)]) (ok := fun _ => True) (okp := fun _ => True) ?hr ?hp (fun _ hk => hk) trivial (Below.refl _ _) (Nat.le_refl _) (by simp) ?_; (case hd => rfl); (case hg => rfl); (case hr => first | (go_simp; done) | (go_simp; rfl)); (case hp => exact (Reps.one (show Kd.M Kd.string _ _ _ (⟨#[]⟩ : ByteArray) [.string (⟨#[]⟩ : ByteArray)] from rfl) (Reps.one (show Kd.M Kd.string _ _ _ (⟨#[114, 108, 111, 99, 107]⟩ : ByteArray) [.string (⟨#[114, 108, 111, 99, 107]⟩ : ByteArray)] from rfl) (Reps.one (show Kd.M Kd.string _ _ _ (⟨#[114, 117, 110, 108, 111, 99, 107]⟩ : ByteArray) [.string (⟨#[114, 117, 110, 108, 111, 99, 107]⟩ : ByteArray)] from rfl) (Reps.one (show Kd.M Kd.string _ _ _ (⟨#[108, 111, 99, 107]⟩ : ByteArray) [.string (⟨#[108, 111, 99, 107]⟩ : ByteArray)] from rfl) (Reps.one (show Kd.M Kd.string _ _ _ (⟨#[117, 110, 108, 111, 99, 107]⟩ : ByteArray) [.string (⟨#[117, 110, 108, 111, 99, 107]⟩ : ByteArray)] from rfl) (Reps.one (show Kd.M Kd.string _ _ _ (⟨#[116, 114, 121, 114, 108, 111, 99, 107]⟩ : ByteArray) [.string (⟨#[116, 114, 121, 114, 108, 111, 99, 107]⟩ : ByteArray)] from rfl) (Reps.one (show Kd.M Kd.string _ _ _ (⟨#[116, 114, 121, 108, 111, 99, 107]⟩ : ByteArray) [.string (⟨#[116, 114, 121, 108, 111, 99, 107]⟩ : ByteArray)] from rfl) (Reps.one (show Kd.M Kd.string _ _ _ (⟨#[117, 112, 103, 114, 97, 100, 101]⟩ : ByteArray) [.string (⟨#[117, 112, 103, 114, 97, 100, 101]⟩ : ByteArray)] from rfl) (Reps.one (show Kd.M Kd.string _ _ _ (⟨#[100, 111, 119, 110, 103, 114, 97, 100, 101]⟩ : ByteArray) [.string (⟨#[100, 111, 119, 110, 103, 114, 97, 100, 101]⟩ : ByteArray)] from rfl) (Reps.none _ _))))))))))); intro v137 w3 ho4 hb hg_ hnew_; clear hg_ hnew_; (first | rw [← Ny136.out] at ho4 | (simp only [Int.reduceToNat] at ho4; rw [← Ny136.out] at ho4)); have n0_ := Aside0.mk (Kd.R_lower ho4 (below_size (by repeat (first | (with_reducible first | exact HB.out | apply below_alloc | apply pw_below_drewN | apply below_drew1) | exact HB.out)))); have n1_ := Aside0.mk (below_step (by repeat (first | (with_reducible first | exact HB.out | apply below_alloc | apply pw_below_drewN | apply below_drew1) | exact HB.out)) hb); clear HB; have HO138 := n0_; have HB := n1_; clear n0_ n1_; clear hb ho4))
    go_ret
    exact ⟨by first | rfl | (simp [errW_none, errW_some] <;> rfl) | (simp [*, errW_none, errW_some] <;> rfl), by repeat (first | (with_reducible first | exact HB.out | apply below_alloc | apply pw_below_drewN | apply below_drew1) | exact HB.out)⟩
  · rw [if_neg c2] at H
    have c2b0 : decide (a0 < 0) = false := decide_eq_false c2
    clear c2
    by_cases c5 : a0 > 8
    · rw [if_pos c5] at H
      have c5b0 : decide (8 < a0) = true := decide_eq_true c5
      clear c5
      obtain rfl := Option.some.inj H
      go_enter Try.func90, Try.ntmps90
      go_wp2_with (first | ((with_reducible refine gate_dst (N := 4) rfl ?_); refine Kd.R_lit Kd.string _ 9 ?hg (N := 4) ?hd (xs := ([(⟨#[]⟩ : ByteArray), (⟨#[114, 108, 111, 99, 107]⟩ : ByteArray), (⟨#[114, 117, 110, 108, 111, 99, 107]⟩ : ByteArray), (⟨#[108, 111, 99, 107]⟩ : ByteArray), (⟨#[117, 110, 108, 111, 99, 107]⟩ : ByteArray), (⟨#[116, 114, 121, 114, 108, 111, 99, 107]⟩ : ByteArray), (⟨#[116, 114, 121, 108, 111, 99, 107]⟩ : ByteArray), (⟨#[117, 112, 103, 114, 97, 100, 101]⟩ : ByteArray), (⟨#[100, 111, 119, 110, 103, 114, 97, 100, 101]⟩ : ByteArray)] : List ByteArray)) (inner := [.string (⟨#[]⟩ : ByteArray), .string (⟨#[114, 108, 111, 99, 107]⟩ : ByteArray), .string (⟨#[114, 117, 110, 108, 111, 99, 107]⟩ : ByteArray), .string (⟨#[108, 111, 99, 107]⟩ : ByteArray), .string (⟨#[117, 110, 108, 111, 99, 107]⟩ : ByteArray), .string (⟨#[116, 114, 121, 114, 108, 111, 99, 107]⟩ : ByteArray), .string (⟨#[116, 114, 121, 108, 111, 99, 107]⟩ : ByteArray), .string (⟨#[117, 112, 103, 114, 97, 100, 101]⟩ : ByteArray), .string (⟨#[100, 111, 119, 110, 103, 114, 97, 100, 101]⟩ : ByteArray)]) (ok := fun _ => True) (okp := fun _ => True) ?hr ?hp (fun _ hk => hk) trivial (Below.refl _ _) (Nat.le_refl _) (by simp) ?_; (case hd => rfl); (case hg => rfl); (case hr => first | (go_simp; done) | (go_simp; rfl)); (case hp => exact (Reps.one (show Kd.M Kd.string _ _ _ (⟨#[]⟩ : ByteArray) [.string (⟨#[]⟩ : ByteArray)] from rfl) (Reps.one (show Kd.M Kd.string _ _ _ (⟨#[114, 108, 111, 99, 107]⟩ : ByteArray) [.string (⟨#[114, 108, 111, 99, 107]⟩ : ByteArray)] from rfl) (Reps.one (show Kd.M Kd.string _ _ _ (⟨#[114, 117, 110, 108, 111, 99, 107]⟩ : ByteArray) [.string (⟨#[114, 117, 110, 108, 111, 99, 107]⟩ : ByteArray)] from rfl) (Reps.one (show Kd.M Kd.string _ _ _ (⟨#[108, 111, 99, 107]⟩ : ByteArray) [.string (⟨#[108, 111, 99, 107]⟩ : ByteArray)] from rfl) (Reps.one (show Kd.M Kd.string _ _ _ (⟨#[117, 110, 108, 111, 99, 107]⟩ : ByteArray) [.string (⟨#[117, 110, 108, 111, 99, 107]⟩ : ByteArray)] from rfl) (Reps.one (show Kd.M Kd.string _ _ _ (⟨#[116, 114, 121, 114, 108, 111, 99, 107]⟩ : ByteArray) [.string (⟨#[116, 114, 121, 114, 108, 111, 99, 107]⟩ : ByteArray)] from rfl) (Reps.one (show Kd.M Kd.string _ _ _ (⟨#[116, 114, 121, 108, 111, 99, 107]⟩ : ByteArray) [.string (⟨#[116, 114, 121, 108, 111, 99, 107]⟩ : ByteArray)] from rfl) (Reps.one (show Kd.M Kd.string _ _ _ (⟨#[117, 112, 103, 114, 97, 100, 101]⟩ : ByteArray) [.string (⟨#[117, 112, 103, 114, 97, 100, 101]⟩ : ByteArray)] from rfl) (Reps.one (show Kd.M Kd.string _ _ _ (⟨#[100, 111, 119, 110, 103, 114, 97, 100, 101]⟩ : ByteArray) [.string (⟨#[100, 111, 119, 110, 103, 114, 97, 100, 101]⟩ : ByteArray)] from rfl) (Reps.none _ _))))))))))); intro v137 w6 ho7 hb hg_ hnew_; clear hg_ hnew_; (first | rw [← Ny136.out] at ho7 | (simp only [Int.reduceToNat] at ho7; rw [← Ny136.out] at ho7)); have n0_ := Aside0.mk (Kd.R_lower ho7 (below_size (by repeat (first | (with_reducible first | exact HB.out | apply below_alloc | apply pw_below_drewN | apply below_drew1) | exact HB.out)))); have n1_ := Aside0.mk (below_step (by repeat (first | (with_reducible first | exact HB.out | apply below_alloc | apply pw_below_drewN | apply below_drew1) | exact HB.out)) hb); clear HB; have HO138 := n0_; have HB := n1_; clear n0_ n1_; clear hb ho7))
      go_ret
      exact ⟨by first | rfl | (simp [errW_none, errW_some] <;> rfl) | (simp [*, errW_none, errW_some] <;> rfl), by repeat (first | (with_reducible first | exact HB.out | apply below_alloc | apply pw_below_drewN | apply below_drew1) | exact HB.out)⟩
    · rw [if_neg c5] at H
      have c5b0 : decide (8 < a0) = false := decide_eq_false c5
      clear c5
      by_cases c8 : 0 ≤ a0
      · rw [if_pos c8] at H
        have c8b0 : decide (0 ≤ a0) = true := decide_eq_true c8
        clear c8
        by_cases c9 : a0 < (y136.length : Int)
        · rw [if_pos c9] at H
          have c9b0 : decide (a0 < (y136.length : Int)) = true := decide_eq_true c9
          clear c9
          obtain rfl := Option.some.inj H
          go_enter Try.func90, Try.ntmps90
          go_wp2_with (first | ((with_reducible refine gate_dst (N := 4) rfl ?_); refine Kd.R_lit Kd.string _ 9 ?hg (N := 4) ?hd (xs := ([(⟨#[]⟩ : ByteArray), (⟨#[114, 108, 111, 99, 107]⟩ : ByteArray), (⟨#[114, 117, 110, 108, 111, 99, 107]⟩ : ByteArray), (⟨#[108, 111, 99, 107]⟩ : ByteArray), (⟨#[117, 110, 108, 111, 99, 107]⟩ : ByteArray), (⟨#[116, 114, 121, 114, 108, 111, 99, 107]⟩ : ByteArray), (⟨#[116, 114, 121, 108, 111, 99, 107]⟩ : ByteArray), (⟨#[117, 112, 103, 114, 97, 100, 101]⟩ : ByteArray), (⟨#[100, 111, 119, 110, 103, 114, 97, 100, 101]⟩ : ByteArray)] : List ByteArray)) (inner := [.string (⟨#[]⟩ : ByteArray), .string (⟨#[114, 108, 111, 99, 107]⟩ : ByteArray), .string (⟨#[114, 117, 110, 108, 111, 99, 107]⟩ : ByteArray), .string (⟨#[108, 111, 99, 107]⟩ : ByteArray), .string (⟨#[117, 110, 108, 111, 99, 107]⟩ : ByteArray), .string (⟨#[116, 114, 121, 114, 108, 111, 99, 107]⟩ : ByteArray), .string (⟨#[116, 114, 121, 108, 111, 99, 107]⟩ : ByteArray), .string (⟨#[117, 112, 103, 114, 97, 100, 101]⟩ : ByteArray), .string (⟨#[100, 111, 119, 110, 103, 114, 97, 100, 101]⟩ : ByteArray)]) (ok := fun _ => True) (okp := fun _ => True) ?hr ?hp (fun _ hk => hk) trivial (Below.refl _ _) (Nat.le_refl _) (by simp) ?_; (case hd => rfl); (case hg => rfl); (case hr => first | (go_simp; done) | (go_simp; rfl)); (case hp => exact (Reps.one (show Kd.M Kd.string _ _ _ (⟨#[]⟩ : ByteArray) [.string (⟨#[]⟩ : ByteArray)] from rfl) (Reps.one (show Kd.M Kd.string _ _ _ (⟨#[114, 108, 111, 99, 107]⟩ : ByteArray) [.string (⟨#[114, 108, 111, 99, 107]⟩ : ByteArray)] from rfl) (Reps.one (show Kd.M Kd.string _ _ _ (⟨#[114, 117, 110, 108, 111, 99, 107]⟩ : ByteArray) [.string (⟨#[114, 117, 110, 108, 111, 99, 107]⟩ : ByteArray)] from rfl) (Reps.one (show Kd.M Kd.string _ _ _ (⟨#[108, 111, 99, 107]⟩ : ByteArray) [.string (⟨#[108, 111, 99, 107]⟩ : ByteArray)] from rfl) (Reps.one (show Kd.M Kd.string _ _ _ (⟨#[117, 110, 108, 111, 99, 107]⟩ : ByteArray) [.string (⟨#[117, 110, 108, 111, 99, 107]⟩ : ByteArray)] from rfl) (Reps.one (show Kd.M Kd.string _ _ _ (⟨#[116, 114, 121, 114, 108, 111, 99, 107]⟩ : ByteArray) [.string (⟨#[116, 114, 121, 114, 108, 111, 99, 107]⟩ : ByteArray)] from rfl) (Reps.one (show Kd.M Kd.string _ _ _ (⟨#[116, 114, 121, 108, 111, 99, 107]⟩ : ByteArray) [.string (⟨#[116, 114, 121, 108, 111, 99, 107]⟩ : ByteArray)] from rfl) (Reps.one (show Kd.M Kd.string _ _ _ (⟨#[117, 112, 103, 114, 97, 100, 101]⟩ : ByteArray) [.string (⟨#[117, 112, 103, 114, 97, 100, 101]⟩ : ByteArray)] from rfl) (Reps.one (show Kd.M Kd.string _ _ _ (⟨#[100, 111, 119, 110, 103, 114, 97, 100, 101]⟩ : ByteArray) [.string (⟨#[100, 111, 119, 110, 103, 114, 97, 100, 101]⟩ : ByteArray)] from rfl) (Reps.none _ _))))))))))); intro v137 w10 ho11 hb hg_ hnew_; clear hg_ hnew_; (first | rw [← Ny136.out] at ho11 | (simp only [Int.reduceToNat] at ho11; rw [← Ny136.out] at ho11)); have n0_ := Aside0.mk (Kd.R_lower ho11 (below_size (by repeat (first | (with_reducible first | exact HB.out | apply below_alloc | apply pw_below_drewN | apply below_drew1) | exact HB.out)))); have n1_ := Aside0.mk (below_step (by repeat (first | (with_reducible first | exact HB.out | apply below_alloc | apply pw_below_drewN | apply below_drew1) | exact HB.out)) hb); clear HB; have HO138 := n0_; have HB := n1_; clear n0_ n1_; clear hb ho11; obtain ⟨Ao12, co12, eo12⟩ := Kd.R_slice HO138.out; subst eo12; have p139 : 0 ≤ (a0 : Int) := of_decide_eq_true (by first | (with_reducible assumption) | assumption); have q139 : a0 < (y136.length : Int) := of_decide_eq_true (by first | (with_reducible assumption) | assumption); obtain ⟨ad139, e139, hx139_0⟩ := Kd.at_string (Kd.R_reads' HO138.out).2.2 a0 p139 q139; cases e139; replace p139 := eq_true p139; replace q139 := eq_true q139))
          go_ret
          exact ⟨by first | rfl | (simp [errW_none, errW_some] <;> rfl) | (simp [*, errW_none, errW_some] <;> rfl), by repeat (first | (with_reducible first | exact HB.out | apply below_alloc | apply pw_below_drewN | apply below_drew1) | exact HB.out)⟩
        · rw [if_neg c9] at H
          exact absurd H (by simp)
      · rw [if_neg c8] at H
        exact absurd H (by simp)

/-! ### stilemanref05_Right: function 75 -/
mutual
def stilemanref05_Right.j0 : Nat → Bool → Int → Int → Int → Int → Option (Bool)
  | 0, _, _, _, _, _ => none
  | k + 1, x17, x141000, x141001, x141002, x141003 => if x17 = true then (some false) else (if x141001 = 1 then (stilemanref05_Right.j1 k true x141000 x141001 x141002 x141003) else (stilemanref05_Right.j1 k (x141001 == 11) x141000 x141001 x141002 x141003))
def stilemanref05_Right.j1 : Nat → Bool → Int → Int → Int → Int → Option (Bool)
  | 0, _, _, _, _, _ => none
  | k + 1, x3, x141000, x141001, x141002, x141003 => if x3 = true then ((stilemanref05_Op.f x141002).bind fun t142 => (if t142.toList = ([] : List UInt8) then (stilemanref05_Right.j2 k true x141000 x141001 x141002 x141003) else (stilemanref05_Right.j2 k false x141000 x141001 x141002 x141003))) else (stilemanref05_Right.j2 k (x141002 != 0) x141000 x141001 x141002 x141003)
def stilemanref05_Right.j2 : Nat → Bool → Int → Int → Int → Int → Option (Bool)
  | 0, _, _, _, _, _ => none
  | k + 1, x41, x141000, x141001, x141002, x141003 => if x41 = true then (some false) else (if x141001 = 2 then (if x141003 = 1 then (some true) else (some (x141003 == 2))) else (if x141001 = 11 then (if x141003 ≥ 1 then (some (decide (x141003 ≤ 3))) else (some false)) else (some (x141003 == 0))))
end
def stilemanref05_Right.f (k : Nat) (a0_0 : Int) (a0_1 : Int) (a0_2 : Int) (a0_3 : Int) : Option (Bool) := if a0_0 < 0 then (stilemanref05_Right.j0 k true a0_0 a0_1 a0_2 a0_3) else (if a0_0 > 63 then (stilemanref05_Right.j0 k true a0_0 a0_1 a0_2 a0_3) else ((stilemanref05_word.f a0_1).bind fun t141 => (stilemanref05_Right.j0 k (t141.toList == ([] : List UInt8)) a0_0 a0_1 a0_2 a0_3)))
theorem stilemanref05_Right.mono_l : ∀ k, (∀ y0 y1 y2 y3 y4, LeO (stilemanref05_Right.j0 k y0 y1 y2 y3 y4) (stilemanref05_Right.j0 (k + 1) y0 y1 y2 y3 y4)) ∧ (∀ y0 y1 y2 y3 y4, LeO (stilemanref05_Right.j1 k y0 y1 y2 y3 y4) (stilemanref05_Right.j1 (k + 1) y0 y1 y2 y3 y4)) ∧ (∀ y0 y1 y2 y3 y4, LeO (stilemanref05_Right.j2 k y0 y1 y2 y3 y4) (stilemanref05_Right.j2 (k + 1) y0 y1 y2 y3 y4))
  | 0 => ⟨fun _ _ _ _ _ r h => by simp [stilemanref05_Right.j0] at h, fun _ _ _ _ _ r h => by simp [stilemanref05_Right.j1] at h, fun _ _ _ _ _ r h => by simp [stilemanref05_Right.j2] at h⟩
  | k + 1 => by
    obtain ⟨ih0, ih1, ih2⟩ := stilemanref05_Right.mono_l k
    refine ⟨?_, ?_, ?_⟩
    · intro y0 y1 y2 y3 y4
      unfold stilemanref05_Right.j0
      repeat' first
      | (with_reducible exact ih0 _ _ _ _ _)
      | (with_reducible exact ih1 _ _ _ _ _)
      | (with_reducible exact ih2 _ _ _ _ _)
      | (with_reducible exact LeO.refl _)
      | (with_reducible exact LeO.none _)
      | (with_reducible refine LeO.ite ?_ ?_)
      | (with_reducible refine LeO.bind ?_ (fun _ => ?_))
      | exact ih0 _ _ _ _ _
      | exact ih1 _ _ _ _ _
      | exact ih2 _ _ _ _ _
      | exact LeO.none _
      | refine LeO.ite ?_ ?_
      | refine LeO.bind ?_ (fun _ => ?_)
    · intro y0 y1 y2 y3 y4
      unfold stilemanref05_Right.j1
      repeat' first
      | (with_reducible exact ih0 _ _ _ _ _)
      | (with_reducible exact ih1 _ _ _ _ _)
      | (with_reducible exact ih2 _ _ _ _ _)
      | (with_reducible exact LeO.refl _)
      | (with_reducible exact LeO.none _)
      | (with_reducible refine LeO.ite ?_ ?_)
      | (with_reducible refine LeO.bind ?_ (fun _ => ?_))
      | exact ih0 _ _ _ _ _
      | exact ih1 _ _ _ _ _
      | exact ih2 _ _ _ _ _
      | exact LeO.none _
      | refine LeO.ite ?_ ?_
      | refine LeO.bind ?_ (fun _ => ?_)
    · intro y0 y1 y2 y3 y4
      unfold stilemanref05_Right.j2
      repeat' first
      | (with_reducible exact ih0 _ _ _ _ _)
      | (with_reducible exact ih1 _ _ _ _ _)
      | (with_reducible exact ih2 _ _ _ _ _)
      | (with_reducible exact LeO.refl _)
      | (with_reducible exact LeO.none _)
      | (with_reducible refine LeO.ite ?_ ?_)
      | (with_reducible refine LeO.bind ?_ (fun _ => ?_))
      | exact ih0 _ _ _ _ _
      | exact ih1 _ _ _ _ _
      | exact ih2 _ _ _ _ _
      | exact LeO.none _
      | refine LeO.ite ?_ ?_
      | refine LeO.bind ?_ (fun _ => ?_)
theorem stilemanref05_Right.mono : ∀ a0 a1 a2 a3 k, LeO (stilemanref05_Right.f k a0 a1 a2 a3) (stilemanref05_Right.f (k + 1) a0 a1 a2 a3) := by
  intro a0 a1 a2 a3 k
  obtain ⟨ih0, ih1, ih2⟩ := stilemanref05_Right.mono_l k
  unfold stilemanref05_Right.f
  repeat' first
      | (with_reducible exact ih0 _ _ _ _ _)
      | (with_reducible exact ih1 _ _ _ _ _)
      | (with_reducible exact ih2 _ _ _ _ _)
      | (with_reducible exact LeO.refl _)
      | (with_reducible exact LeO.none _)
      | (with_reducible refine LeO.ite ?_ ?_)
      | (with_reducible refine LeO.bind ?_ (fun _ => ?_))
      | exact ih0 _ _ _ _ _
      | exact ih1 _ _ _ _ _
      | exact ih2 _ _ _ _ _
      | exact LeO.none _
      | refine LeO.ite ?_ ?_
      | refine LeO.bind ?_ (fun _ => ?_)
set_option maxHeartbeats 8000000 in
set_option maxRecDepth 100000 in
theorem stilemanref05_Right.calls (k : Nat) (a0_0 : Int) (a0_1 : Int) (a0_2 : Int) (a0_3 : Int) (r : Bool) (w : World) (h : stilemanref05_Right.f k a0_0 a0_1 a0_2 a0_3 = some r) :
    Calls Try.prog 75 #[.agg #[.int .i64 a0_0, .int .i64 a0_1, .int .i64 a0_2, .int .i64 a0_3]] w fun e w' => e = .returned (.bool r) ∧ Below w.heap.size w w' := by
  have hu98 := Try.underlying98
  have HB := Aside0.mk (Below.refl w.heap.size w)
  have H : (if a0_0 < 0 then (stilemanref05_Right.j0 k true a0_0 a0_1 a0_2 a0_3) else (if a0_0 > 63 then (stilemanref05_Right.j0 k true a0_0 a0_1 a0_2 a0_3) else ((stilemanref05_word.f a0_1).bind fun t141 => (stilemanref05_Right.j0 k (t141.toList == ([] : List UInt8)) a0_0 a0_1 a0_2 a0_3)))) = some r := h
  clear h
  have HC2 := Aside0.mk H
  clear H
  go_enter Try.func75, Try.ntmps75
  go_upto_region 1 with (first | ((with_reducible refine gate_dst (N := 1) rfl ?_); refine box_event ?hg (N := 1) ?hd (cs := #[.int .i64 a0_0, .int .i64 a0_1, .int .i64 a0_2, .int .i64 a0_3]) (t := 98) ?hr ?_; (case hd => rfl); (case hg => rfl); (case hr => first | (go_simp; done) | (go_simp; rfl)); intro gb140 hg w3 hbox hb; have n0_ := Aside0.mk (below_step (by repeat (first | (with_reducible first | exact HB.out | apply below_alloc | apply pw_below_drewN | apply below_drew1) | exact HB.out)) hb); have n1_ := Aside0.mk (hbox); have n2_ := Aside0.mk ((by rw [hg]; exact (below_size (by repeat (first | (with_reducible first | exact HB.out | apply below_alloc | apply pw_below_drewN | apply below_drew1) | exact HB.out))) : w.heap.size ≤ gb140)); have n3_ := Aside0.mk ((by rw [hg]; exact (below_size (by repeat (first | (with_reducible first | exact HB.out | apply below_alloc | apply pw_below_drewN | apply below_drew1) | exact HB.out))) : w.heap.size ≤ gb140)); clear HB; have HB := n0_; have BK140 := n1_; have GW140 := n2_; have GE140 := n3_; clear n0_ n1_ n2_ n3_; clear hb hbox hg))
  (try simp only [Act.put, List.setIfInBounds_toArray, List.set_cons_zero, List.set_cons_succ])
  go_cut [17] (fun v17 wc => ∃ (kq : Nat) (x17_1 : Bool), v17 = .bool x17_1 ∧ Aside0 (stilemanref05_Right.j0 kq x17_1 a0_0 a0_1 a0_2 a0_3 = some r) ∧ Aside0 (kq ≤ k) ∧ Aside0 (wc.heap[gb140]? = some (.cells #[.int .i64 a0_0, .int .i64 a0_1, .int .i64 a0_2, .int .i64 a0_3] 98 (0, 0))) ∧ Aside0 (Below w.heap.size w wc))
  case first =>
    have H := HC2.out
    clear HC2
    by_cases c4 : a0_0 < 0
    · rw [if_pos c4] at H
      have c4b0 : decide (a0_0 < 0) = true := decide_eq_true c4
      clear c4
      (first | rw [c4b0] | (simp only [i64_w, i32_w]; rw [c4b0]) | skip)
      have H' := Aside0.mk H
      clear H
      have hcz5_0 : w3.cell? ⟨gb140, 0, none⟩ = some (.int .i64 a0_0) := (blk_cell BK140.out 0).trans rfl
      have hcz5_1 : w3.cell? ⟨gb140, 1, none⟩ = some (.int .i64 a0_1) := (blk_cell BK140.out 1).trans rfl
      have hcz5_2 : w3.cell? ⟨gb140, 2, none⟩ = some (.int .i64 a0_2) := (blk_cell BK140.out 2).trans rfl
      have hcz5_3 : w3.cell? ⟨gb140, 3, none⟩ = some (.int .i64 a0_3) := (blk_cell BK140.out 3).trans rfl
      have hfz5_0 := blk_frozen BK140.out 0
      have hfz5_1 := blk_frozen BK140.out 1
      have hfz5_2 := blk_frozen BK140.out 2
      have hfz5_3 := blk_frozen BK140.out 3
      go_wp2
      go_meet
      case rel => exact ⟨_, (true), (by first | rfl | (simp; done) | (simp [*]; done)), H', ⟨by first | omega | exact Nat.le_refl _⟩, ⟨by (with_reducible repeat (first | refine blk_drewN ?_ _ | refine blk_drew ?_ | refine blk_alloc ?_ _)); exact BK140.out⟩, ⟨by repeat (first | (with_reducible first | exact HB.out | apply below_alloc | apply pw_below_drewN | apply below_drew1 | refine below_set ?_ GE140.out) | exact HB.out)⟩⟩
    · rw [if_neg c4] at H
      have c4b0 : decide (a0_0 < 0) = false := decide_eq_false c4
      clear c4
      (first | rw [c4b0] | (simp only [i64_w, i32_w]; rw [c4b0]) | skip)
      by_cases c6 : a0_0 > 63
      · rw [if_pos c6] at H
        have c6b0 : decide (63 < a0_0) = true := decide_eq_true c6
        clear c6
        have H' := Aside0.mk H
        clear H
        have hcz7_0 : w3.cell? ⟨gb140, 0, none⟩ = some (.int .i64 a0_0) := (blk_cell BK140.out 0).trans rfl
        have hcz7_1 : w3.cell? ⟨gb140, 1, none⟩ = some (.int .i64 a0_1) := (blk_cell BK140.out 1).trans rfl
        have hcz7_2 : w3.cell? ⟨gb140, 2, none⟩ = some (.int .i64 a0_2) := (blk_cell BK140.out 2).trans rfl
        have hcz7_3 : w3.cell? ⟨gb140, 3, none⟩ = some (.int .i64 a0_3) := (blk_cell BK140.out 3).trans rfl
        have hfz7_0 := blk_frozen BK140.out 0
        have hfz7_1 := blk_frozen BK140.out 1
        have hfz7_2 := blk_frozen BK140.out 2
        have hfz7_3 := blk_frozen BK140.out 3
        go_wp2
        go_meet
        case rel => exact ⟨_, (true), (by first | rfl | (simp; done) | (simp [*]; done)), H', ⟨by first | omega | exact Nat.le_refl _⟩, ⟨by (with_reducible repeat (first | refine blk_drewN ?_ _ | refine blk_drew ?_ | refine blk_alloc ?_ _)); exact BK140.out⟩, ⟨by repeat (first | (with_reducible first | exact HB.out | apply below_alloc | apply pw_below_drewN | apply below_drew1 | refine below_set ?_ GE140.out) | exact HB.out)⟩⟩
      · rw [if_neg c6] at H
        have c6b0 : decide (63 < a0_0) = false := decide_eq_false c6
        clear c6
        replace H := Option.bind_eq_some_iff.mp H
        obtain ⟨t141, A80, H⟩ := H
        replace H : (stilemanref05_Right.j0 k (t141.toList == ([] : List UInt8)) a0_0 a0_1 a0_2 a0_3) = some r := H
        have A8 := Aside0.mk A80
        clear A80
        have H' := Aside0.mk H
        clear H
        have hcz9_0 : w3.cell? ⟨gb140, 0, none⟩ = some (.int .i64 a0_0) := (blk_cell BK140.out 0).trans rfl
        have hcz9_1 : w3.cell? ⟨gb140, 1, none⟩ = some (.int .i64 a0_1) := (blk_cell BK140.out 1).trans rfl
        have hcz9_2 : w3.cell? ⟨gb140, 2, none⟩ = some (.int .i64 a0_2) := (blk_cell BK140.out 2).trans rfl
        have hcz9_3 : w3.cell? ⟨gb140, 3, none⟩ = some (.int .i64 a0_3) := (blk_cell BK140.out 3).trans rfl
        have hfz9_0 := blk_frozen BK140.out 0
        have hfz9_1 := blk_frozen BK140.out 1
        have hfz9_2 := blk_frozen BK140.out 2
        have hfz9_3 := blk_frozen BK140.out 3
        go_wp2_with (first | (go_at_call 89; (with_reducible refine (stilemanref05_word.calls a0_1 t141 _ A8.out).mono ?_); rintro e w10 ⟨rfl, hb⟩; have n0_ := Aside0.mk (blk_below (g := gb140) (o := .cells #[.int .i64 a0_0, .int .i64 a0_1, .int .i64 a0_2, .int .i64 a0_3] 98 (0, 0)) (by (with_reducible repeat (first | refine blk_drewN ?_ _ | refine blk_drew ?_ | refine blk_alloc ?_ _)); exact BK140.out) hb); have n1_ := Aside0.mk (below_step (by repeat (first | (with_reducible first | exact HB.out | apply below_alloc | apply pw_below_drewN | apply below_drew1 | refine below_set ?_ GE140.out) | exact HB.out)) hb); clear BK140; clear HB; have BK140 := n0_; have HB := n1_; clear n0_ n1_; (try clear hb); (try clear hb2); (try clear hk); (try clear hi)))
        go_meet
        case rel => exact ⟨_, ((t141.toList == ([] : List UInt8))), (by first | rfl | (simp; done) | (simp [*]; done)), H', ⟨by first | omega | exact Nat.le_refl _⟩, ⟨by (with_reducible repeat (first | refine blk_drewN ?_ _ | refine blk_drew ?_ | refine blk_alloc ?_ _)); exact BK140.out⟩, ⟨by repeat (first | (with_reducible first | exact HB.out | apply below_alloc | apply pw_below_drewN | apply below_drew1 | refine below_set ?_ GE140.out) | exact HB.out)⟩⟩
  case rest =>
    clear HC2
    try clear p2
    try clear c4
    try clear c4b0
    try clear c6
    try clear c6b0
    try clear c7
    try clear hcz5_0
    try clear hcz5_1
    try clear hcz5_2
    try clear hcz5_3
    try clear hcz7_0
    try clear hcz7_1
    try clear hcz7_2
    try clear hcz7_3
    try clear hcz9_0
    try clear hcz9_1
    try clear hcz9_2
    try clear hcz9_3
    try clear hfz5_0
    try clear hfz5_1
    try clear hfz5_2
    try clear hfz5_3
    try clear hfz7_0
    try clear hfz7_1
    try clear hfz7_2
    try clear hfz7_3
    try clear hfz9_0
    try clear hfz9_1
    try clear hfz9_2
    try clear hfz9_3
    obtain ⟨kq, x17_1, rfl, HA, HJ1, BK140, HB⟩ := hcut
    cases kq with
    | zero => exact absurd HA.out (by simp [stilemanref05_Right.j0])
    | succ kj1 =>
      have H := HA.out
      clear HA
      simp only [stilemanref05_Right.j0] at H
      by_cases c11 : x17_1 = true
      · subst c11
        have H1 : (some false) = some r := by rw [if_pos rfl] at H; exact H
        clear H
        have H := H1
        clear H1
        obtain rfl := Option.some.inj H
        go_wp2
        go_ret
        exact ⟨by first | rfl | (simp [errW_none, errW_some] <;> rfl) | (simp [*, errW_none, errW_some] <;> rfl), by repeat (first | (with_reducible first | exact HB.out | apply below_alloc | apply pw_below_drewN | apply below_drew1 | refine below_set ?_ GE140.out) | exact HB.out)⟩
      · replace c11 := Bool.eq_false_iff.mpr c11
        subst c11
        have H1 : (if a0_1 = 1 then (stilemanref05_Right.j1 kj1 true a0_0 a0_1 a0_2 a0_3) else (stilemanref05_Right.j1 kj1 (a0_1 == 11) a0_0 a0_1 a0_2 a0_3)) = some r := by rw [if_neg (show ¬ (false = true) by decide)] at H; exact H
        clear H
        have H := H1
        clear H1
        have HC12 := Aside0.mk H
        clear H
        go_upto_region 3 with (fail)
        go_cut [3] (fun v3 wc => ∃ (kq : Nat) (x3_11 : Bool), v3 = .bool x3_11 ∧ Aside0 (stilemanref05_Right.j1 kq x3_11 a0_0 a0_1 a0_2 a0_3 = some r) ∧ Aside0 (kq ≤ kj1) ∧ Aside0 (wc.heap[gb140]? = some (.cells #[.int .i64 a0_0, .int .i64 a0_1, .int .i64 a0_2, .int .i64 a0_3] 98 (0, 0))) ∧ Aside0 (Below w.heap.size w wc))
        case first =>
          have H := HC12.out
          clear HC12
          by_cases c13 : a0_1 = 1
          · rw [if_pos c13] at H
            have c13b0 : (a0_1 == 1) = true := beq_iff_eq.mpr c13
            have c13b1 : (a0_1 != 1) = false := bne_eq_false_iff_eq.mpr c13
            clear c13
            (first | rw [c13b0] | (simp only [i64_w, i32_w]; rw [c13b0]) | skip)
            have H' := Aside0.mk H
            clear H
            have hcz14_0 : wc.cell? ⟨gb140, 0, none⟩ = some (.int .i64 a0_0) := (blk_cell BK140.out 0).trans rfl
            have hcz14_1 : wc.cell? ⟨gb140, 1, none⟩ = some (.int .i64 a0_1) := (blk_cell BK140.out 1).trans rfl
            have hcz14_2 : wc.cell? ⟨gb140, 2, none⟩ = some (.int .i64 a0_2) := (blk_cell BK140.out 2).trans rfl
            have hcz14_3 : wc.cell? ⟨gb140, 3, none⟩ = some (.int .i64 a0_3) := (blk_cell BK140.out 3).trans rfl
            have hfz14_0 := blk_frozen BK140.out 0
            have hfz14_1 := blk_frozen BK140.out 1
            have hfz14_2 := blk_frozen BK140.out 2
            have hfz14_3 := blk_frozen BK140.out 3
            go_wp2
            go_meet
            case rel => exact ⟨_, (true), (by first | rfl | (simp; done) | (simp [*]; done)), H', ⟨by have := HJ1.out; first | omega | exact Nat.le_refl _⟩, ⟨by (with_reducible repeat (first | refine blk_drewN ?_ _ | refine blk_drew ?_ | refine blk_alloc ?_ _)); exact BK140.out⟩, ⟨by repeat (first | (with_reducible first | exact HB.out | apply below_alloc | apply pw_below_drewN | apply below_drew1 | refine below_set ?_ GE140.out) | exact HB.out)⟩⟩
          · rw [if_neg c13] at H
            have c13b0 : (a0_1 == 1) = false := beq_eq_false_iff_ne.mpr c13
            have c13b1 : (a0_1 != 1) = true := bne_iff_ne.mpr c13
            (first | rw [c13b0] | (simp only [i64_w, i32_w]; rw [c13b0]) | skip)
            have H' := Aside0.mk H
            clear H
            have hcz15_0 : wc.cell? ⟨gb140, 0, none⟩ = some (.int .i64 a0_0) := (blk_cell BK140.out 0).trans rfl
            have hcz15_1 : wc.cell? ⟨gb140, 1, none⟩ = some (.int .i64 a0_1) := (blk_cell BK140.out 1).trans rfl
            have hcz15_2 : wc.cell? ⟨gb140, 2, none⟩ = some (.int .i64 a0_2) := (blk_cell BK140.out 2).trans rfl
            have hcz15_3 : wc.cell? ⟨gb140, 3, none⟩ = some (.int .i64 a0_3) := (blk_cell BK140.out 3).trans rfl
            have hfz15_0 := blk_frozen BK140.out 0
            have hfz15_1 := blk_frozen BK140.out 1
            have hfz15_2 := blk_frozen BK140.out 2
            have hfz15_3 := blk_frozen BK140.out 3
            go_wp2
            go_meet
            case rel => exact ⟨_, ((a0_1 == 11)), (by first | rfl | (simp; done) | (simp [*]; done)), H', ⟨by have := HJ1.out; first | omega | exact Nat.le_refl _⟩, ⟨by (with_reducible repeat (first | refine blk_drewN ?_ _ | refine blk_drew ?_ | refine blk_alloc ?_ _)); exact BK140.out⟩, ⟨by repeat (first | (with_reducible first | exact HB.out | apply below_alloc | apply pw_below_drewN | apply below_drew1 | refine below_set ?_ GE140.out) | exact HB.out)⟩⟩
        case rest =>
          clear HC12
          try clear c1
          try clear p2
          try clear c4
          try clear c4b0
          try clear c6
          try clear c6b0
          try clear c7
          try clear c11
          try clear c13
          try clear c13b0
          try clear c13b1
          try clear hcz14_0
          try clear hcz14_1
          try clear hcz14_2
          try clear hcz14_3
          try clear hcz15_0
          try clear hcz15_1
          try clear hcz15_2
          try clear hcz15_3
          try clear hcz5_0
          try clear hcz5_1
          try clear hcz5_2
          try clear hcz5_3
          try clear hcz7_0
          try clear hcz7_1
          try clear hcz7_2
          try clear hcz7_3
          try clear hcz9_0
          try clear hcz9_1
          try clear hcz9_2
          try clear hcz9_3
          try clear hfz14_0
          try clear hfz14_1
          try clear hfz14_2
          try clear hfz14_3
          try clear hfz15_0
          try clear hfz15_1
          try clear hfz15_2
          try clear hfz15_3
          try clear hfz5_0
          try clear hfz5_1
          try clear hfz5_2
          try clear hfz5_3
          try clear hfz7_0
          try clear hfz7_1
          try clear hfz7_2
          try clear hfz7_3
          try clear hfz9_0
          try clear hfz9_1
          try clear hfz9_2
          try clear hfz9_3
          try clear p2
          obtain ⟨kq, x3_11, rfl, HA, HJ11, BK140, HB⟩ := hcut
          cases kq with
          | zero => exact absurd HA.out (by simp [stilemanref05_Right.j1])
          | succ kj11 =>
            have H := HA.out
            clear HA
            simp only [stilemanref05_Right.j1] at H
            have HC16 := Aside0.mk H
            clear H
            go_upto_region 4 with (fail)
            go_cut [41] (fun v41 wc => ∃ (kq : Nat) (x41_15 : Bool), v41 = .bool x41_15 ∧ Aside0 (stilemanref05_Right.j2 kq x41_15 a0_0 a0_1 a0_2 a0_3 = some r) ∧ Aside0 (kq ≤ kj11) ∧ Aside0 (wc.heap[gb140]? = some (.cells #[.int .i64 a0_0, .int .i64 a0_1, .int .i64 a0_2, .int .i64 a0_3] 98 (0, 0))) ∧ Aside0 (Below w.heap.size w wc))
            case first =>
              have H := HC16.out
              clear HC16
              by_cases c17 : x3_11 = true
              · subst c17
                have H1 : ((stilemanref05_Op.f a0_2).bind fun t142 => (if t142.toList = ([] : List UInt8) then (stilemanref05_Right.j2 kj11 true a0_0 a0_1 a0_2 a0_3) else (stilemanref05_Right.j2 kj11 false a0_0 a0_1 a0_2 a0_3))) = some r := by rw [if_pos rfl] at H; exact H
                clear H
                have H := H1
                clear H1
                replace H := Option.bind_eq_some_iff.mp H
                obtain ⟨t142, A180, H⟩ := H
                replace H : (if t142.toList = ([] : List UInt8) then (stilemanref05_Right.j2 kj11 true a0_0 a0_1 a0_2 a0_3) else (stilemanref05_Right.j2 kj11 false a0_0 a0_1 a0_2 a0_3)) = some r := H
                have A18 := Aside0.mk A180
                clear A180
                by_cases c19 : t142.toList = ([] : List UInt8)
                · rw [if_pos c19] at H
                  have c19b0 : (t142.toList == ([] : List UInt8)) = true := beq_iff_eq.mpr c19
                  have c19b1 : (t142.toList != ([] : List UInt8)) = false := bne_eq_false_iff_eq.mpr c19
                  clear c19
                  (first | rw [c19b0] | (simp only [i64_w, i32_w]; rw [c19b0]) | skip)
                  have H' := Aside0.mk H
                  clear H
                  have hcz20_0 : wc.cell? ⟨gb140, 0, none⟩ = some (.int .i64 a0_0) := (blk_cell BK140.out 0).trans rfl
                  have hcz20_1 : wc.cell? ⟨gb140, 1, none⟩ = some (.int .i64 a0_1) := (blk_cell BK140.out 1).trans rfl
                  have hcz20_2 : wc.cell? ⟨gb140, 2, none⟩ = some (.int .i64 a0_2) := (blk_cell BK140.out 2).trans rfl
                  have hcz20_3 : wc.cell? ⟨gb140, 3, none⟩ = some (.int .i64 a0_3) := (blk_cell BK140.out 3).trans rfl
                  have hfz20_0 := blk_frozen BK140.out 0
                  have hfz20_1 := blk_frozen BK140.out 1
                  have hfz20_2 := blk_frozen BK140.out 2
                  have hfz20_3 := blk_frozen BK140.out 3
                  go_wp2_with (first | (go_at_call 90; (with_reducible refine (stilemanref05_Op.calls a0_2 t142 _ A18.out).mono ?_); rintro e w21 ⟨rfl, hb⟩; have n0_ := Aside0.mk (blk_below (g := gb140) (o := .cells #[.int .i64 a0_0, .int .i64 a0_1, .int .i64 a0_2, .int .i64 a0_3] 98 (0, 0)) (by (with_reducible repeat (first | refine blk_drewN ?_ _ | refine blk_drew ?_ | refine blk_alloc ?_ _)); exact BK140.out) hb); have n1_ := Aside0.mk (below_step (by repeat (first | (with_reducible first | exact HB.out | apply below_alloc | apply pw_below_drewN | apply below_drew1 | refine below_set ?_ GE140.out) | exact HB.out)) hb); clear BK140; clear HB; have BK140 := n0_; have HB := n1_; clear n0_ n1_; (try clear hb); (try clear hb2); (try clear hk); (try clear hi)))
                  go_meet
                  case rel => exact ⟨_, (true), (by first | rfl | (simp; done) | (simp [*]; done)), H', ⟨by have := HJ1.out; have := HJ11.out; first | omega | exact Nat.le_refl _⟩, ⟨by (with_reducible repeat (first | refine blk_drewN ?_ _ | refine blk_drew ?_ | refine blk_alloc ?_ _)); exact BK140.out⟩, ⟨by repeat (first | (with_reducible first | exact HB.out | apply below_alloc | apply pw_below_drewN | apply below_drew1 | refine below_set ?_ GE140.out) | exact HB.out)⟩⟩
                · rw [if_neg c19] at H
                  have c19b0 : (t142.toList == ([] : List UInt8)) = false := beq_eq_false_iff_ne.mpr c19
                  have c19b1 : (t142.toList != ([] : List UInt8)) = true := bne_iff_ne.mpr c19
                  (first | rw [c19b0] | (simp only [i64_w, i32_w]; rw [c19b0]) | skip)
                  have H' := Aside0.mk H
                  clear H
                  have hcz22_0 : wc.cell? ⟨gb140, 0, none⟩ = some (.int .i64 a0_0) := (blk_cell BK140.out 0).trans rfl
                  have hcz22_1 : wc.cell? ⟨gb140, 1, none⟩ = some (.int .i64 a0_1) := (blk_cell BK140.out 1).trans rfl
                  have hcz22_2 : wc.cell? ⟨gb140, 2, none⟩ = some (.int .i64 a0_2) := (blk_cell BK140.out 2).trans rfl
                  have hcz22_3 : wc.cell? ⟨gb140, 3, none⟩ = some (.int .i64 a0_3) := (blk_cell BK140.out 3).trans rfl
                  have hfz22_0 := blk_frozen BK140.out 0
                  have hfz22_1 := blk_frozen BK140.out 1
                  have hfz22_2 := blk_frozen BK140.out 2
                  have hfz22_3 := blk_frozen BK140.out 3
                  go_wp2_with (first | (go_at_call 90; (with_reducible refine (stilemanref05_Op.calls a0_2 t142 _ A18.out).mono ?_); rintro e w23 ⟨rfl, hb⟩; have n0_ := Aside0.mk (blk_below (g := gb140) (o := .cells #[.int .i64 a0_0, .int .i64 a0_1, .int .i64 a0_2, .int .i64 a0_3] 98 (0, 0)) (by (with_reducible repeat (first | refine blk_drewN ?_ _ | refine blk_drew ?_ | refine blk_alloc ?_ _)); exact BK140.out) hb); have n1_ := Aside0.mk (below_step (by repeat (first | (with_reducible first | exact HB.out | apply below_alloc | apply pw_below_drewN | apply below_drew1 | refine below_set ?_ GE140.out) | exact HB.out)) hb); clear BK140; clear HB; have BK140 := n0_; have HB := n1_; clear n0_ n1_; (try clear hb); (try clear hb2); (try clear hk); (try clear hi)))
                  go_meet
                  case rel => exact ⟨_, (false), (by first | rfl | (simp; done) | (simp [*]; done)), H', ⟨by have := HJ1.out; have := HJ11.out; first | omega | exact Nat.le_refl _⟩, ⟨by (with_reducible repeat (first | refine blk_drewN ?_ _ | refine blk_drew ?_ | refine blk_alloc ?_ _)); exact BK140.out⟩, ⟨by repeat (first | (with_reducible first | exact HB.out | apply below_alloc | apply pw_below_drewN | apply below_drew1 | refine below_set ?_ GE140.out) | exact HB.out)⟩⟩
              · replace c17 := Bool.eq_false_iff.mpr c17
                subst c17
                have H1 : (stilemanref05_Right.j2 kj11 (a0_2 != 0) a0_0 a0_1 a0_2 a0_3) = some r := by rw [if_neg (show ¬ (false = true) by decide)] at H; exact H
                clear H
                have H := H1
                clear H1
                have H' := Aside0.mk H
                clear H
                have hcz24_0 : wc.cell? ⟨gb140, 0, none⟩ = some (.int .i64 a0_0) := (blk_cell BK140.out 0).trans rfl
                have hcz24_1 : wc.cell? ⟨gb140, 1, none⟩ = some (.int .i64 a0_1) := (blk_cell BK140.out 1).trans rfl
                have hcz24_2 : wc.cell? ⟨gb140, 2, none⟩ = some (.int .i64 a0_2) := (blk_cell BK140.out 2).trans rfl
                have hcz24_3 : wc.cell? ⟨gb140, 3, none⟩ = some (.int .i64 a0_3) := (blk_cell BK140.out 3).trans rfl
                have hfz24_0 := blk_frozen BK140.out 0
                have hfz24_1 := blk_frozen BK140.out 1
                have hfz24_2 := blk_frozen BK140.out 2
                have hfz24_3 := blk_frozen BK140.out 3
                go_wp2
                go_meet
                case rel => exact ⟨_, ((a0_2 != 0)), (by first | rfl | (simp; done) | (simp [*]; done)), H', ⟨by have := HJ1.out; have := HJ11.out; first | omega | exact Nat.le_refl _⟩, ⟨by (with_reducible repeat (first | refine blk_drewN ?_ _ | refine blk_drew ?_ | refine blk_alloc ?_ _)); exact BK140.out⟩, ⟨by repeat (first | (with_reducible first | exact HB.out | apply below_alloc | apply pw_below_drewN | apply below_drew1 | refine below_set ?_ GE140.out) | exact HB.out)⟩⟩
            case rest =>
              clear HC16
              try clear c1
              try clear p2
              try clear c4
              try clear c4b0
              try clear c6
              try clear c6b0
              try clear c7
              try clear c11
              try clear c13
              try clear c13b0
              try clear c13b1
              try clear c17
              try clear c19
              try clear c19b0
              try clear c19b1
              try clear hcz14_0
              try clear hcz14_1
              try clear hcz14_2
              try clear hcz14_3
              try clear hcz15_0
              try clear hcz15_1
              try clear hcz15_2
              try clear hcz15_3
              try clear hcz20_0
              try clear hcz20_1
              try clear hcz20_2
              try clear hcz20_3
              try clear hcz22_0
              try clear hcz22_1
              try clear hcz22_2
              try clear hcz22_3
              try clear hcz24_0
              try clear hcz24_1
              try clear hcz24_2
              try clear hcz24_3
              try clear hcz5_0
              try clear hcz5_1
              try clear hcz5_2
              try clear hcz5_3
              try clear hcz7_0
              try clear hcz7_1
              try clear hcz7_2
              try clear hcz7_3
              try clear hcz9_0
              try clear hcz9_1
              try clear hcz9_2
              try clear hcz9_3
              try clear hfz14_0
              try clear hfz14_1
              try clear hfz14_2
              try clear hfz14_3
              try clear hfz15_0
              try clear hfz15_1
              try clear hfz15_2
              try clear hfz15_3
              try clear hfz20_0
              try clear hfz20_1
              try clear hfz20_2
              try clear hfz20_3
              try clear hfz22_0
              try clear hfz22_1
              try clear hfz22_2
              try clear hfz22_3
              try clear hfz24_0
              try clear hfz24_1
              try clear hfz24_2
              try clear hfz24_3
              try clear hfz5_0
              try clear hfz5_1
              try clear hfz5_2
              try clear hfz5_3
              try clear hfz7_0
              try clear hfz7_1
              try clear hfz7_2
              try clear hfz7_3
              try clear hfz9_0
              try clear hfz9_1
              try clear hfz9_2
              try clear hfz9_3
              try clear p2
              obtain ⟨kq, x41_15, rfl, HA, HJ15, BK140, HB⟩ := hcut
              cases kq with
              | zero => exact absurd HA.out (by simp [stilemanref05_Right.j2])
              | succ kj15 =>
                have H := HA.out
                clear HA
                simp only [stilemanref05_Right.j2] at H
                by_cases c25 : x41_15 = true
                · subst c25
                  have H1 : (some false) = some r := by rw [if_pos rfl] at H; exact H
                  clear H
                  have H := H1
                  clear H1
                  obtain rfl := Option.some.inj H
                  go_wp2
                  go_ret
                  exact ⟨by first | rfl | (simp [errW_none, errW_some] <;> rfl) | (simp [*, errW_none, errW_some] <;> rfl), by repeat (first | (with_reducible first | exact HB.out | apply below_alloc | apply pw_below_drewN | apply below_drew1 | refine below_set ?_ GE140.out) | exact HB.out)⟩
                · replace c25 := Bool.eq_false_iff.mpr c25
                  subst c25
                  have H1 : (if a0_1 = 2 then (if a0_3 = 1 then (some true) else (some (a0_3 == 2))) else (if a0_1 = 11 then (if a0_3 ≥ 1 then (some (decide (a0_3 ≤ 3))) else (some false)) else (some (a0_3 == 0)))) = some r := by rw [if_neg (show ¬ (false = true) by decide)] at H; exact H
                  clear H
                  have H := H1
                  clear H1
                  by_cases c26 : a0_1 = 2
                  · rw [if_pos c26] at H
                    have c26b0 : (a0_1 == 2) = true := beq_iff_eq.mpr c26
                    have c26b1 : (a0_1 != 2) = false := bne_eq_false_iff_eq.mpr c26
                    clear c26
                    by_cases c27 : a0_3 = 1
                    · rw [if_pos c27] at H
                      have c27b0 : (a0_3 == 1) = true := beq_iff_eq.mpr c27
                      have c27b1 : (a0_3 != 1) = false := bne_eq_false_iff_eq.mpr c27
                      clear c27
                      obtain rfl := Option.some.inj H
                      have hcz28_0 : wc.cell? ⟨gb140, 0, none⟩ = some (.int .i64 a0_0) := (blk_cell BK140.out 0).trans rfl
                      have hcz28_1 : wc.cell? ⟨gb140, 1, none⟩ = some (.int .i64 a0_1) := (blk_cell BK140.out 1).trans rfl
                      have hcz28_2 : wc.cell? ⟨gb140, 2, none⟩ = some (.int .i64 a0_2) := (blk_cell BK140.out 2).trans rfl
                      have hcz28_3 : wc.cell? ⟨gb140, 3, none⟩ = some (.int .i64 a0_3) := (blk_cell BK140.out 3).trans rfl
                      have hfz28_0 := blk_frozen BK140.out 0
                      have hfz28_1 := blk_frozen BK140.out 1
                      have hfz28_2 := blk_frozen BK140.out 2
                      have hfz28_3 := blk_frozen BK140.out 3
                      go_wp2
                      go_ret
                      exact ⟨by first | rfl | (simp [errW_none, errW_some] <;> rfl) | (simp [*, errW_none, errW_some] <;> rfl), by repeat (first | (with_reducible first | exact HB.out | apply below_alloc | apply pw_below_drewN | apply below_drew1 | refine below_set ?_ GE140.out) | exact HB.out)⟩
                    · rw [if_neg c27] at H
                      have c27b0 : (a0_3 == 1) = false := beq_eq_false_iff_ne.mpr c27
                      have c27b1 : (a0_3 != 1) = true := bne_iff_ne.mpr c27
                      obtain rfl := Option.some.inj H
                      have hcz29_0 : wc.cell? ⟨gb140, 0, none⟩ = some (.int .i64 a0_0) := (blk_cell BK140.out 0).trans rfl
                      have hcz29_1 : wc.cell? ⟨gb140, 1, none⟩ = some (.int .i64 a0_1) := (blk_cell BK140.out 1).trans rfl
                      have hcz29_2 : wc.cell? ⟨gb140, 2, none⟩ = some (.int .i64 a0_2) := (blk_cell BK140.out 2).trans rfl
                      have hcz29_3 : wc.cell? ⟨gb140, 3, none⟩ = some (.int .i64 a0_3) := (blk_cell BK140.out 3).trans rfl
                      have hfz29_0 := blk_frozen BK140.out 0
                      have hfz29_1 := blk_frozen BK140.out 1
                      have hfz29_2 := blk_frozen BK140.out 2
                      have hfz29_3 := blk_frozen BK140.out 3
                      go_wp2
                      go_ret
                      exact ⟨by first | rfl | (simp [errW_none, errW_some] <;> rfl) | (simp [*, errW_none, errW_some] <;> rfl), by repeat (first | (with_reducible first | exact HB.out | apply below_alloc | apply pw_below_drewN | apply below_drew1 | refine below_set ?_ GE140.out) | exact HB.out)⟩
                  · rw [if_neg c26] at H
                    have c26b0 : (a0_1 == 2) = false := beq_eq_false_iff_ne.mpr c26
                    have c26b1 : (a0_1 != 2) = true := bne_iff_ne.mpr c26
                    by_cases c30 : a0_1 = 11
                    · rw [if_pos c30] at H
                      have c30b0 : (a0_1 == 11) = true := beq_iff_eq.mpr c30
                      have c30b1 : (a0_1 != 11) = false := bne_eq_false_iff_eq.mpr c30
                      clear c30
                      by_cases c31 : a0_3 ≥ 1
                      · rw [if_pos c31] at H
                        have c31b0 : decide (1 ≤ a0_3) = true := decide_eq_true c31
                        clear c31
                        obtain rfl := Option.some.inj H
                        have hcz32_0 : wc.cell? ⟨gb140, 0, none⟩ = some (.int .i64 a0_0) := (blk_cell BK140.out 0).trans rfl
                        have hcz32_1 : wc.cell? ⟨gb140, 1, none⟩ = some (.int .i64 a0_1) := (blk_cell BK140.out 1).trans rfl
                        have hcz32_2 : wc.cell? ⟨gb140, 2, none⟩ = some (.int .i64 a0_2) := (blk_cell BK140.out 2).trans rfl
                        have hcz32_3 : wc.cell? ⟨gb140, 3, none⟩ = some (.int .i64 a0_3) := (blk_cell BK140.out 3).trans rfl
                        have hfz32_0 := blk_frozen BK140.out 0
                        have hfz32_1 := blk_frozen BK140.out 1
                        have hfz32_2 := blk_frozen BK140.out 2
                        have hfz32_3 := blk_frozen BK140.out 3
                        go_wp2
                        go_ret
                        exact ⟨by first | rfl | (simp [errW_none, errW_some] <;> rfl) | (simp [*, errW_none, errW_some] <;> rfl), by repeat (first | (with_reducible first | exact HB.out | apply below_alloc | apply pw_below_drewN | apply below_drew1 | refine below_set ?_ GE140.out) | exact HB.out)⟩
                      · rw [if_neg c31] at H
                        have c31b0 : decide (1 ≤ a0_3) = false := decide_eq_false c31
                        clear c31
                        obtain rfl := Option.some.inj H
                        have hcz33_0 : wc.cell? ⟨gb140, 0, none⟩ = some (.int .i64 a0_0) := (blk_cell BK140.out 0).trans rfl
                        have hcz33_1 : wc.cell? ⟨gb140, 1, none⟩ = some (.int .i64 a0_1) := (blk_cell BK140.out 1).trans rfl
                        have hcz33_2 : wc.cell? ⟨gb140, 2, none⟩ = some (.int .i64 a0_2) := (blk_cell BK140.out 2).trans rfl
                        have hcz33_3 : wc.cell? ⟨gb140, 3, none⟩ = some (.int .i64 a0_3) := (blk_cell BK140.out 3).trans rfl
                        have hfz33_0 := blk_frozen BK140.out 0
                        have hfz33_1 := blk_frozen BK140.out 1
                        have hfz33_2 := blk_frozen BK140.out 2
                        have hfz33_3 := blk_frozen BK140.out 3
                        go_wp2
                        go_ret
                        exact ⟨by first | rfl | (simp [errW_none, errW_some] <;> rfl) | (simp [*, errW_none, errW_some] <;> rfl), by repeat (first | (with_reducible first | exact HB.out | apply below_alloc | apply pw_below_drewN | apply below_drew1 | refine below_set ?_ GE140.out) | exact HB.out)⟩
                    · rw [if_neg c30] at H
                      have c30b0 : (a0_1 == 11) = false := beq_eq_false_iff_ne.mpr c30
                      have c30b1 : (a0_1 != 11) = true := bne_iff_ne.mpr c30
                      obtain rfl := Option.some.inj H
                      have hcz34_0 : wc.cell? ⟨gb140, 0, none⟩ = some (.int .i64 a0_0) := (blk_cell BK140.out 0).trans rfl
                      have hcz34_1 : wc.cell? ⟨gb140, 1, none⟩ = some (.int .i64 a0_1) := (blk_cell BK140.out 1).trans rfl
                      have hcz34_2 : wc.cell? ⟨gb140, 2, none⟩ = some (.int .i64 a0_2) := (blk_cell BK140.out 2).trans rfl
                      have hcz34_3 : wc.cell? ⟨gb140, 3, none⟩ = some (.int .i64 a0_3) := (blk_cell BK140.out 3).trans rfl
                      have hfz34_0 := blk_frozen BK140.out 0
                      have hfz34_1 := blk_frozen BK140.out 1
                      have hfz34_2 := blk_frozen BK140.out 2
                      have hfz34_3 := blk_frozen BK140.out 3
                      go_wp2
                      go_ret
                      exact ⟨by first | rfl | (simp [errW_none, errW_some] <;> rfl) | (simp [*, errW_none, errW_some] <;> rfl), by repeat (first | (with_reducible first | exact HB.out | apply below_alloc | apply pw_below_drewN | apply below_drew1 | refine below_set ?_ GE140.out) | exact HB.out)⟩

end Go.Proofs.Ytgbofijdjgpgeaa.PRecChecks
