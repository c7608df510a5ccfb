-- PRINTED BY print.sh 35421559b90ae4d0a3588c463048766b98c2df88dd9212a6774a882060cdf62d: not written by this session
import Derived.Test.YtgbofijdjgpgeaaPStarveScriptsx0
import Derived.Test.YtgbofijdjgpgeaaPStarveScriptsx1
namespace Go.Proofs.Ytgbofijdjgpgeaa.PStarveScripts
open Go.RowKit Go.Proofs.YtgbofijdjgpgeaaW.PrintWords Go.Proofs.YtgbofijdjgpgeaaW.PrintLast Go.Proofs.YtgbofijdjgpgeaaW.PrintMore
attribute [local go_sem] max2_int min2_int max_two min_two max_three min_three max_four min_four   -- for this text's walks alone
set_option linter.unusedVariables false
set_option linter.unusedSimpArgs false

attribute [local go_sem high] eqA122
-- NOT PRINTED: function 91 (api_Pick_91)

-- NOT PRINTED: function 77 (api_Pick_77)

/-! ### bits_Mul32: function 95 -/
def bits_Mul32.f (a0 : Int) (a1 : Int) : Option (Int × Int) := some (((IntKind.u64.wrap ((IntKind.u64.wrap (a0)) * (IntKind.u64.wrap (a1)))) / 4294967296) % 4294967296, (IntKind.u64.wrap ((IntKind.u64.wrap (a0)) * (IntKind.u64.wrap (a1)))) % 4294967296)
set_option maxHeartbeats 8000000 in
set_option maxRecDepth 100000 in
theorem bits_Mul32.calls (a0 : Int) (a1 : Int) (r1 : Int) (r2 : Int) (w : World) (h : bits_Mul32.f a0 a1 = some (r1, r2)) :
    Calls Try.prog 95 #[.int .u32 a0, .int .u32 a1] w fun e w' => e = .returned (.tuple #[.int .u32 r1, .int .u32 r2]) ∧ Drawn0 w w' := by
  have H : (some (((IntKind.u64.wrap ((IntKind.u64.wrap (a0)) * (IntKind.u64.wrap (a1)))) / 4294967296) % 4294967296, (IntKind.u64.wrap ((IntKind.u64.wrap (a0)) * (IntKind.u64.wrap (a1)))) % 4294967296)) = some (r1, r2) := h
  clear h
  simp only [Option.some.injEq, Prod.mk.injEq] at H
  obtain ⟨rfl, rfl⟩ := H
  go_enter Try.func95, Try.ntmps95
  go_wp2
  go_ret2
  exact ⟨by first | rfl | (simp; done) | (simp [*]; done), by repeat (first | exact Drawn0.refl _ | apply Drawn0.step)⟩

/-! ### bits_Mul64: function 96 -/
def bits_Mul64.f (a0 : Int) (a1 : Int) : Option (Int × Int) := some (IntKind.u64.wrap ((IntKind.u64.wrap ((IntKind.u64.wrap ((a0 / 4294967296) * (a1 / 4294967296))) + ((IntKind.u64.wrap ((IntKind.u64.wrap ((a0 / 4294967296) * (Go.bits .and .u64 a1 4294967295))) + ((IntKind.u64.wrap ((Go.bits .and .u64 a0 4294967295) * (Go.bits .and .u64 a1 4294967295))) / 4294967296))) / 4294967296))) + ((IntKind.u64.wrap ((Go.bits .and .u64 (IntKind.u64.wrap ((IntKind.u64.wrap ((a0 / 4294967296) * (Go.bits .and .u64 a1 4294967295))) + ((IntKind.u64.wrap ((Go.bits .and .u64 a0 4294967295) * (Go.bits .and .u64 a1 4294967295))) / 4294967296))) 4294967295) + (IntKind.u64.wrap ((Go.bits .and .u64 a0 4294967295) * (a1 / 4294967296))))) / 4294967296)), IntKind.u64.wrap (a0 * a1))
set_option maxHeartbeats 8000000 in
set_option maxRecDepth 100000 in
theorem bits_Mul64.calls (a0 : Int) (a1 : Int) (r1 : Int) (r2 : Int) (w : World) (h : bits_Mul64.f a0 a1 = some (r1, r2)) :
    Calls Try.prog 96 #[.int .u64 a0, .int .u64 a1] w fun e w' => e = .returned (.tuple #[.int .u64 r1, .int .u64 r2]) ∧ Drawn0 w w' := by
  have H : (some (IntKind.u64.wrap ((IntKind.u64.wrap ((IntKind.u64.wrap ((a0 / 4294967296) * (a1 / 4294967296))) + ((IntKind.u64.wrap ((IntKind.u64.wrap ((a0 / 4294967296) * (Go.bits .and .u64 a1 4294967295))) + ((IntKind.u64.wrap ((Go.bits .and .u64 a0 4294967295) * (Go.bits .and .u64 a1 4294967295))) / 4294967296))) / 4294967296))) + ((IntKind.u64.wrap ((Go.bits .and .u64 (IntKind.u64.wrap ((IntKind.u64.wrap ((a0 / 4294967296) * (Go.bits .and .u64 a1 4294967295))) + ((IntKind.u64.wrap ((Go.bits .and .u64 a0 4294967295) * (Go.bits .and .u64 a1 4294967295))) / 4294967296))) 4294967295) + (IntKind.u64.wrap ((Go.bits .and .u64 a0 4294967295) * (a1 / 4294967296))))) / 4294967296)), IntKind.u64.wrap (a0 * a1))) = some (r1, r2) := h
  clear h
  simp only [Option.some.injEq, Prod.mk.injEq] at H
  obtain ⟨rfl, rfl⟩ := H
  go_enter Try.func96, Try.ntmps96
  go_wp2
  go_ret2
  exact ⟨by first | rfl | (simp; done) | (simp [*]; done), by repeat (first | exact Drawn0.refl _ | apply Drawn0.step)⟩

/-! ### bits_Mul: function 93 -/
def bits_Mul.f (a0 : Int) (a1 : Int) : Option (Int × Int) := (bits_Mul64.f a0 a1).bind fun bt102 => (some (bt102.1, bt102.2))
set_option maxHeartbeats 8000000 in
set_option maxRecDepth 100000 in
theorem bits_Mul.calls (a0 : Int) (a1 : Int) (r1 : Int) (r2 : Int) (w : World) (h : bits_Mul.f a0 a1 = some (r1, r2)) :
    Calls Try.prog 93 #[.int .u64 a0, .int .u64 a1] w fun e w' => e = .returned (.tuple #[.int .u64 r1, .int .u64 r2]) ∧ Drawn0 w w' := by
  have H : ((bits_Mul64.f a0 a1).bind fun bt102 => (some (bt102.1, bt102.2))) = some (r1, r2) := h
  clear h
  replace H := Option.bind_eq_some_iff.mp H
  obtain ⟨⟨t102, t103⟩, A30, H⟩ := H
  replace H : (some (t102, t103)) = some (r1, r2) := H
  have A3 := Aside0.mk A30
  clear A30
  simp only [Option.some.injEq, Prod.mk.injEq] at H
  obtain ⟨rfl, rfl⟩ := H
  go_enter Try.func93, Try.ntmps93
  go_wp2_with (first | ((with_reducible refine gate_callee (f := 96) rfl ?_); refine goesL_ (some 25) rfl rfl Try.func96 (by kernel_rfl) rfl #[.int .u64 a0, .int .u64 a1] rfl (by (try simp only [List.map_toArray, List.map_cons, List.map_nil]); first | done | rfl | (simp only [List.length_drop, List.length_take]; rfl)) ?_; (with_reducible refine (bits_Mul64.calls a0 a1 t102 t103 _ A3.out).mono ?_); rintro e w' ⟨rfl, ⟨nd, rfl⟩⟩; refine ⟨_, rfl, ?_⟩))
  go_ret2
  exact ⟨by first | rfl | (simp; done) | (simp [*]; done), by repeat (first | exact Drawn0.refl _ | apply Drawn0.step)⟩

-- NOT PRINTED: function 81 (api_Pick_81)

-- NOT PRINTED: function 80 (starve_rest)

-- NOT PRINTED: function 78 (starve_do)

-- NOT PRINTED: function 92 (starve_look)

-- NOT PRINTED: function 79 (starve_looks)

-- NOT PRINTED: function 57 (starve_Script)

/-! ### stilemanref25_add: function 82 -/
mutual
def stilemanref25_add.j0 : Nat → List (S122) → Int → Int → Option ((List (S122)))
  | 0, _, _, _ => none
  | k + 1, x0, x1, x3 => stilemanref25_add.l0 k x0 x1 x3 0
def stilemanref25_add.l0 : Nat → List (S122) → Int → Int → Int → Option ((List (S122)))
  | 0, _, _, _, _ => none
  | k + 1, x0, x1, x3, x9 => if x9 < x3 then (if x0.length < 8796093022208 then (stilemanref25_add.l0 k (x0 ++ [(⟨x1, 0⟩ : S122)]) x1 x3 (wrap64 (x9 + 1))) else (none)) else (some x0)
end
def stilemanref25_add.f (k : Nat) (l0 : List (S122)) (a1 : Int) (a2 : Int) (a3 : Int) : Option ((List (S122))) := if a2 = 0 then (stilemanref25_add.j0 k l0 a1 a3) else (if l0.length < 8796093022208 then (stilemanref25_add.j0 k (l0 ++ [(⟨a1, a2⟩ : S122)]) a1 a3) else (none))
theorem stilemanref25_add.mono_l : ∀ k, (∀ y0 y1 y2, LeO (stilemanref25_add.j0 k y0 y1 y2) (stilemanref25_add.j0 (k + 1) y0 y1 y2)) ∧ (∀ y0 y1 y2 y3, LeO (stilemanref25_add.l0 k y0 y1 y2 y3) (stilemanref25_add.l0 (k + 1) y0 y1 y2 y3))
  | 0 => ⟨fun _ _ _ r h => by simp [stilemanref25_add.j0] at h, fun _ _ _ _ r h => by simp [stilemanref25_add.l0] at h⟩
  | k + 1 => by
    obtain ⟨ih0, ih1⟩ := stilemanref25_add.mono_l k
    refine ⟨?_, ?_⟩
    · intro y0 y1 y2
      unfold stilemanref25_add.j0
      repeat' first
      | (with_reducible exact ih0 _ _ _)
      | (with_reducible exact ih1 _ _ _ _)
      | (with_reducible exact LeO.refl _)
      | (with_reducible exact LeO.none _)
      | (with_reducible refine LeO.ite ?_ ?_)
      | (with_reducible refine LeO.bind ?_ (fun _ => ?_))
      | exact ih0 _ _ _
      | exact ih1 _ _ _ _
      | exact LeO.none _
      | refine LeO.ite ?_ ?_
      | refine LeO.bind ?_ (fun _ => ?_)
    · intro y0 y1 y2 y3
      unfold stilemanref25_add.l0
      repeat' first
      | (with_reducible exact ih0 _ _ _)
      | (with_reducible exact ih1 _ _ _ _)
      | (with_reducible exact LeO.refl _)
      | (with_reducible exact LeO.none _)
      | (with_reducible refine LeO.ite ?_ ?_)
      | (with_reducible refine LeO.bind ?_ (fun _ => ?_))
      | exact ih0 _ _ _
      | exact ih1 _ _ _ _
      | exact LeO.none _
      | refine LeO.ite ?_ ?_
      | refine LeO.bind ?_ (fun _ => ?_)
theorem stilemanref25_add.mono : ∀ a0 a1 a2 a3 k, LeO (stilemanref25_add.f k a0 a1 a2 a3) (stilemanref25_add.f (k + 1) a0 a1 a2 a3) := by
  intro a0 a1 a2 a3 k
  obtain ⟨ih0, ih1⟩ := stilemanref25_add.mono_l k
  unfold stilemanref25_add.f
  repeat' first
      | (with_reducible exact ih0 _ _ _)
      | (with_reducible exact ih1 _ _ _ _)
      | (with_reducible exact LeO.refl _)
      | (with_reducible exact LeO.none _)
      | (with_reducible refine LeO.ite ?_ ?_)
      | (with_reducible refine LeO.bind ?_ (fun _ => ?_))
      | exact ih0 _ _ _
      | exact ih1 _ _ _ _
      | exact LeO.none _
      | refine LeO.ite ?_ ?_
      | refine LeO.bind ?_ (fun _ => ?_)
set_option maxHeartbeats 8000000 in
set_option maxRecDepth 100000 in
theorem stilemanref25_add.calls (k : Nat) (P0_ : Nat → Prop) (u9000_ : Value) (l0 : List (S122)) (a1 : Int) (a2 : Int) (a3 : Int) (r : List (S122)) (w0 w : World) (hB : Below w0.heap.size w0 w) (ho0 : Kd.R k122 122 w w0.heap.size P0_ u9000_ l0) (h : stilemanref25_add.f k l0 a1 a2 a3 = some r) :
    Calls Try.prog 82 #[u9000_, .int .i64 a1, .int .i64 a2, .int .i64 a3] w fun e w' => ∃ v0_ : Value, e = .returned (v0_) ∧ Kd.R k122 122 w' w0.heap.size (fun k_ => (P0_ k_ ∨ w.heap.size ≤ k_)) v0_ r ∧ Below w0.heap.size w0 w' ∧ Kept w w' (fun k_ => P0_ k_) := by
  have hu122 := Try.underlying122
  have HO0 := Aside0.mk (show Kd.R k122 122 w w0.heap.size (fun k_ => (P0_ k_ ∨ w.heap.size ≤ k_)) u9000_ l0 from Kd.R_mono ho0 (fun k_ hk => (.inl hk)))
  have HK := Aside0.mk (Kept.refl w (fun k_ => P0_ k_))
  have HW0 := Aside0.mk hB.size
  have HB := Aside0.mk hB
  clear hB
  have H : (if a2 = 0 then (stilemanref25_add.j0 k l0 a1 a3) else (if l0.length < 8796093022208 then (stilemanref25_add.j0 k (l0 ++ [(⟨a1, a2⟩ : S122)]) a1 a3) else (none))) = some r := h
  clear h
  have HC5 := Aside0.mk H
  clear H
  go_enter Try.func82, Try.ntmps82
  go_upto_if 11 with (fail)
  go_cut [0] (fun v0 wc => ∃ (kq : Nat) (x0_4 : List (S122)), Aside0 (stilemanref25_add.j0 kq x0_4 a1 a3 = some r) ∧ Aside0 (kq ≤ k) ∧ Aside0 (Kd.R k122 122 wc w0.heap.size (fun k_ => (P0_ k_ ∨ w.heap.size ≤ k_)) v0 x0_4) ∧ Aside0 (Kept w wc (fun k_ => P0_ k_)) ∧ Aside0 (Below w0.heap.size w0 wc))
  case first =>
    have H := HC5.out
    clear HC5
    by_cases c6 : a2 = 0
    · rw [if_pos c6] at H
      have c6b0 : (a2 == 0) = true := beq_iff_eq.mpr c6
      have c6b1 : (a2 != 0) = false := bne_eq_false_iff_eq.mpr c6
      clear c6
      (first | rw [c6b0] | (simp only [i64_w, i32_w]; rw [c6b0]) | skip)
      have H' := Aside0.mk H
      clear H
      go_wp2
      go_meet
      case rel => exact ⟨_, (l0), H', ⟨by first | omega | exact Nat.le_refl _⟩, ⟨by (with_reducible repeat (first | apply Kd.R_alloc | apply Kd.R_drewN | apply Kd.R_drew)); exact HO0.out⟩, ⟨by repeat (first | (with_reducible first | exact HK.out | apply Kept.alloc | apply Kept.drewN | apply Kept.drew) | exact HK.out)⟩, ⟨by repeat (first | (with_reducible first | exact HB.out | apply below_alloc | apply pw_below_drewN | apply below_drew1) | exact HB.out)⟩⟩
    · rw [if_neg c6] at H
      have c6b0 : (a2 == 0) = false := beq_eq_false_iff_ne.mpr c6
      have c6b1 : (a2 != 0) = true := bne_iff_ne.mpr c6
      (first | rw [c6b0] | (simp only [i64_w, i32_w]; rw [c6b0]) | skip)
      by_cases c7 : l0.length < 8796093022208
      · rw [if_pos c7] at H
        have LMc7 := Aside0.mk c7
        clear c7
        obtain ⟨y111, hy111⟩ : ∃ y_ : List (S122), y_ = (l0 ++ [(⟨a1, a2⟩ : S122)]) := ⟨_, rfl⟩
        replace H : (stilemanref25_add.j0 k y111 a1 a3) = some r := by first | (rw [hy111]; with_reducible exact H) | (have H2_ := (Option.bind_some _ _).symm.trans H; rw [hy111]; with_reducible exact H2_) | (have H2_ := (Option.bind_some _ _).symm.trans H; with_reducible exact H2_) | with_reducible exact H | (rw [hy111]; exact H) | exact H
        have Ny111 := Aside0.mk hy111
        clear hy111
        have H' := Aside0.mk H
        clear H
        go_wp2_with (first | ((with_reducible refine gate_builtin (b := .append) (xs := #[.tmp 12, .tmp 16]) rfl ?_); at_builtin; refine Kd.R_append k122 (w0 := w0) w0.heap.size rfl (.tmp 12) (.tmp 16) 89 122 (.agg #[(.int .i64 0), (.int .i64 0)]) 16 rfl Try.underlying89 info122 rfl (by decide) (by omega) u9000_ l0 (⟨a1, a2⟩ : S122) [.int .i64 a1, .int .i64 a2] (fun k_ => (P0_ k_ ∨ w.heap.size ≤ k_)) (fun _ => False) rfl rfl ?aP (fun _ hk => hk.elim) ?aF ?aO ?aB ?aS ?aL ?_; (case aP => exact k122_mkM _ _ _ (⟨a1, a2⟩ : S122)); (case aB => exact (by repeat (first | (with_reducible first | exact HB.out | apply below_alloc | apply pw_below_drewN | apply below_drew1) | exact HB.out))); (case aF => exact (fun k_ hk => (.inr (Nat.le_trans (by first | exact HK.out.1 | exact (show Kept w _ (fun k_ => P0_ k_) from by repeat (first | (with_reducible first | exact HK.out | apply Kept.alloc | apply Kept.drewN | apply Kept.drew) | exact HK.out)).1) hk)))); (case aO => exact (by (with_reducible repeat (first | apply Kd.R_alloc | apply Kd.R_drewN | apply Kd.R_drew)); exact HO0.out)); (case aS => exact (below_size (by repeat (first | (with_reducible first | exact HB.out | apply below_alloc | apply pw_below_drewN | apply below_drew1) | exact HB.out)))); (case aL => have := LMc7.out; omega); intro v112 w8 ho hb hg hat; rw [← Ny111.out] at ho; have n0_ := Aside0.mk (hb); have n1_ := Aside0.mk (Kept.of_grown (S := (fun k_ => P0_ k_)) hg (by repeat (first | (with_reducible first | exact HK.out | apply Kept.alloc | apply Kept.drewN | apply Kept.drew) | exact HK.out)) (fun k_ e_ => (HO0.out.1 k_ e_))); have n2_ := Aside0.mk (ho); clear HB; clear HK; clear HO0; have HB := n0_; have HK := n1_; have HO113 := n2_; clear n0_ n1_ n2_; clear ho hb hg hat))
        go_meet
        case rel => exact ⟨_, (y111), H', ⟨by first | omega | exact Nat.le_refl _⟩, ⟨by (with_reducible repeat (first | apply Kd.R_alloc | apply Kd.R_drewN | apply Kd.R_drew)); exact HO113.out⟩, ⟨by repeat (first | (with_reducible first | exact HK.out | apply Kept.alloc | apply Kept.drewN | apply Kept.drew) | exact HK.out)⟩, ⟨by repeat (first | (with_reducible first | exact HB.out | apply below_alloc | apply pw_below_drewN | apply below_drew1) | exact HB.out)⟩⟩
      · rw [if_neg c7] at H
        exact absurd H (by simp)
  case rest =>
    clear HC5
    try clear p2
    try clear c6
    try clear c6b0
    try clear c6b1
    try clear c7
    try clear c8
    obtain ⟨kq, x0_4, HA, HJ4, HO_0, HK, HB⟩ := hcut
    cases kq with
    | zero => exact absurd HA.out (by simp [stilemanref25_add.j0])
    | succ kj4 =>
      have H := HA.out
      clear HA
      simp only [stilemanref25_add.j0] at H
      have H' := Aside0.mk H
      clear H
      go_wp2
      go_loopg [0, 9] kj4 (fun kq v0 v9 w' => ∃ (x0_2 : List (S122)) (x9_2 : Int), v9 = .int .i64 x9_2 ∧ Aside0 (stilemanref25_add.l0 kq x0_2 a1 a3 x9_2 = some r) ∧ Aside0 (kq ≤ kj4) ∧ Aside0 (Kd.R k122 122 w' w0.heap.size (fun k_ => (P0_ k_ ∨ w.heap.size ≤ k_)) v0 x0_2) ∧ Aside0 (Kept w w' (fun k_ => P0_ k_)) ∧ Aside0 (Below w0.heap.size w0 w'))
      case atStart => exact ⟨(x0_4), (0), (by first | rfl | (simp; done) | (simp [*]; done)), H', ⟨Nat.le_refl _⟩, ⟨by (with_reducible repeat (first | apply Kd.R_alloc | apply Kd.R_drewN | apply Kd.R_drew)); exact HO_0.out⟩, ⟨by repeat (first | (with_reducible first | exact HK.out | apply Kept.alloc | apply Kept.drewN | apply Kept.drew) | exact HK.out)⟩, ⟨by repeat (first | (with_reducible first | exact HB.out | apply below_alloc | apply pw_below_drewN | apply below_drew1) | exact HB.out)⟩⟩
      case round =>
        clear H'
        try clear p2
        try clear c6
        try clear c6b0
        try clear c6b1
        try clear c7
        try clear c8
        try clear p2
        obtain ⟨x0_2, x9_2, rfl, HA, HK2, HO_0, HK, HB⟩ := hrel
        cases gk with
        | zero => exact absurd HA.out (by simp [stilemanref25_add.l0])
        | succ k2 =>
          have H := HA.out
          clear HA
          simp only [stilemanref25_add.l0] at H
          by_cases c9 : x9_2 < a3
          · rw [if_pos c9] at H
            have c9b0 : decide (x9_2 < a3) = true := decide_eq_true c9
            clear c9
            by_cases c10 : x0_2.length < 8796093022208
            · rw [if_pos c10] at H
              have LMc10 := Aside0.mk c10
              clear c10
              obtain ⟨y114, hy114⟩ : ∃ y_ : List (S122), y_ = (x0_2 ++ [(⟨a1, 0⟩ : S122)]) := ⟨_, rfl⟩
              replace H : (stilemanref25_add.l0 k2 y114 a1 a3 (wrap64 (x9_2 + 1))) = some r := by first | (rw [hy114]; with_reducible exact H) | (have H2_ := (Option.bind_some _ _).symm.trans H; rw [hy114]; with_reducible exact H2_) | (have H2_ := (Option.bind_some _ _).symm.trans H; with_reducible exact H2_) | with_reducible exact H | (rw [hy114]; exact H) | exact H
              have Ny114 := Aside0.mk hy114
              clear hy114
              have H' := Aside0.mk H
              clear H
              go_wp2_with (first | ((with_reducible refine gate_builtin (b := .append) (xs := #[.tmp 23, .tmp 26]) rfl ?_); at_builtin; refine Kd.R_append k122 (w0 := w0) w0.heap.size rfl (.tmp 23) (.tmp 26) 89 122 (.agg #[(.int .i64 0), (.int .i64 0)]) 16 rfl Try.underlying89 info122 rfl (by decide) (by omega) u0 x0_2 (⟨a1, 0⟩ : S122) [.int .i64 a1, .int .i64 0] (fun k_ => (P0_ k_ ∨ w.heap.size ≤ k_)) (fun _ => False) rfl rfl ?aP (fun _ hk => hk.elim) ?aF ?aO ?aB ?aS ?aL ?_; (case aP => exact k122_mkM _ _ _ (⟨a1, 0⟩ : S122)); (case aB => exact (by repeat (first | (with_reducible first | exact HB.out | apply below_alloc | apply pw_below_drewN | apply below_drew1) | exact HB.out))); (case aF => exact (fun k_ hk => (.inr (Nat.le_trans (by first | exact HK.out.1 | exact (show Kept w _ (fun k_ => P0_ k_) from by repeat (first | (with_reducible first | exact HK.out | apply Kept.alloc | apply Kept.drewN | apply Kept.drew) | exact HK.out)).1) hk)))); (case aO => exact (by (with_reducible repeat (first | apply Kd.R_alloc | apply Kd.R_drewN | apply Kd.R_drew)); exact HO_0.out)); (case aS => exact (below_size (by repeat (first | (with_reducible first | exact HB.out | apply below_alloc | apply pw_below_drewN | apply below_drew1) | exact HB.out)))); (case aL => have := LMc10.out; omega); intro v115 w11 ho hb hg hat; rw [← Ny114.out] at ho; have n0_ := Aside0.mk (hb); have n1_ := Aside0.mk (Kept.of_grown (S := (fun k_ => P0_ k_)) hg (by repeat (first | (with_reducible first | exact HK.out | apply Kept.alloc | apply Kept.drewN | apply Kept.drew) | exact HK.out)) (fun k_ e_ => (HO_0.out.1 k_ e_))); have n2_ := Aside0.mk (ho); clear HB; clear HK; clear HO_0; have HB := n0_; have HK := n1_; have HO116 := n2_; clear n0_ n1_ n2_; clear ho hb hg hat))
              go_roundg k2
              case measure => have := HJ4.out; have := HK2.out; omega
              case rel => exact ⟨(y114), (wrap64 (x9_2 + 1)), (by first | rfl | (simp; done) | (simp [*]; done)), H', ⟨by have := HJ4.out; have := HK2.out; omega⟩, ⟨by (with_reducible repeat (first | apply Kd.R_alloc | apply Kd.R_drewN | apply Kd.R_drew)); exact HO116.out⟩, ⟨by repeat (first | (with_reducible first | exact HK.out | apply Kept.alloc | apply Kept.drewN | apply Kept.drew) | exact HK.out)⟩, ⟨by repeat (first | (with_reducible first | exact HB.out | apply below_alloc | apply pw_below_drewN | apply below_drew1) | exact HB.out)⟩⟩
            · rw [if_neg c10] at H
              exact absurd H (by simp)
          · rw [if_neg c9] at H
            have c9b0 : decide (x9_2 < a3) = false := decide_eq_false c9
            clear c9
            obtain rfl := Option.some.inj H
            go_wp2
            go_ret
            exact ⟨_, by first | rfl | (simp [errW_none, errW_some] <;> rfl) | (simp [*, errW_none, errW_some] <;> rfl), by (with_reducible repeat (first | apply Kd.R_alloc | apply Kd.R_drewN | apply Kd.R_drew)); exact HO_0.out, by repeat (first | (with_reducible first | exact HB.out | apply below_alloc | apply pw_below_drewN | apply below_drew1) | exact HB.out), by repeat (first | (with_reducible first | exact HK.out | apply Kept.alloc | apply Kept.drewN | apply Kept.drew) | exact HK.out)⟩

/-! ### stilemanref25_Script: function 58 -/
mutual
def stilemanref25_Script.j0 : Nat → Int → Int → Bool → Option ((List (S122)) × Int)
  | 0, _, _, _ => none
  | k + 1, x0, x1, x13 => if x13 = true then (some (([] : List (S122)), 3)) else (if x1 < 0 then (stilemanref25_Script.j1 k x0 x1 true) else (stilemanref25_Script.j1 k x0 x1 (decide (x1 > 1000))))
def stilemanref25_Script.j1 : Nat → Int → Int → Bool → Option ((List (S122)) × Int)
  | 0, _, _, _ => none
  | k + 1, x0, x1, x19 => if x19 = true then (some (([] : List (S122)), 2)) else (if x0 = 5 then ((stilemanref25_add.f k ([] : List (S122)) 1 1 18).bind fun t117 => ((stilemanref25_add.f k t117 0 3 18).bind fun t120 => (stilemanref25_Script.j2 k x0 x1 t120))) else ((stilemanref25_add.f k ([] : List (S122)) 1 3 18).bind fun t123 => ((stilemanref25_add.f k t123 0 1 18).bind fun t126 => (stilemanref25_Script.j2 k x0 x1 t126))))
def stilemanref25_Script.j2 : Nat → Int → Int → List (S122) → Option ((List (S122)) × Int)
  | 0, _, _, _ => none
  | k + 1, x0, x1, x6 => stilemanref25_Script.l0 k x0 x1 x6 0
def stilemanref25_Script.l0 : Nat → Int → Int → List (S122) → Int → Option ((List (S122)) × Int)
  | 0, _, _, _, _ => none
  | k + 1, x0, x1, x6, x7 => if x7 < x1 then (if x0 = 5 then ((stilemanref25_add.f k x6 2 1 18).bind fun t129 => ((stilemanref25_add.f k t129 0 0 6).bind fun t132 => ((stilemanref25_add.f k t132 1 2 18).bind fun t135 => ((stilemanref25_add.f k t135 0 0 6).bind fun t138 => ((stilemanref25_add.f k t138 1 1 18).bind fun t141 => ((stilemanref25_add.f k t141 0 0 6).bind fun t144 => ((stilemanref25_add.f k t144 2 2 18).bind fun t147 => ((stilemanref25_add.f k t147 0 0 6).bind fun t150 => (stilemanref25_Script.l0 k x0 x1 t150 (wrap64 (x7 + 1))))))))))) else ((stilemanref25_add.f k x6 2 3 18).bind fun t153 => ((stilemanref25_add.f k t153 0 0 6).bind fun t156 => ((stilemanref25_add.f k t156 1 4 18).bind fun t159 => ((stilemanref25_add.f k t159 2 0 18).bind fun t162 => ((stilemanref25_add.f k t162 0 0 6).bind fun t165 => ((stilemanref25_add.f k t165 1 3 18).bind fun t168 => ((stilemanref25_add.f k t168 0 0 6).bind fun t171 => ((stilemanref25_add.f k t171 2 4 18).bind fun t174 => ((stilemanref25_add.f k t174 1 0 18).bind fun t177 => ((stilemanref25_add.f k t177 0 0 6).bind fun t180 => (stilemanref25_Script.l0 k x0 x1 t180 (wrap64 (x7 + 1)))))))))))))) else (some (x6, 0))
end
def stilemanref25_Script.f (k : Nat) (a0 : Int) (a1 : Int) : Option ((List (S122)) × Int) := if a0 = 5 then (stilemanref25_Script.j0 k a0 a1 false) else (stilemanref25_Script.j0 k a0 a1 (a0 != 6))
theorem stilemanref25_Script.mono_l : ∀ k, (∀ y0 y1 y2, LeO (stilemanref25_Script.j0 k y0 y1 y2) (stilemanref25_Script.j0 (k + 1) y0 y1 y2)) ∧ (∀ y0 y1 y2, LeO (stilemanref25_Script.j1 k y0 y1 y2) (stilemanref25_Script.j1 (k + 1) y0 y1 y2)) ∧ (∀ y0 y1 y2, LeO (stilemanref25_Script.j2 k y0 y1 y2) (stilemanref25_Script.j2 (k + 1) y0 y1 y2)) ∧ (∀ y0 y1 y2 y3, LeO (stilemanref25_Script.l0 k y0 y1 y2 y3) (stilemanref25_Script.l0 (k + 1) y0 y1 y2 y3))
  | 0 => ⟨fun _ _ _ r h => by simp [stilemanref25_Script.j0] at h, fun _ _ _ r h => by simp [stilemanref25_Script.j1] at h, fun _ _ _ r h => by simp [stilemanref25_Script.j2] at h, fun _ _ _ _ r h => by simp [stilemanref25_Script.l0] at h⟩
  | k + 1 => by
    obtain ⟨ih0, ih1, ih2, ih3⟩ := stilemanref25_Script.mono_l k
    refine ⟨?_, ?_, ?_, ?_⟩
    · intro y0 y1 y2
      unfold stilemanref25_Script.j0
      repeat' first
      | (with_reducible exact ih0 _ _ _)
      | (with_reducible exact ih1 _ _ _)
      | (with_reducible exact ih2 _ _ _)
      | (with_reducible exact ih3 _ _ _ _)
      | (with_reducible exact stilemanref25_add.mono _ _ _ _ _)
      | (with_reducible exact LeO.refl _)
      | (with_reducible exact LeO.none _)
      | (with_reducible refine LeO.ite ?_ ?_)
      | (with_reducible refine LeO.bind ?_ (fun _ => ?_))
      | exact ih0 _ _ _
      | exact ih1 _ _ _
      | exact ih2 _ _ _
      | exact ih3 _ _ _ _
      | exact stilemanref25_add.mono _ _ _ _ _
      | exact LeO.none _
      | refine LeO.ite ?_ ?_
      | refine LeO.bind ?_ (fun _ => ?_)
    · intro y0 y1 y2
      unfold stilemanref25_Script.j1
      repeat' first
      | (with_reducible exact ih0 _ _ _)
      | (with_reducible exact ih1 _ _ _)
      | (with_reducible exact ih2 _ _ _)
      | (with_reducible exact ih3 _ _ _ _)
      | (with_reducible exact stilemanref25_add.mono _ _ _ _ _)
      | (with_reducible exact LeO.refl _)
      | (with_reducible exact LeO.none _)
      | (with_reducible refine LeO.ite ?_ ?_)
      | (with_reducible refine LeO.bind ?_ (fun _ => ?_))
      | exact ih0 _ _ _
      | exact ih1 _ _ _
      | exact ih2 _ _ _
      | exact ih3 _ _ _ _
      | exact stilemanref25_add.mono _ _ _ _ _
      | exact LeO.none _
      | refine LeO.ite ?_ ?_
      | refine LeO.bind ?_ (fun _ => ?_)
    · intro y0 y1 y2
      unfold stilemanref25_Script.j2
      repeat' first
      | (with_reducible exact ih0 _ _ _)
      | (with_reducible exact ih1 _ _ _)
      | (with_reducible exact ih2 _ _ _)
      | (with_reducible exact ih3 _ _ _ _)
      | (with_reducible exact stilemanref25_add.mono _ _ _ _ _)
      | (with_reducible exact LeO.refl _)
      | (with_reducible exact LeO.none _)
      | (with_reducible refine LeO.ite ?_ ?_)
      | (with_reducible refine LeO.bind ?_ (fun _ => ?_))
      | exact ih0 _ _ _
      | exact ih1 _ _ _
      | exact ih2 _ _ _
      | exact ih3 _ _ _ _
      | exact stilemanref25_add.mono _ _ _ _ _
      | exact LeO.none _
      | refine LeO.ite ?_ ?_
      | refine LeO.bind ?_ (fun _ => ?_)
    · intro y0 y1 y2 y3
      unfold stilemanref25_Script.l0
      repeat' first
      | (with_reducible exact ih0 _ _ _)
      | (with_reducible exact ih1 _ _ _)
      | (with_reducible exact ih2 _ _ _)
      | (with_reducible exact ih3 _ _ _ _)
      | (with_reducible exact stilemanref25_add.mono _ _ _ _ _)
      | (with_reducible exact LeO.refl _)
      | (with_reducible exact LeO.none _)
      | (with_reducible refine LeO.ite ?_ ?_)
      | (with_reducible refine LeO.bind ?_ (fun _ => ?_))
      | exact ih0 _ _ _
      | exact ih1 _ _ _
      | exact ih2 _ _ _
      | exact ih3 _ _ _ _
      | exact stilemanref25_add.mono _ _ _ _ _
      | exact LeO.none _
      | refine LeO.ite ?_ ?_
      | refine LeO.bind ?_ (fun _ => ?_)
theorem stilemanref25_Script.mono : ∀ a0 a1 k, LeO (stilemanref25_Script.f k a0 a1) (stilemanref25_Script.f (k + 1) a0 a1) := by
  intro a0 a1 k
  obtain ⟨ih0, ih1, ih2, ih3⟩ := stilemanref25_Script.mono_l k
  unfold stilemanref25_Script.f
  repeat' first
      | (with_reducible exact ih0 _ _ _)
      | (with_reducible exact ih1 _ _ _)
      | (with_reducible exact ih2 _ _ _)
      | (with_reducible exact ih3 _ _ _ _)
      | (with_reducible exact stilemanref25_add.mono _ _ _ _ _)
      | (with_reducible exact LeO.refl _)
      | (with_reducible exact LeO.none _)
      | (with_reducible refine LeO.ite ?_ ?_)
      | (with_reducible refine LeO.bind ?_ (fun _ => ?_))
      | exact ih0 _ _ _
      | exact ih1 _ _ _
      | exact ih2 _ _ _
      | exact ih3 _ _ _ _
      | exact stilemanref25_add.mono _ _ _ _ _
      | exact LeO.none _
      | refine LeO.ite ?_ ?_
      | refine LeO.bind ?_ (fun _ => ?_)
set_option maxHeartbeats 8000000 in
set_option maxRecDepth 100000 in
theorem stilemanref25_Script.calls (k : Nat) (a0 : Int) (a1 : Int) (r1 : List (S122)) (r2 : Int) (w : World) (h : stilemanref25_Script.f k a0 a1 = some (r1, r2)) :
    Calls Try.prog 58 #[.int .i64 a0, .int .i64 a1] w fun e w' => ∃ v0_ : Value, e = .returned (.tuple #[v0_, .int .i64 r2]) ∧ Kd.R k122 122 w' w.heap.size (fun _ => True) v0_ r1 ∧ Below w.heap.size w w' := by
  have HB := Aside0.mk (Below.refl w.heap.size w)
  have H : (if a0 = 5 then (stilemanref25_Script.j0 k a0 a1 false) else (stilemanref25_Script.j0 k a0 a1 (a0 != 6))) = some (r1, r2) := h
  clear h
  have HC3 := Aside0.mk H
  clear H
  go_enter Try.func58, Try.ntmps58
  go_upto_region 1 with (fail)
  go_cut [13] (fun v13 wc => ∃ (kq : Nat) (x13_2 : Bool), v13 = .bool x13_2 ∧ Aside0 (stilemanref25_Script.j0 kq a0 a1 x13_2 = some (r1, r2)) ∧ Aside0 (kq ≤ k) ∧ Aside0 (Below w.heap.size w wc))
  case first =>
    have H := HC3.out
    clear HC3
    by_cases c4 : a0 = 5
    · rw [if_pos c4] at H
      have c4b0 : (a0 == 5) = true := beq_iff_eq.mpr c4
      have c4b1 : (a0 != 5) = false := bne_eq_false_iff_eq.mpr c4
      clear c4
      (first | rw [c4b0] | (simp only [i64_w, i32_w]; rw [c4b0]) | skip)
      have H' := Aside0.mk H
      clear H
      go_wp2
      go_meet
      case rel => exact ⟨_, (false), (by first | rfl | (simp; done) | (simp [*]; done)), H', ⟨by first | omega | exact Nat.le_refl _⟩, ⟨by repeat (first | (with_reducible first | exact HB.out | apply below_alloc | apply pw_below_drewN | apply below_drew1) | exact HB.out)⟩⟩
    · rw [if_neg c4] at H
      have c4b0 : (a0 == 5) = false := beq_eq_false_iff_ne.mpr c4
      have c4b1 : (a0 != 5) = true := bne_iff_ne.mpr c4
      (first | rw [c4b0] | (simp only [i64_w, i32_w]; rw [c4b0]) | skip)
      have H' := Aside0.mk H
      clear H
      go_wp2
      go_meet
      case rel => exact ⟨_, ((a0 != 6)), (by first | rfl | (simp; done) | (simp [*]; done)), H', ⟨by first | omega | exact Nat.le_refl _⟩, ⟨by repeat (first | (with_reducible first | exact HB.out | apply below_alloc | apply pw_below_drewN | apply below_drew1) | exact HB.out)⟩⟩
  case rest =>
    clear HC3
    try clear p2
    try clear c4
    try clear c4b0
    try clear c4b1
    obtain ⟨kq, x13_2, rfl, HA, HJ2, HB⟩ := hcut
    cases kq with
    | zero => exact absurd HA.out (by simp [stilemanref25_Script.j0])
    | succ kj2 =>
      have H := HA.out
      clear HA
      simp only [stilemanref25_Script.j0] at H
      by_cases c5 : x13_2 = true
      · subst c5
        have H1 : (some (([] : List (S122)), 3)) = some (r1, r2) := by rw [if_pos rfl] at H; exact H
        clear H
        have H := H1
        clear H1
        simp only [Option.some.injEq, Prod.mk.injEq] at H
        obtain ⟨rfl, rfl⟩ := H
        go_wp2
        go_ret2
        exact ⟨_, by first | rfl | (simp [errW_none, errW_some] <;> rfl) | (simp [*, errW_none, errW_some] <;> rfl), by first | exact Kd.R_nil _ _ _ _ _ | exact Kd.N_nil _ _ _ _ _ | exact Kd.V_nil _ _ _ _ _ | exact Kd.Q_nil _ _ _ _ _ | exact Kd.S_nil _ _ _ _ _, by repeat (first | (with_reducible first | exact HB.out | apply below_alloc | apply pw_below_drewN | apply below_drew1) | exact HB.out)⟩
      · replace c5 := Bool.eq_false_iff.mpr c5
        subst c5
        have H1 : (if a1 < 0 then (stilemanref25_Script.j1 kj2 a0 a1 true) else (stilemanref25_Script.j1 kj2 a0 a1 (decide (a1 > 1000)))) = some (r1, r2) := by rw [if_neg (show ¬ (false = true) by decide)] at H; exact H
        clear H
        have H := H1
        clear H1
        have HC6 := Aside0.mk H
        clear H
        go_upto_region 3 with (fail)
        go_cut [19] (fun v19 wc => ∃ (kq : Nat) (x19_5 : Bool), v19 = .bool x19_5 ∧ Aside0 (stilemanref25_Script.j1 kq a0 a1 x19_5 = some (r1, r2)) ∧ Aside0 (kq ≤ kj2) ∧ Aside0 (Below w.heap.size w wc))
        case first =>
          have H := HC6.out
          clear HC6
          by_cases c7 : a1 < 0
          · rw [if_pos c7] at H
            have c7b0 : decide (a1 < 0) = true := decide_eq_true c7
            clear c7
            (first | rw [c7b0] | (simp only [i64_w, i32_w]; rw [c7b0]) | skip)
            have H' := Aside0.mk H
            clear H
            go_wp2
            go_meet
            case rel => exact ⟨_, (true), (by first | rfl | (simp; done) | (simp [*]; done)), H', ⟨by have := HJ2.out; first | omega | exact Nat.le_refl _⟩, ⟨by repeat (first | (with_reducible first | exact HB.out | apply below_alloc | apply pw_below_drewN | apply below_drew1) | exact HB.out)⟩⟩
          · rw [if_neg c7] at H
            have c7b0 : decide (a1 < 0) = false := decide_eq_false c7
            clear c7
            (first | rw [c7b0] | (simp only [i64_w, i32_w]; rw [c7b0]) | skip)
            have H' := Aside0.mk H
            clear H
            go_wp2
            go_meet
            case rel => exact ⟨_, (decide (a1 > 1000)), (by first | rfl | (simp; done) | (simp [*]; done)), H', ⟨by have := HJ2.out; first | omega | exact Nat.le_refl _⟩, ⟨by repeat (first | (with_reducible first | exact HB.out | apply below_alloc | apply pw_below_drewN | apply below_drew1) | exact HB.out)⟩⟩
        case rest =>
          clear HC6
          try clear p2
          try clear c4
          try clear c4b0
          try clear c4b1
          try clear c5
          try clear c7
          try clear c7b0
          try clear p2
          obtain ⟨kq, x19_5, rfl, HA, HJ5, HB⟩ := hcut
          cases kq with
          | zero => exact absurd HA.out (by simp [stilemanref25_Script.j1])
          | succ kj5 =>
            have H := HA.out
            clear HA
            simp only [stilemanref25_Script.j1] at H
            by_cases c8 : x19_5 = true
            · subst c8
              have H1 : (some (([] : List (S122)), 2)) = some (r1, r2) := by rw [if_pos rfl] at H; exact H
              clear H
              have H := H1
              clear H1
              simp only [Option.some.injEq, Prod.mk.injEq] at H
              obtain ⟨rfl, rfl⟩ := H
              go_wp2
              go_ret2
              exact ⟨_, by first | rfl | (simp [errW_none, errW_some] <;> rfl) | (simp [*, errW_none, errW_some] <;> rfl), by first | exact Kd.R_nil _ _ _ _ _ | exact Kd.N_nil _ _ _ _ _ | exact Kd.V_nil _ _ _ _ _ | exact Kd.Q_nil _ _ _ _ _ | exact Kd.S_nil _ _ _ _ _, by repeat (first | (with_reducible first | exact HB.out | apply below_alloc | apply pw_below_drewN | apply below_drew1) | exact HB.out)⟩
            · replace c8 := Bool.eq_false_iff.mpr c8
              subst c8
              have H1 : (if a0 = 5 then ((stilemanref25_add.f kj5 ([] : List (S122)) 1 1 18).bind fun t117 => ((stilemanref25_add.f kj5 t117 0 3 18).bind fun t120 => (stilemanref25_Script.j2 kj5 a0 a1 t120))) else ((stilemanref25_add.f kj5 ([] : List (S122)) 1 3 18).bind fun t123 => ((stilemanref25_add.f kj5 t123 0 1 18).bind fun t126 => (stilemanref25_Script.j2 kj5 a0 a1 t126)))) = some (r1, r2) := by rw [if_neg (show ¬ (false = true) by decide)] at H; exact H
              clear H
              have H := H1
              clear H1
              have HC9 := Aside0.mk H
              clear H
              go_upto_if 21 with (fail)
              go_cut [6] (fun v6 wc => ∃ (kq : Nat) (x6_8 : List (S122)), Aside0 (stilemanref25_Script.j2 kq a0 a1 x6_8 = some (r1, r2)) ∧ Aside0 (kq ≤ kj5) ∧ Aside0 (Kd.R k122 122 wc w.heap.size (fun _ => True) v6 x6_8) ∧ Aside0 (Below w.heap.size w wc))
              case first =>
                have H := HC9.out
                clear HC9
                by_cases c10 : a0 = 5
                · rw [if_pos c10] at H
                  have c10b0 : (a0 == 5) = true := beq_iff_eq.mpr c10
                  have c10b1 : (a0 != 5) = false := bne_eq_false_iff_eq.mpr c10
                  clear c10
                  (first | rw [c10b0] | (simp only [i64_w, i32_w]; rw [c10b0]) | skip)
                  replace H := Option.bind_eq_some_iff.mp H
                  obtain ⟨t117, A110, H⟩ := H
                  replace H : ((stilemanref25_add.f kj5 t117 0 3 18).bind fun t120 => (stilemanref25_Script.j2 kj5 a0 a1 t120)) = some (r1, r2) := H
                  have A11 := Aside0.mk A110
                  clear A110
                  replace H := Option.bind_eq_some_iff.mp H
                  obtain ⟨t120, A120, H⟩ := H
                  replace H : (stilemanref25_Script.j2 kj5 a0 a1 t120) = some (r1, r2) := H
                  have A12 := Aside0.mk A120
                  clear A120
                  have H' := Aside0.mk H
                  clear H
                  go_wp2_with (first | ((with_reducible refine gate_callee (f := 82) rfl ?_); refine goesL_ (some 23) rfl rfl Try.func82 (by kernel_rfl) rfl #[.slice none 0 0, .int .i64 1, .int .i64 1, .int .i64 18] rfl (by (try simp only [List.map_toArray, List.map_cons, List.map_nil]); first | done | rfl | (simp only [List.length_drop, List.length_take]; rfl)) ?_; (refine (stilemanref25_add.calls kj5 (fun k_ => some k_ = (.slice none 0 0 : Value).ownBlock) (.slice none 0 0) ([] : List (S122)) 1 1 18 t117 w _ ?side1 ?side2 A11.out).mono ?_); (case side1 => repeat (first | (with_reducible first | exact HB.out | apply below_alloc | apply pw_below_drewN | apply below_drew1) | exact HB.out)); (case side2 => exact Kd.R_nil _ _ _ _ _); rintro e w13 ⟨v118, rfl, ho0, hb, hkp⟩; refine ⟨_, rfl, ?_⟩; have n0_ := Aside0.mk (Kd.R_mono (ok' := fun k_ => True) ho0 (fun k_ hk_ => trivial)); have n1_ := Aside0.mk (hb); clear HB; have HO119 := n0_; have HB := n1_; clear n0_ n1_; (try clear hb); (try clear hkp); (try clear ho0); obtain ⟨Ao14, co14, eo14⟩ := Kd.R_slice HO119.out; subst eo14) | ((with_reducible refine gate_callee (f := 82) rfl ?_); refine goesL_ (some 24) rfl rfl Try.func82 (by kernel_rfl) rfl #[.slice Ao14 t117.length co14, .int .i64 0, .int .i64 3, .int .i64 18] rfl (by (try simp only [List.map_toArray, List.map_cons, List.map_nil]); first | done | rfl | (simp only [List.length_drop, List.length_take]; rfl)) ?_; (with_reducible refine (stilemanref25_add.calls kj5 (fun k_ => some k_ = (.slice Ao14 t117.length co14 : Value).ownBlock) (.slice Ao14 t117.length co14) t117 0 3 18 t120 w _ ?side1 ?side2 A12.out).mono ?_); (case side1 => repeat (first | (with_reducible first | exact HB.out | apply below_alloc | apply pw_below_drewN | apply below_drew1) | exact HB.out)); (case side2 => exact Kd.R_tight rfl HO119.out); rintro e w15 ⟨v121, rfl, ho0, hb, hkp⟩; refine ⟨_, rfl, ?_⟩; have n0_ := Aside0.mk (Kd.R_mono (ok' := fun k_ => True) ho0 (fun k_ hk_ => trivial)); have n1_ := Aside0.mk (hb); clear HB; clear HO119; have HO122 := n0_; have HB := n1_; clear n0_ n1_; (try clear hb); (try clear hkp); (try clear ho0)))
                  go_meet
                  case rel => exact ⟨_, (t120), H', ⟨by have := HJ2.out; have := HJ5.out; first | omega | exact Nat.le_refl _⟩, ⟨by (with_reducible repeat (first | apply Kd.R_alloc | apply Kd.R_drewN | apply Kd.R_drew)); exact HO122.out⟩, ⟨by repeat (first | (with_reducible first | exact HB.out | apply below_alloc | apply pw_below_drewN | apply below_drew1) | exact HB.out)⟩⟩
                · rw [if_neg c10] at H
                  have c10b0 : (a0 == 5) = false := beq_eq_false_iff_ne.mpr c10
                  have c10b1 : (a0 != 5) = true := bne_iff_ne.mpr c10
                  (first | rw [c10b0] | (simp only [i64_w, i32_w]; rw [c10b0]) | skip)
                  replace H := Option.bind_eq_some_iff.mp H
                  obtain ⟨t123, A160, H⟩ := H
                  replace H : ((stilemanref25_add.f kj5 t123 0 1 18).bind fun t126 => (stilemanref25_Script.j2 kj5 a0 a1 t126)) = some (r1, r2) := H
                  have A16 := Aside0.mk A160
                  clear A160
                  replace H := Option.bind_eq_some_iff.mp H
                  obtain ⟨t126, A170, H⟩ := H
                  replace H : (stilemanref25_Script.j2 kj5 a0 a1 t126) = some (r1, r2) := H
                  have A17 := Aside0.mk A170
                  clear A170
                  have H' := Aside0.mk H
                  clear H
                  go_wp2_with (first | ((with_reducible refine gate_callee (f := 82) rfl ?_); refine goesL_ (some 26) rfl rfl Try.func82 (by kernel_rfl) rfl #[.slice none 0 0, .int .i64 1, .int .i64 3, .int .i64 18] rfl (by (try simp only [List.map_toArray, List.map_cons, List.map_nil]); first | done | rfl | (simp only [List.length_drop, List.length_take]; rfl)) ?_; (refine (stilemanref25_add.calls kj5 (fun k_ => some k_ = (.slice none 0 0 : Value).ownBlock) (.slice none 0 0) ([] : List (S122)) 1 3 18 t123 w _ ?side1 ?side2 A16.out).mono ?_); (case side1 => repeat (first | (with_reducible first | exact HB.out | apply below_alloc | apply pw_below_drewN | apply below_drew1) | exact HB.out)); (case side2 => exact Kd.R_nil _ _ _ _ _); rintro e w18 ⟨v124, rfl, ho0, hb, hkp⟩; refine ⟨_, rfl, ?_⟩; have n0_ := Aside0.mk (Kd.R_mono (ok' := fun k_ => True) ho0 (fun k_ hk_ => trivial)); have n1_ := Aside0.mk (hb); clear HB; have HO125 := n0_; have HB := n1_; clear n0_ n1_; (try clear hb); (try clear hkp); (try clear ho0); obtain ⟨Ao19, co19, eo19⟩ := Kd.R_slice HO125.out; subst eo19) | ((with_reducible refine gate_callee (f := 82) rfl ?_); refine goesL_ (some 27) rfl rfl Try.func82 (by kernel_rfl) rfl #[.slice Ao19 t123.length co19, .int .i64 0, .int .i64 1, .int .i64 18] rfl (by (try simp only [List.map_toArray, List.map_cons, List.map_nil]); first | done | rfl | (simp only [List.length_drop, List.length_take]; rfl)) ?_; (with_reducible refine (stilemanref25_add.calls kj5 (fun k_ => some k_ = (.slice Ao19 t123.length co19 : Value).ownBlock) (.slice Ao19 t123.length co19) t123 0 1 18 t126 w _ ?side1 ?side2 A17.out).mono ?_); (case side1 => repeat (first | (with_reducible first | exact HB.out | apply below_alloc | apply pw_below_drewN | apply below_drew1) | exact HB.out)); (case side2 => exact Kd.R_tight rfl HO125.out); rintro e w20 ⟨v127, rfl, ho0, hb, hkp⟩; refine ⟨_, rfl, ?_⟩; have n0_ := Aside0.mk (Kd.R_mono (ok' := fun k_ => True) ho0 (fun k_ hk_ => trivial)); have n1_ := Aside0.mk (hb); clear HB; clear HO125; have HO128 := n0_; have HB := n1_; clear n0_ n1_; (try clear hb); (try clear hkp); (try clear ho0)))
                  go_meet
                  case rel => exact ⟨_, (t126), H', ⟨by have := HJ2.out; have := HJ5.out; first | omega | exact Nat.le_refl _⟩, ⟨by (with_reducible repeat (first | apply Kd.R_alloc | apply Kd.R_drewN | apply Kd.R_drew)); exact HO128.out⟩, ⟨by repeat (first | (with_reducible first | exact HB.out | apply below_alloc | apply pw_below_drewN | apply below_drew1) | exact HB.out)⟩⟩
              case rest =>
                clear HC9
                try clear c1
                try clear p2
                try clear c4
                try clear c4b0
                try clear c4b1
                try clear c5
                try clear c7
                try clear c7b0
                try clear c8
                try clear c10
                try clear c10b0
                try clear c10b1
                try clear p2
                obtain ⟨kq, x6_8, HA, HJ8, HO_6, HB⟩ := hcut
                cases kq with
                | zero => exact absurd HA.out (by simp [stilemanref25_Script.j2])
                | succ kj8 =>
                  have H := HA.out
                  clear HA
                  simp only [stilemanref25_Script.j2] at H
                  have H' := Aside0.mk H
                  clear H
                  go_wp2
                  go_loopg [6, 7] kj8 (fun kq v6 v7 w' => ∃ (x6_4 : List (S122)) (x7_4 : Int), v7 = .int .i64 x7_4 ∧ Aside0 (stilemanref25_Script.l0 kq a0 a1 x6_4 x7_4 = some (r1, r2)) ∧ Aside0 (kq ≤ kj8) ∧ Aside0 (Kd.R k122 122 w' w.heap.size (fun _ => True) v6 x6_4) ∧ Aside0 (Below w.heap.size w w'))
                  case atStart => exact ⟨(x6_8), (0), (by first | rfl | (simp; done) | (simp [*]; done)), H', ⟨Nat.le_refl _⟩, ⟨by (with_reducible repeat (first | apply Kd.R_alloc | apply Kd.R_drewN | apply Kd.R_drew)); exact HO_6.out⟩, ⟨by repeat (first | (with_reducible first | exact HB.out | apply below_alloc | apply pw_below_drewN | apply below_drew1) | exact HB.out)⟩⟩
                  case round =>
                    clear H'
                    try clear c1
                    try clear p2
                    try clear c4
                    try clear c4b0
                    try clear c4b1
                    try clear c5
                    try clear c7
                    try clear c7b0
                    try clear c8
                    try clear c10
                    try clear c10b0
                    try clear c10b1
                    try clear p2
                    obtain ⟨x6_4, x7_4, rfl, HA, HK4, HO_6, HB⟩ := hrel
                    cases gk with
                    | zero => exact absurd HA.out (by simp [stilemanref25_Script.l0])
                    | succ k4 =>
                      have H := HA.out
                      clear HA
                      simp only [stilemanref25_Script.l0] at H
                      by_cases c21 : x7_4 < a1
                      · rw [if_pos c21] at H
                        have c21b0 : decide (x7_4 < a1) = true := decide_eq_true c21
                        clear c21
                        by_cases c22 : a0 = 5
                        · rw [if_pos c22] at H
                          have c22b0 : (a0 == 5) = true := beq_iff_eq.mpr c22
                          have c22b1 : (a0 != 5) = false := bne_eq_false_iff_eq.mpr c22
                          clear c22
                          replace H := Option.bind_eq_some_iff.mp H
                          obtain ⟨t129, A230, H⟩ := H
                          replace H : ((stilemanref25_add.f k4 t129 0 0 6).bind fun t132 => ((stilemanref25_add.f k4 t132 1 2 18).bind fun t135 => ((stilemanref25_add.f k4 t135 0 0 6).bind fun t138 => ((stilemanref25_add.f k4 t138 1 1 18).bind fun t141 => ((stilemanref25_add.f k4 t141 0 0 6).bind fun t144 => ((stilemanref25_add.f k4 t144 2 2 18).bind fun t147 => ((stilemanref25_add.f k4 t147 0 0 6).bind fun t150 => (stilemanref25_Script.l0 k4 a0 a1 t150 (wrap64 (x7_4 + 1)))))))))) = some (r1, r2) := H
                          have A23 := Aside0.mk A230
                          clear A230
                          replace H := Option.bind_eq_some_iff.mp H
                          obtain ⟨t132, A240, H⟩ := H
                          replace H : ((stilemanref25_add.f k4 t132 1 2 18).bind fun t135 => ((stilemanref25_add.f k4 t135 0 0 6).bind fun t138 => ((stilemanref25_add.f k4 t138 1 1 18).bind fun t141 => ((stilemanref25_add.f k4 t141 0 0 6).bind fun t144 => ((stilemanref25_add.f k4 t144 2 2 18).bind fun t147 => ((stilemanref25_add.f k4 t147 0 0 6).bind fun t150 => (stilemanref25_Script.l0 k4 a0 a1 t150 (wrap64 (x7_4 + 1))))))))) = some (r1, r2) := H
                          have A24 := Aside0.mk A240
                          clear A240
                          replace H := Option.bind_eq_some_iff.mp H
                          obtain ⟨t135, A250, H⟩ := H
                          replace H : ((stilemanref25_add.f k4 t135 0 0 6).bind fun t138 => ((stilemanref25_add.f k4 t138 1 1 18).bind fun t141 => ((stilemanref25_add.f k4 t141 0 0 6).bind fun t144 => ((stilemanref25_add.f k4 t144 2 2 18).bind fun t147 => ((stilemanref25_add.f k4 t147 0 0 6).bind fun t150 => (stilemanref25_Script.l0 k4 a0 a1 t150 (wrap64 (x7_4 + 1)))))))) = some (r1, r2) := H
                          have A25 := Aside0.mk A250
                          clear A250
                          replace H := Option.bind_eq_some_iff.mp H
                          obtain ⟨t138, A260, H⟩ := H
                          replace H : ((stilemanref25_add.f k4 t138 1 1 18).bind fun t141 => ((stilemanref25_add.f k4 t141 0 0 6).bind fun t144 => ((stilemanref25_add.f k4 t144 2 2 18).bind fun t147 => ((stilemanref25_add.f k4 t147 0 0 6).bind fun t150 => (stilemanref25_Script.l0 k4 a0 a1 t150 (wrap64 (x7_4 + 1))))))) = some (r1, r2) := H
                          have A26 := Aside0.mk A260
                          clear A260
                          replace H := Option.bind_eq_some_iff.mp H
                          obtain ⟨t141, A270, H⟩ := H
                          replace H : ((stilemanref25_add.f k4 t141 0 0 6).bind fun t144 => ((stilemanref25_add.f k4 t144 2 2 18).bind fun t147 => ((stilemanref25_add.f k4 t147 0 0 6).bind fun t150 => (stilemanref25_Script.l0 k4 a0 a1 t150 (wrap64 (x7_4 + 1)))))) = some (r1, r2) := H
                          have A27 := Aside0.mk A270
                          clear A270
                          replace H := Option.bind_eq_some_iff.mp H
                          obtain ⟨t144, A280, H⟩ := H
                          replace H : ((stilemanref25_add.f k4 t144 2 2 18).bind fun t147 => ((stilemanref25_add.f k4 t147 0 0 6).bind fun t150 => (stilemanref25_Script.l0 k4 a0 a1 t150 (wrap64 (x7_4 + 1))))) = some (r1, r2) := H
                          have A28 := Aside0.mk A280
                          clear A280
                          replace H := Option.bind_eq_some_iff.mp H
                          obtain ⟨t147, A290, H⟩ := H
                          replace H : ((stilemanref25_add.f k4 t147 0 0 6).bind fun t150 => (stilemanref25_Script.l0 k4 a0 a1 t150 (wrap64 (x7_4 + 1)))) = some (r1, r2) := H
                          have A29 := Aside0.mk A290
                          clear A290
                          replace H := Option.bind_eq_some_iff.mp H
                          obtain ⟨t150, A300, H⟩ := H
                          replace H : (stilemanref25_Script.l0 k4 a0 a1 t150 (wrap64 (x7_4 + 1))) = some (r1, r2) := H
                          have A30 := Aside0.mk A300
                          clear A300
                          have H' := Aside0.mk H
                          clear H
                          obtain ⟨Ao31, co31, eo31⟩ := Kd.R_slice HO_6.out
                          subst eo31
                          go_wp2_with (first | ((with_reducible refine gate_callee (f := 82) rfl ?_); refine goesL_ (some 36) rfl rfl Try.func82 (by kernel_rfl) rfl #[.slice Ao31 x6_4.length co31, .int .i64 2, .int .i64 1, .int .i64 18] rfl (by (try simp only [List.map_toArray, List.map_cons, List.map_nil]); first | done | rfl | (simp only [List.length_drop, List.length_take]; rfl)) ?_; (with_reducible refine (stilemanref25_add.calls k4 (fun k_ => some k_ = (.slice Ao31 x6_4.length co31 : Value).ownBlock) (.slice Ao31 x6_4.length co31) x6_4 2 1 18 t129 w _ ?side1 ?side2 A23.out).mono ?_); (case side1 => repeat (first | (with_reducible first | exact HB.out | apply below_alloc | apply pw_below_drewN | apply below_drew1) | exact HB.out)); (case side2 => exact Kd.R_tight rfl HO_6.out); rintro e w32 ⟨v130, rfl, ho0, hb, hkp⟩; refine ⟨_, rfl, ?_⟩; have n0_ := Aside0.mk (Kd.R_mono (ok' := fun k_ => True) ho0 (fun k_ hk_ => trivial)); have n1_ := Aside0.mk (hb); clear HB; clear HO_6; have HO131 := n0_; have HB := n1_; clear n0_ n1_; (try clear hb); (try clear hkp); (try clear ho0); obtain ⟨Ao33, co33, eo33⟩ := Kd.R_slice HO131.out; subst eo33) | ((with_reducible refine gate_callee (f := 82) rfl ?_); refine goesL_ (some 37) rfl rfl Try.func82 (by kernel_rfl) rfl #[.slice Ao33 t129.length co33, .int .i64 0, .int .i64 0, .int .i64 6] rfl (by (try simp only [List.map_toArray, List.map_cons, List.map_nil]); first | done | rfl | (simp only [List.length_drop, List.length_take]; rfl)) ?_; (with_reducible refine (stilemanref25_add.calls k4 (fun k_ => some k_ = (.slice Ao33 t129.length co33 : Value).ownBlock) (.slice Ao33 t129.length co33) t129 0 0 6 t132 w _ ?side1 ?side2 A24.out).mono ?_); (case side1 => repeat (first | (with_reducible first | exact HB.out | apply below_alloc | apply pw_below_drewN | apply below_drew1) | exact HB.out)); (case side2 => exact Kd.R_tight rfl HO131.out); rintro e w34 ⟨v133, rfl, ho0, hb, hkp⟩; refine ⟨_, rfl, ?_⟩; have n0_ := Aside0.mk (Kd.R_mono (ok' := fun k_ => True) ho0 (fun k_ hk_ => trivial)); have n1_ := Aside0.mk (hb); clear HB; clear HO131; have HO134 := n0_; have HB := n1_; clear n0_ n1_; (try clear hb); (try clear hkp); (try clear ho0); obtain ⟨Ao35, co35, eo35⟩ := Kd.R_slice HO134.out; subst eo35) | ((with_reducible refine gate_callee (f := 82) rfl ?_); refine goesL_ (some 39) rfl rfl Try.func82 (by kernel_rfl) rfl #[.slice Ao35 t132.length co35, .int .i64 1, .int .i64 2, .int .i64 18] rfl (by (try simp only [List.map_toArray, List.map_cons, List.map_nil]); first | done | rfl | (simp only [List.length_drop, List.length_take]; rfl)) ?_; (with_reducible refine (stilemanref25_add.calls k4 (fun k_ => some k_ = (.slice Ao35 t132.length co35 : Value).ownBlock) (.slice Ao35 t132.length co35) t132 1 2 18 t135 w _ ?side1 ?side2 A25.out).mono ?_); (case side1 => repeat (first | (with_reducible first | exact HB.out | apply below_alloc | apply pw_below_drewN | apply below_drew1) | exact HB.out)); (case side2 => exact Kd.R_tight rfl HO134.out); rintro e w36 ⟨v136, rfl, ho0, hb, hkp⟩; refine ⟨_, rfl, ?_⟩; have n0_ := Aside0.mk (Kd.R_mono (ok' := fun k_ => True) ho0 (fun k_ hk_ => trivial)); have n1_ := Aside0.mk (hb); clear HB; clear HO134; have HO137 := n0_; have HB := n1_; clear n0_ n1_; (try clear hb); (try clear hkp); (try clear ho0); obtain ⟨Ao37, co37, eo37⟩ := Kd.R_slice HO137.out; subst eo37) | ((with_reducible refine gate_callee (f := 82) rfl ?_); refine goesL_ (some 40) rfl rfl Try.func82 (by kernel_rfl) rfl #[.slice Ao37 t135.length co37, .int .i64 0, .int .i64 0, .int .i64 6] rfl (by (try simp only [List.map_toArray, List.map_cons, List.map_nil]); first | done | rfl | (simp only [List.length_drop, List.length_take]; rfl)) ?_; (with_reducible refine (stilemanref25_add.calls k4 (fun k_ => some k_ = (.slice Ao37 t135.length co37 : Value).ownBlock) (.slice Ao37 t135.length co37) t135 0 0 6 t138 w _ ?side1 ?side2 A26.out).mono ?_); (case side1 => repeat (first | (with_reducible first | exact HB.out | apply below_alloc | apply pw_below_drewN | apply below_drew1) | exact HB.out)); (case side2 => exact Kd.R_tight rfl HO137.out); rintro e w38 ⟨v139, rfl, ho0, hb, hkp⟩; refine ⟨_, rfl, ?_⟩; have n0_ := Aside0.mk (Kd.R_mono (ok' := fun k_ => True) ho0 (fun k_ hk_ => trivial)); have n1_ := Aside0.mk (hb); clear HB; clear HO137; have HO140 := n0_; have HB := n1_; clear n0_ n1_; (try clear hb); (try clear hkp); (try clear ho0); obtain ⟨Ao39, co39, eo39⟩ := Kd.R_slice HO140.out; subst eo39) | ((with_reducible refine gate_callee (f := 82) rfl ?_); refine goesL_ (some 42) rfl rfl Try.func82 (by kernel_rfl) rfl #[.slice Ao39 t138.length co39, .int .i64 1, .int .i64 1, .int .i64 18] rfl (by (try simp only [List.map_toArray, List.map_cons, List.map_nil]); first | done | rfl | (simp only [List.length_drop, List.length_take]; rfl)) ?_; (with_reducible refine (stilemanref25_add.calls k4 (fun k_ => some k_ = (.slice Ao39 t138.length co39 : Value).ownBlock) (.slice Ao39 t138.length co39) t138 1 1 18 t141 w _ ?side1 ?side2 A27.out).mono ?_); (case side1 => repeat (first | (with_reducible first | exact HB.out | apply below_alloc | apply pw_below_drewN | apply below_drew1) | exact HB.out)); (case side2 => exact Kd.R_tight rfl HO140.out); rintro e w40 ⟨v142, rfl, ho0, hb, hkp⟩; refine ⟨_, rfl, ?_⟩; have n0_ := Aside0.mk (Kd.R_mono (ok' := fun k_ => True) ho0 (fun k_ hk_ => trivial)); have n1_ := Aside0.mk (hb); clear HB; clear HO140; have HO143 := n0_; have HB := n1_; clear n0_ n1_; (try clear hb); (try clear hkp); (try clear ho0); obtain ⟨Ao41, co41, eo41⟩ := Kd.R_slice HO143.out; subst eo41) | ((with_reducible refine gate_callee (f := 82) rfl ?_); refine goesL_ (some 43) rfl rfl Try.func82 (by kernel_rfl) rfl #[.slice Ao41 t141.length co41, .int .i64 0, .int .i64 0, .int .i64 6] rfl (by (try simp only [List.map_toArray, List.map_cons, List.map_nil]); first | done | rfl | (simp only [List.length_drop, List.length_take]; rfl)) ?_; (with_reducible refine (stilemanref25_add.calls k4 (fun k_ => some k_ = (.slice Ao41 t141.length co41 : Value).ownBlock) (.slice Ao41 t141.length co41) t141 0 0 6 t144 w _ ?side1 ?side2 A28.out).mono ?_); (case side1 => repeat (first | (with_reducible first | exact HB.out | apply below_alloc | apply pw_below_drewN | apply below_drew1) | exact HB.out)); (case side2 => exact Kd.R_tight rfl HO143.out); rintro e w42 ⟨v145, rfl, ho0, hb, hkp⟩; refine ⟨_, rfl, ?_⟩; have n0_ := Aside0.mk (Kd.R_mono (ok' := fun k_ => True) ho0 (fun k_ hk_ => trivial)); have n1_ := Aside0.mk (hb); clear HB; clear HO143; have HO146 := n0_; have HB := n1_; clear n0_ n1_; (try clear hb); (try clear hkp); (try clear ho0); obtain ⟨Ao43, co43, eo43⟩ := Kd.R_slice HO146.out; subst eo43) | ((with_reducible refine gate_callee (f := 82) rfl ?_); refine goesL_ (some 45) rfl rfl Try.func82 (by kernel_rfl) rfl #[.slice Ao43 t144.length co43, .int .i64 2, .int .i64 2, .int .i64 18] rfl (by (try simp only [List.map_toArray, List.map_cons, List.map_nil]); first | done | rfl | (simp only [List.length_drop, List.length_take]; rfl)) ?_; (with_reducible refine (stilemanref25_add.calls k4 (fun k_ => some k_ = (.slice Ao43 t144.length co43 : Value).ownBlock) (.slice Ao43 t144.length co43) t144 2 2 18 t147 w _ ?side1 ?side2 A29.out).mono ?_); (case side1 => repeat (first | (with_reducible first | exact HB.out | apply below_alloc | apply pw_below_drewN | apply below_drew1) | exact HB.out)); (case side2 => exact Kd.R_tight rfl HO146.out); rintro e w44 ⟨v148, rfl, ho0, hb, hkp⟩; refine ⟨_, rfl, ?_⟩; have n0_ := Aside0.mk (Kd.R_mono (ok' := fun k_ => True) ho0 (fun k_ hk_ => trivial)); have n1_ := Aside0.mk (hb); clear HB; clear HO146; have HO149 := n0_; have HB := n1_; clear n0_ n1_; (try clear hb); (try clear hkp); (try clear ho0); obtain ⟨Ao45, co45, eo45⟩ := Kd.R_slice HO149.out; subst eo45) | ((with_reducible refine gate_callee (f := 82) rfl ?_); refine goesL_ (some 46) rfl rfl Try.func82 (by kernel_rfl) rfl #[.slice Ao45 t147.length co45, .int .i64 0, .int .i64 0, .int .i64 6] rfl (by (try simp only [List.map_toArray, List.map_cons, List.map_nil]); first | done | rfl | (simp only [List.length_drop, List.length_take]; rfl)) ?_; (with_reducible refine (stilemanref25_add.calls k4 (fun k_ => some k_ = (.slice Ao45 t147.length co45 : Value).ownBlock) (.slice Ao45 t147.length co45) t147 0 0 6 t150 w _ ?side1 ?side2 A30.out).mono ?_); (case side1 => repeat (first | (with_reducible first | exact HB.out | apply below_alloc | apply pw_below_drewN | apply below_drew1) | exact HB.out)); (case side2 => exact Kd.R_tight rfl HO149.out); rintro e w46 ⟨v151, rfl, ho0, hb, hkp⟩; refine ⟨_, rfl, ?_⟩; have n0_ := Aside0.mk (Kd.R_mono (ok' := fun k_ => True) ho0 (fun k_ hk_ => trivial)); have n1_ := Aside0.mk (hb); clear HB; clear HO149; have HO152 := n0_; have HB := n1_; clear n0_ n1_; (try clear hb); (try clear hkp); (try clear ho0)))
                          go_roundg k4
                          case measure => have := HJ2.out; have := HJ5.out; have := HJ8.out; have := HK4.out; omega
                          case rel => exact ⟨(t150), (wrap64 (x7_4 + 1)), (by first | rfl | (simp; done) | (simp [*]; done)), H', ⟨by have := HJ2.out; have := HJ5.out; have := HJ8.out; have := HK4.out; omega⟩, ⟨by (with_reducible repeat (first | apply Kd.R_alloc | apply Kd.R_drewN | apply Kd.R_drew)); exact HO152.out⟩, ⟨by repeat (first | (with_reducible first | exact HB.out | apply below_alloc | apply pw_below_drewN | apply below_drew1) | exact HB.out)⟩⟩
                        · rw [if_neg c22] at H
                          have c22b0 : (a0 == 5) = false := beq_eq_false_iff_ne.mpr c22
                          have c22b1 : (a0 != 5) = true := bne_iff_ne.mpr c22
                          replace H := Option.bind_eq_some_iff.mp H
                          obtain ⟨t153, A470, H⟩ := H
                          replace H : ((stilemanref25_add.f k4 t153 0 0 6).bind fun t156 => ((stilemanref25_add.f k4 t156 1 4 18).bind fun t159 => ((stilemanref25_add.f k4 t159 2 0 18).bind fun t162 => ((stilemanref25_add.f k4 t162 0 0 6).bind fun t165 => ((stilemanref25_add.f k4 t165 1 3 18).bind fun t168 => ((stilemanref25_add.f k4 t168 0 0 6).bind fun t171 => ((stilemanref25_add.f k4 t171 2 4 18).bind fun t174 => ((stilemanref25_add.f k4 t174 1 0 18).bind fun t177 => ((stilemanref25_add.f k4 t177 0 0 6).bind fun t180 => (stilemanref25_Script.l0 k4 a0 a1 t180 (wrap64 (x7_4 + 1)))))))))))) = some (r1, r2) := H
                          have A47 := Aside0.mk A470
                          clear A470
                          replace H := Option.bind_eq_some_iff.mp H
                          obtain ⟨t156, A480, H⟩ := H
                          replace H : ((stilemanref25_add.f k4 t156 1 4 18).bind fun t159 => ((stilemanref25_add.f k4 t159 2 0 18).bind fun t162 => ((stilemanref25_add.f k4 t162 0 0 6).bind fun t165 => ((stilemanref25_add.f k4 t165 1 3 18).bind fun t168 => ((stilemanref25_add.f k4 t168 0 0 6).bind fun t171 => ((stilemanref25_add.f k4 t171 2 4 18).bind fun t174 => ((stilemanref25_add.f k4 t174 1 0 18).bind fun t177 => ((stilemanref25_add.f k4 t177 0 0 6).bind fun t180 => (stilemanref25_Script.l0 k4 a0 a1 t180 (wrap64 (x7_4 + 1))))))))))) = some (r1, r2) := H
                          have A48 := Aside0.mk A480
                          clear A480
                          replace H := Option.bind_eq_some_iff.mp H
                          obtain ⟨t159, A490, H⟩ := H
                          replace H : ((stilemanref25_add.f k4 t159 2 0 18).bind fun t162 => ((stilemanref25_add.f k4 t162 0 0 6).bind fun t165 => ((stilemanref25_add.f k4 t165 1 3 18).bind fun t168 => ((stilemanref25_add.f k4 t168 0 0 6).bind fun t171 => ((stilemanref25_add.f k4 t171 2 4 18).bind fun t174 => ((stilemanref25_add.f k4 t174 1 0 18).bind fun t177 => ((stilemanref25_add.f k4 t177 0 0 6).bind fun t180 => (stilemanref25_Script.l0 k4 a0 a1 t180 (wrap64 (x7_4 + 1)))))))))) = some (r1, r2) := H
                          have A49 := Aside0.mk A490
                          clear A490
                          replace H := Option.bind_eq_some_iff.mp H
                          obtain ⟨t162, A500, H⟩ := H
                          replace H : ((stilemanref25_add.f k4 t162 0 0 6).bind fun t165 => ((stilemanref25_add.f k4 t165 1 3 18).bind fun t168 => ((stilemanref25_add.f k4 t168 0 0 6).bind fun t171 => ((stilemanref25_add.f k4 t171 2 4 18).bind fun t174 => ((stilemanref25_add.f k4 t174 1 0 18).bind fun t177 => ((stilemanref25_add.f k4 t177 0 0 6).bind fun t180 => (stilemanref25_Script.l0 k4 a0 a1 t180 (wrap64 (x7_4 + 1))))))))) = some (r1, r2) := H
                          have A50 := Aside0.mk A500
                          clear A500
                          replace H := Option.bind_eq_some_iff.mp H
                          obtain ⟨t165, A510, H⟩ := H
                          replace H : ((stilemanref25_add.f k4 t165 1 3 18).bind fun t168 => ((stilemanref25_add.f k4 t168 0 0 6).bind fun t171 => ((stilemanref25_add.f k4 t171 2 4 18).bind fun t174 => ((stilemanref25_add.f k4 t174 1 0 18).bind fun t177 => ((stilemanref25_add.f k4 t177 0 0 6).bind fun t180 => (stilemanref25_Script.l0 k4 a0 a1 t180 (wrap64 (x7_4 + 1)))))))) = some (r1, r2) := H
                          have A51 := Aside0.mk A510
                          clear A510
                          replace H := Option.bind_eq_some_iff.mp H
                          obtain ⟨t168, A520, H⟩ := H
                          replace H : ((stilemanref25_add.f k4 t168 0 0 6).bind fun t171 => ((stilemanref25_add.f k4 t171 2 4 18).bind fun t174 => ((stilemanref25_add.f k4 t174 1 0 18).bind fun t177 => ((stilemanref25_add.f k4 t177 0 0 6).bind fun t180 => (stilemanref25_Script.l0 k4 a0 a1 t180 (wrap64 (x7_4 + 1))))))) = some (r1, r2) := H
                          have A52 := Aside0.mk A520
                          clear A520
                          replace H := Option.bind_eq_some_iff.mp H
                          obtain ⟨t171, A530, H⟩ := H
                          replace H : ((stilemanref25_add.f k4 t171 2 4 18).bind fun t174 => ((stilemanref25_add.f k4 t174 1 0 18).bind fun t177 => ((stilemanref25_add.f k4 t177 0 0 6).bind fun t180 => (stilemanref25_Script.l0 k4 a0 a1 t180 (wrap64 (x7_4 + 1)))))) = some (r1, r2) := H
                          have A53 := Aside0.mk A530
                          clear A530
                          replace H := Option.bind_eq_some_iff.mp H
                          obtain ⟨t174, A540, H⟩ := H
                          replace H : ((stilemanref25_add.f k4 t174 1 0 18).bind fun t177 => ((stilemanref25_add.f k4 t177 0 0 6).bind fun t180 => (stilemanref25_Script.l0 k4 a0 a1 t180 (wrap64 (x7_4 + 1))))) = some (r1, r2) := H
                          have A54 := Aside0.mk A540
                          clear A540
                          replace H := Option.bind_eq_some_iff.mp H
                          obtain ⟨t177, A550, H⟩ := H
                          replace H : ((stilemanref25_add.f k4 t177 0 0 6).bind fun t180 => (stilemanref25_Script.l0 k4 a0 a1 t180 (wrap64 (x7_4 + 1)))) = some (r1, r2) := H
                          have A55 := Aside0.mk A550
                          clear A550
                          replace H := Option.bind_eq_some_iff.mp H
                          obtain ⟨t180, A560, H⟩ := H
                          replace H : (stilemanref25_Script.l0 k4 a0 a1 t180 (wrap64 (x7_4 + 1))) = some (r1, r2) := H
                          have A56 := Aside0.mk A560
                          clear A560
                          have H' := Aside0.mk H
                          clear H
                          obtain ⟨Ao57, co57, eo57⟩ := Kd.R_slice HO_6.out
                          subst eo57
                          go_wp2_with (first | ((with_reducible refine gate_callee (f := 82) rfl ?_); refine goesL_ (some 48) rfl rfl Try.func82 (by kernel_rfl) rfl #[.slice Ao57 x6_4.length co57, .int .i64 2, .int .i64 3, .int .i64 18] rfl (by (try simp only [List.map_toArray, List.map_cons, List.map_nil]); first | done | rfl | (simp only [List.length_drop, List.length_take]; rfl)) ?_; (with_reducible refine (stilemanref25_add.calls k4 (fun k_ => some k_ = (.slice Ao57 x6_4.length co57 : Value).ownBlock) (.slice Ao57 x6_4.length co57) x6_4 2 3 18 t153 w _ ?side1 ?side2 A47.out).mono ?_); (case side1 => repeat (first | (with_reducible first | exact HB.out | apply below_alloc | apply pw_below_drewN | apply below_drew1) | exact HB.out)); (case side2 => exact Kd.R_tight rfl HO_6.out); rintro e w58 ⟨v154, rfl, ho0, hb, hkp⟩; refine ⟨_, rfl, ?_⟩; have n0_ := Aside0.mk (Kd.R_mono (ok' := fun k_ => True) ho0 (fun k_ hk_ => trivial)); have n1_ := Aside0.mk (hb); clear HB; clear HO_6; have HO155 := n0_; have HB := n1_; clear n0_ n1_; (try clear hb); (try clear hkp); (try clear ho0); obtain ⟨Ao59, co59, eo59⟩ := Kd.R_slice HO155.out; subst eo59) | ((with_reducible refine gate_callee (f := 82) rfl ?_); refine goesL_ (some 49) rfl rfl Try.func82 (by kernel_rfl) rfl #[.slice Ao59 t153.length co59, .int .i64 0, .int .i64 0, .int .i64 6] rfl (by (try simp only [List.map_toArray, List.map_cons, List.map_nil]); first | done | rfl | (simp only [List.length_drop, List.length_take]; rfl)) ?_; (with_reducible refine (stilemanref25_add.calls k4 (fun k_ => some k_ = (.slice Ao59 t153.length co59 : Value).ownBlock) (.slice Ao59 t153.length co59) t153 0 0 6 t156 w _ ?side1 ?side2 A48.out).mono ?_); (case side1 => repeat (first | (with_reducible first | exact HB.out | apply below_alloc | apply pw_below_drewN | apply below_drew1) | exact HB.out)); (case side2 => exact Kd.R_tight rfl HO155.out); rintro e w60 ⟨v157, rfl, ho0, hb, hkp⟩; refine ⟨_, rfl, ?_⟩; have n0_ := Aside0.mk (Kd.R_mono (ok' := fun k_ => True) ho0 (fun k_ hk_ => trivial)); have n1_ := Aside0.mk (hb); clear HB; clear HO155; have HO158 := n0_; have HB := n1_; clear n0_ n1_; (try clear hb); (try clear hkp); (try clear ho0); obtain ⟨Ao61, co61, eo61⟩ := Kd.R_slice HO158.out; subst eo61) | ((with_reducible refine gate_callee (f := 82) rfl ?_); refine goesL_ (some 51) rfl rfl Try.func82 (by kernel_rfl) rfl #[.slice Ao61 t156.length co61, .int .i64 1, .int .i64 4, .int .i64 18] rfl (by (try simp only [List.map_toArray, List.map_cons, List.map_nil]); first | done | rfl | (simp only [List.length_drop, List.length_take]; rfl)) ?_; (with_reducible refine (stilemanref25_add.calls k4 (fun k_ => some k_ = (.slice Ao61 t156.length co61 : Value).ownBlock) (.slice Ao61 t156.length co61) t156 1 4 18 t159 w _ ?side1 ?side2 A49.out).mono ?_); (case side1 => repeat (first | (with_reducible first | exact HB.out | apply below_alloc | apply pw_below_drewN | apply below_drew1) | exact HB.out)); (case side2 => exact Kd.R_tight rfl HO158.out); rintro e w62 ⟨v160, rfl, ho0, hb, hkp⟩; refine ⟨_, rfl, ?_⟩; have n0_ := Aside0.mk (Kd.R_mono (ok' := fun k_ => True) ho0 (fun k_ hk_ => trivial)); have n1_ := Aside0.mk (hb); clear HB; clear HO158; have HO161 := n0_; have HB := n1_; clear n0_ n1_; (try clear hb); (try clear hkp); (try clear ho0); obtain ⟨Ao63, co63, eo63⟩ := Kd.R_slice HO161.out; subst eo63) | ((with_reducible refine gate_callee (f := 82) rfl ?_); refine goesL_ (some 52) rfl rfl Try.func82 (by kernel_rfl) rfl #[.slice Ao63 t159.length co63, .int .i64 2, .int .i64 0, .int .i64 18] rfl (by (try simp only [List.map_toArray, List.map_cons, List.map_nil]); first | done | rfl | (simp only [List.length_drop, List.length_take]; rfl)) ?_; (with_reducible refine (stilemanref25_add.calls k4 (fun k_ => some k_ = (.slice Ao63 t159.length co63 : Value).ownBlock) (.slice Ao63 t159.length co63) t159 2 0 18 t162 w _ ?side1 ?side2 A50.out).mono ?_); (case side1 => repeat (first | (with_reducible first | exact HB.out | apply below_alloc | apply pw_below_drewN | apply below_drew1) | exact HB.out)); (case side2 => exact Kd.R_tight rfl HO161.out); rintro e w64 ⟨v163, rfl, ho0, hb, hkp⟩; refine ⟨_, rfl, ?_⟩; have n0_ := Aside0.mk (Kd.R_mono (ok' := fun k_ => True) ho0 (fun k_ hk_ => trivial)); have n1_ := Aside0.mk (hb); clear HB; clear HO161; have HO164 := n0_; have HB := n1_; clear n0_ n1_; (try clear hb); (try clear hkp); (try clear ho0); obtain ⟨Ao65, co65, eo65⟩ := Kd.R_slice HO164.out; subst eo65) | ((with_reducible refine gate_callee (f := 82) rfl ?_); refine goesL_ (some 53) rfl rfl Try.func82 (by kernel_rfl) rfl #[.slice Ao65 t162.length co65, .int .i64 0, .int .i64 0, .int .i64 6] rfl (by (try simp only [List.map_toArray, List.map_cons, List.map_nil]); first | done | rfl | (simp only [List.length_drop, List.length_take]; rfl)) ?_; (with_reducible refine (stilemanref25_add.calls k4 (fun k_ => some k_ = (.slice Ao65 t162.length co65 : Value).ownBlock) (.slice Ao65 t162.length co65) t162 0 0 6 t165 w _ ?side1 ?side2 A51.out).mono ?_); (case side1 => repeat (first | (with_reducible first | exact HB.out | apply below_alloc | apply pw_below_drewN | apply below_drew1) | exact HB.out)); (case side2 => exact Kd.R_tight rfl HO164.out); rintro e w66 ⟨v166, rfl, ho0, hb, hkp⟩; refine ⟨_, rfl, ?_⟩; have n0_ := Aside0.mk (Kd.R_mono (ok' := fun k_ => True) ho0 (fun k_ hk_ => trivial)); have n1_ := Aside0.mk (hb); clear HB; clear HO164; have HO167 := n0_; have HB := n1_; clear n0_ n1_; (try clear hb); (try clear hkp); (try clear ho0); obtain ⟨Ao67, co67, eo67⟩ := Kd.R_slice HO167.out; subst eo67) | ((with_reducible refine gate_callee (f := 82) rfl ?_); refine goesL_ (some 55) rfl rfl Try.func82 (by kernel_rfl) rfl #[.slice Ao67 t165.length co67, .int .i64 1, .int .i64 3, .int .i64 18] rfl (by (try simp only [List.map_toArray, List.map_cons, List.map_nil]); first | done | rfl | (simp only [List.length_drop, List.length_take]; rfl)) ?_; (with_reducible refine (stilemanref25_add.calls k4 (fun k_ => some k_ = (.slice Ao67 t165.length co67 : Value).ownBlock) (.slice Ao67 t165.length co67) t165 1 3 18 t168 w _ ?side1 ?side2 A52.out).mono ?_); (case side1 => repeat (first | (with_reducible first | exact HB.out | apply below_alloc | apply pw_below_drewN | apply below_drew1) | exact HB.out)); (case side2 => exact Kd.R_tight rfl HO167.out); rintro e w68 ⟨v169, rfl, ho0, hb, hkp⟩; refine ⟨_, rfl, ?_⟩; have n0_ := Aside0.mk (Kd.R_mono (ok' := fun k_ => True) ho0 (fun k_ hk_ => trivial)); have n1_ := Aside0.mk (hb); clear HB; clear HO167; have HO170 := n0_; have HB := n1_; clear n0_ n1_; (try clear hb); (try clear hkp); (try clear ho0); obtain ⟨Ao69, co69, eo69⟩ := Kd.R_slice HO170.out; subst eo69) | ((with_reducible refine gate_callee (f := 82) rfl ?_); refine goesL_ (some 56) rfl rfl Try.func82 (by kernel_rfl) rfl #[.slice Ao69 t168.length co69, .int .i64 0, .int .i64 0, .int .i64 6] rfl (by (try simp only [List.map_toArray, List.map_cons, List.map_nil]); first | done | rfl | (simp only [List.length_drop, List.length_take]; rfl)) ?_; (with_reducible refine (stilemanref25_add.calls k4 (fun k_ => some k_ = (.slice Ao69 t168.length co69 : Value).ownBlock) (.slice Ao69 t168.length co69) t168 0 0 6 t171 w _ ?side1 ?side2 A53.out).mono ?_); (case side1 => repeat (first | (with_reducible first | exact HB.out | apply below_alloc | apply pw_below_drewN | apply below_drew1) | exact HB.out)); (case side2 => exact Kd.R_tight rfl HO170.out); rintro e w70 ⟨v172, rfl, ho0, hb, hkp⟩; refine ⟨_, rfl, ?_⟩; have n0_ := Aside0.mk (Kd.R_mono (ok' := fun k_ => True) ho0 (fun k_ hk_ => trivial)); have n1_ := Aside0.mk (hb); clear HB; clear HO170; have HO173 := n0_; have HB := n1_; clear n0_ n1_; (try clear hb); (try clear hkp); (try clear ho0); obtain ⟨Ao71, co71, eo71⟩ := Kd.R_slice HO173.out; subst eo71) | ((with_reducible refine gate_callee (f := 82) rfl ?_); refine goesL_ (some 58) rfl rfl Try.func82 (by kernel_rfl) rfl #[.slice Ao71 t171.length co71, .int .i64 2, .int .i64 4, .int .i64 18] rfl (by (try simp only [List.map_toArray, List.map_cons, List.map_nil]); first | done | rfl | (simp only [List.length_drop, List.length_take]; rfl)) ?_; (with_reducible refine (stilemanref25_add.calls k4 (fun k_ => some k_ = (.slice Ao71 t171.length co71 : Value).ownBlock) (.slice Ao71 t171.length co71) t171 2 4 18 t174 w _ ?side1 ?side2 A54.out).mono ?_); (case side1 => repeat (first | (with_reducible first | exact HB.out | apply below_alloc | apply pw_below_drewN | apply below_drew1) | exact HB.out)); (case side2 => exact Kd.R_tight rfl HO173.out); rintro e w72 ⟨v175, rfl, ho0, hb, hkp⟩; refine ⟨_, rfl, ?_⟩; have n0_ := Aside0.mk (Kd.R_mono (ok' := fun k_ => True) ho0 (fun k_ hk_ => trivial)); have n1_ := Aside0.mk (hb); clear HB; clear HO173; have HO176 := n0_; have HB := n1_; clear n0_ n1_; (try clear hb); (try clear hkp); (try clear ho0); obtain ⟨Ao73, co73, eo73⟩ := Kd.R_slice HO176.out; subst eo73) | ((with_reducible refine gate_callee (f := 82) rfl ?_); refine goesL_ (some 59) rfl rfl Try.func82 (by kernel_rfl) rfl #[.slice Ao73 t174.length co73, .int .i64 1, .int .i64 0, .int .i64 18] rfl (by (try simp only [List.map_toArray, List.map_cons, List.map_nil]); first | done | rfl | (simp only [List.length_drop, List.length_take]; rfl)) ?_; (with_reducible refine (stilemanref25_add.calls k4 (fun k_ => some k_ = (.slice Ao73 t174.length co73 : Value).ownBlock) (.slice Ao73 t174.length co73) t174 1 0 18 t177 w _ ?side1 ?side2 A55.out).mono ?_); (case side1 => repeat (first | (with_reducible first | exact HB.out | apply below_alloc | apply pw_below_drewN | apply below_drew1) | exact HB.out)); (case side2 => exact Kd.R_tight rfl HO176.out); rintro e w74 ⟨v178, rfl, ho0, hb, hkp⟩; refine ⟨_, rfl, ?_⟩; have n0_ := Aside0.mk (Kd.R_mono (ok' := fun k_ => True) ho0 (fun k_ hk_ => trivial)); have n1_ := Aside0.mk (hb); clear HB; clear HO176; have HO179 := n0_; have HB := n1_; clear n0_ n1_; (try clear hb); (try clear hkp); (try clear ho0); obtain ⟨Ao75, co75, eo75⟩ := Kd.R_slice HO179.out; subst eo75) | ((with_reducible refine gate_callee (f := 82) rfl ?_); refine goesL_ (some 60) rfl rfl Try.func82 (by kernel_rfl) rfl #[.slice Ao75 t177.length co75, .int .i64 0, .int .i64 0, .int .i64 6] rfl (by (try simp only [List.map_toArray, List.map_cons, List.map_nil]); first | done | rfl | (simp only [List.length_drop, List.length_take]; rfl)) ?_; (with_reducible refine (stilemanref25_add.calls k4 (fun k_ => some k_ = (.slice Ao75 t177.length co75 : Value).ownBlock) (.slice Ao75 t177.length co75) t177 0 0 6 t180 w _ ?side1 ?side2 A56.out).mono ?_); (case side1 => repeat (first | (with_reducible first | exact HB.out | apply below_alloc | apply pw_below_drewN | apply below_drew1) | exact HB.out)); (case side2 => exact Kd.R_tight rfl HO179.out); rintro e w76 ⟨v181, rfl, ho0, hb, hkp⟩; refine ⟨_, rfl, ?_⟩; have n0_ := Aside0.mk (Kd.R_mono (ok' := fun k_ => True) ho0 (fun k_ hk_ => trivial)); have n1_ := Aside0.mk (hb); clear HB; clear HO179; have HO182 := n0_; have HB := n1_; clear n0_ n1_; (try clear hb); (try clear hkp); (try clear ho0)))
                          go_roundg k4
                          case measure => have := HJ2.out; have := HJ5.out; have := HJ8.out; have := HK4.out; omega
                          case rel => exact ⟨(t180), (wrap64 (x7_4 + 1)), (by first | rfl | (simp; done) | (simp [*]; done)), H', ⟨by have := HJ2.out; have := HJ5.out; have := HJ8.out; have := HK4.out; omega⟩, ⟨by (with_reducible repeat (first | apply Kd.R_alloc | apply Kd.R_drewN | apply Kd.R_drew)); exact HO182.out⟩, ⟨by repeat (first | (with_reducible first | exact HB.out | apply below_alloc | apply pw_below_drewN | apply below_drew1) | exact HB.out)⟩⟩
                      · rw [if_neg c21] at H
                        have c21b0 : decide (x7_4 < a1) = false := decide_eq_false c21
                        clear c21
                        simp only [Option.some.injEq, Prod.mk.injEq] at H
                        obtain ⟨rfl, rfl⟩ := H
                        go_wp2
                        go_ret2
                        exact ⟨_, by first | rfl | (simp [errW_none, errW_some] <;> rfl) | (simp [*, errW_none, errW_some] <;> rfl), by (with_reducible repeat (first | apply Kd.R_alloc | apply Kd.R_drewN | apply Kd.R_drew)); exact HO_6.out, by repeat (first | (with_reducible first | exact HB.out | apply below_alloc | apply pw_below_drewN | apply below_drew1) | exact HB.out)⟩

/-! ### stilemanref19_Same: function 59 -/
def stilemanref19_Same.l0 : Nat → List (S122) → List (S122) → Int → Option (Bool)
  | 0, _, _, _ => none
  | k + 1, x0, x1, x5 => if x5 < (x0.length : Int) then (if 0 ≤ x5 then (if x5 < (x1.length : Int) then (if (!(((rd_T122 x0 x5).f0) == ((rd_T122 x1 x5).f0)) || (!(((rd_T122 x0 x5).f1) == ((rd_T122 x1 x5).f1)))) = true then (some false) else (stilemanref19_Same.l0 k x0 x1 (wrap64 (x5 + 1)))) else (none)) else (none)) else (some true)
def stilemanref19_Same.f (k : Nat) (l0 : List (S122)) (l1 : List (S122)) : Option (Bool) := if (l0.length : Int) = (l1.length : Int) then (stilemanref19_Same.l0 k l0 l1 0) else (some false)
theorem stilemanref19_Same.mono_l : ∀ k, (∀ y0 y1 y2, LeO (stilemanref19_Same.l0 k y0 y1 y2) (stilemanref19_Same.l0 (k + 1) y0 y1 y2))
  | 0 => fun _ _ _ r h => by simp [stilemanref19_Same.l0] at h
  | k + 1 => by
    have ih0 := stilemanref19_Same.mono_l k
    · intro y0 y1 y2
      unfold stilemanref19_Same.l0
      repeat' first
      | (with_reducible exact ih0 _ _ _)
      | (with_reducible exact LeO.refl _)
      | (with_reducible exact LeO.none _)
      | (with_reducible refine LeO.ite ?_ ?_)
      | (with_reducible refine LeO.bind ?_ (fun _ => ?_))
      | exact ih0 _ _ _
      | exact LeO.none _
      | refine LeO.ite ?_ ?_
      | refine LeO.bind ?_ (fun _ => ?_)
theorem stilemanref19_Same.mono : ∀ a0 a1 k, LeO (stilemanref19_Same.f k a0 a1) (stilemanref19_Same.f (k + 1) a0 a1) := by
  intro a0 a1 k
  have ih0 := stilemanref19_Same.mono_l k
  unfold stilemanref19_Same.f
  repeat' first
      | (with_reducible exact ih0 _ _ _)
      | (with_reducible exact LeO.refl _)
      | (with_reducible exact LeO.none _)
      | (with_reducible refine LeO.ite ?_ ?_)
      | (with_reducible refine LeO.bind ?_ (fun _ => ?_))
      | exact ih0 _ _ _
      | exact LeO.none _
      | refine LeO.ite ?_ ?_
      | refine LeO.bind ?_ (fun _ => ?_)
set_option maxHeartbeats 8000000 in
set_option maxRecDepth 100000 in
theorem stilemanref19_Same.calls (k : Nat) (A0 : Option Addr) (c0 : Nat) (l0 : List (S122)) (A1 : Option Addr) (c1 : Nat) (l1 : List (S122)) (r : Bool) (w : World) (hr0 : Kd.C k122 w A0 l0.length l0) (hc0 : l0.length ≤ c0) (hr1 : Kd.C k122 w A1 l1.length l1) (hc1 : l1.length ≤ c1) (h : stilemanref19_Same.f k l0 l1 = some r) :
    Calls Try.prog 59 #[.slice A0 l0.length c0, .slice A1 l1.length c1] w fun e w' => e = .returned (.bool r) ∧ Drawn0 w w' := by
  have hu122 := Try.underlying122
  have HR0 := Aside0.mk hr0
  have HC0 := Aside0.mk hc0
  clear hr0 hc0
  have HR1 := Aside0.mk hr1
  have HC1 := Aside0.mk hc1
  clear hr1 hc1
  have H : (if (l0.length : Int) = (l1.length : Int) then (stilemanref19_Same.l0 k l0 l1 0) else (some false)) = some r := h
  clear h
  by_cases c3 : (l0.length : Int) = (l1.length : Int)
  · rw [if_pos c3] at H
    have c3b0 : ((l0.length : Int) == (l1.length : Int)) = true := beq_iff_eq.mpr c3
    have c3b1 : ((l0.length : Int) != (l1.length : Int)) = false := bne_eq_false_iff_eq.mpr c3
    have c3b2 : (l0.length == l1.length) = true := by first | simpa using c3 | (simp at c3 ⊢; omega)
    clear c3
    have H' := Aside0.mk H
    clear H
    go_enter Try.func59, Try.ntmps59
    go_wp2
    repeat (go_quiet (fail); try go_wp2)
    go_loopg [5] k (fun kq v5 w' => ∃ (x5_1 : Int), v5 = .int .i64 x5_1 ∧ Aside0 (stilemanref19_Same.l0 kq l0 l1 x5_1 = some r) ∧ Aside0 (kq ≤ k) ∧ Drawn0 w w')
    case atStart => exact ⟨(0), (by first | rfl | (simp; done) | (simp [*]; done)), H', ⟨Nat.le_refl _⟩, by repeat (first | exact Drawn0.refl _ | apply Drawn0.step)⟩
    case round =>
      clear H'
      try clear c1
      try clear p2
      try clear c3
      try clear c3b0
      try clear c3b1
      try clear c3b2
      obtain ⟨x5_1, rfl, HA, HK1, ⟨m1, rfl⟩⟩ := hrel
      cases gk with
      | zero => exact absurd HA.out (by simp [stilemanref19_Same.l0])
      | succ k1 =>
        have H := HA.out
        clear HA
        simp only [stilemanref19_Same.l0] at H
        by_cases c4 : x5_1 < (l0.length : Int)
        · rw [if_pos c4] at H
          have c4b0 : decide (x5_1 < (l0.length : Int)) = true := decide_eq_true c4
          clear c4
          by_cases c5 : 0 ≤ x5_1
          · rw [if_pos c5] at H
            have c5b0 : decide (0 ≤ x5_1) = true := decide_eq_true c5
            clear c5
            by_cases c6 : x5_1 < (l1.length : Int)
            · rw [if_pos c6] at H
              have c6b0 : decide (x5_1 < (l1.length : Int)) = true := decide_eq_true c6
              clear c6
              by_cases c7 : (!(((rd_T122 l0 x5_1).f0) == ((rd_T122 l1 x5_1).f0)) || (!(((rd_T122 l0 x5_1).f1) == ((rd_T122 l1 x5_1).f1)))) = true
              · rw [if_pos c7] at H
                have c7b0 : (!(((rd_T122 l0 x5_1).f0) == ((rd_T122 l1 x5_1).f0)) || (!(((rd_T122 l0 x5_1).f1) == ((rd_T122 l1 x5_1).f1)))) = true := c7
                clear c7
                obtain rfl := Option.some.inj H
                have p183 : 0 ≤ (x5_1 : Int) := of_decide_eq_true (by first | (with_reducible assumption) | assumption)
                have q183 : x5_1 < (l0.length : Int) := of_decide_eq_true (by first | (with_reducible assumption) | assumption)
                obtain ⟨ad183, e183, hx183_0, hx183_1⟩ := at_T122 HR0.out x5_1 p183 q183
                cases e183
                replace p183 := eq_true p183
                replace q183 := eq_true q183
                have p184 : 0 ≤ (x5_1 : Int) := of_decide_eq_true (by first | (with_reducible assumption) | assumption)
                have q184 : x5_1 < (l1.length : Int) := of_decide_eq_true (by first | (with_reducible assumption) | assumption)
                obtain ⟨ad184, e184, hx184_0, hx184_1⟩ := at_T122 HR1.out x5_1 p184 q184
                cases e184
                replace p184 := eq_true p184
                replace q184 := eq_true q184
                go_wp2
                repeat (go_quiet (fail); try go_wp2)
                go_ret
                exact ⟨by first | rfl | (simp; done) | (simp [*]; done), by repeat (first | exact Drawn0.refl _ | apply Drawn0.step)⟩
              · rw [if_neg c7] at H
                have c7b0 : (!(((rd_T122 l0 x5_1).f0) == ((rd_T122 l1 x5_1).f0)) || (!(((rd_T122 l0 x5_1).f1) == ((rd_T122 l1 x5_1).f1)))) = false := by simpa using c7
                clear c7
                have H' := Aside0.mk H
                clear H
                have p183 : 0 ≤ (x5_1 : Int) := of_decide_eq_true (by first | (with_reducible assumption) | assumption)
                have q183 : x5_1 < (l0.length : Int) := of_decide_eq_true (by first | (with_reducible assumption) | assumption)
                obtain ⟨ad183, e183, hx183_0, hx183_1⟩ := at_T122 HR0.out x5_1 p183 q183
                cases e183
                replace p183 := eq_true p183
                replace q183 := eq_true q183
                have p184 : 0 ≤ (x5_1 : Int) := of_decide_eq_true (by first | (with_reducible assumption) | assumption)
                have q184 : x5_1 < (l1.length : Int) := of_decide_eq_true (by first | (with_reducible assumption) | assumption)
                obtain ⟨ad184, e184, hx184_0, hx184_1⟩ := at_T122 HR1.out x5_1 p184 q184
                cases e184
                replace p184 := eq_true p184
                replace q184 := eq_true q184
                go_wp2
                repeat (go_quiet (fail); try go_wp2)
                go_roundg k1
                case measure => have := HK1.out; omega
                case rel => exact ⟨(wrap64 (x5_1 + 1)), (by first | rfl | (simp; done) | (simp [*]; done)), H', ⟨by have := HK1.out; omega⟩, by repeat (first | exact Drawn0.refl _ | apply Drawn0.step)⟩
            · rw [if_neg c6] at H
              exact absurd H (by simp)
          · rw [if_neg c5] at H
            exact absurd H (by simp)
        · rw [if_neg c4] at H
          have c4b0 : decide (x5_1 < (l0.length : Int)) = false := decide_eq_false c4
          clear c4
          obtain rfl := Option.some.inj H
          go_wp2
          repeat (go_quiet (fail); try go_wp2)
          go_ret
          exact ⟨by first | rfl | (simp; done) | (simp [*]; done), by repeat (first | exact Drawn0.refl _ | apply Drawn0.step)⟩
  · rw [if_neg c3] at H
    have c3b0 : ((l0.length : Int) == (l1.length : Int)) = false := beq_eq_false_iff_ne.mpr c3
    have c3b1 : ((l0.length : Int) != (l1.length : Int)) = true := bne_iff_ne.mpr c3
    have c3b2 : (l0.length == l1.length) = false := by first | simpa using c3 | (simp at c3 ⊢; omega)
    obtain rfl := Option.some.inj H
    go_enter Try.func59, Try.ntmps59
    go_wp2
    repeat (go_quiet (fail); try go_wp2)
    go_ret
    exact ⟨by first | rfl | (simp; done) | (simp [*]; done), by repeat (first | exact Drawn0.refl _ | apply Drawn0.step)⟩

-- NOT PRINTED: function 60 (stilemanlaw25_awake)

-- NOT PRINTED: function 13 (stilemanlaw25_StarveScripts)

end Go.Proofs.Ytgbofijdjgpgeaa.PStarveScripts
