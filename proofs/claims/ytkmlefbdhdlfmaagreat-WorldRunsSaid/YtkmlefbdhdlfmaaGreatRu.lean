/- The law WorldRuns: a nil world, equal notes, the walk. -/
import Derived.Test.YtkmlefbdhdlfmaaGreatLw
namespace Go.Proofs.YtkmlefbdhdlfmaaGreat.Wo
open Go.RowKit Go.Proofs.YtkmlefbdhdlfmaaGreatW.PrintWords Go.Proofs.YtkmlefbdhdlfmaaGreatW.PrintMore Go.Proofs.YtkmlefbdhdlfmaaGreatW.PrintLast
open Stile
set_option linter.unusedSimpArgs false
set_option linter.unusedVariables false
set_option maxRecDepth 100000
variable {w w1 w2 w0 V V1 : World} {a pm g t kf n b B p cap gc gt : Nat} {W : Stile.W} {ok : Nat → Prop}
theorem pick_nil (i op : Int) (w : World) : Calls Tryz.prog 17 #[.pointer none, .agg #[.int .i64 i, .int .i64 op]] w fun e w' => e = .returned (.agg #[.bool false, .int .i64 0, .int .i64 0, .int .u32 0, .int .u32 0, .int .u32 0, .slice none 0 0]) ∧ Below w.heap.size w w' := by
  obtain ⟨b, hb⟩ : ∃ b, b = (w.alloc (.cells #[.int .i64 i, .int .i64 op] 30)).heap.size := ⟨_, rfl⟩
  obtain ⟨pb, hpb⟩ : ∃ pb, pb = w.heap.size := ⟨_, rfl⟩
  obtain ⟨V0, hV0⟩ : ∃ V0, V0 = (w.alloc (.cells #[.int .i64 i, .int .i64 op] 30)).alloc (.cells #[.bool false, .int .i64 0, .int .i64 0, .int .u32 0, .int .u32 0, .int .u32 0, .slice none 0 0] 41) := ⟨_, rfl⟩
  have hp0 : V0.heap[pb]? = some (.cells #[.int .i64 i, .int .i64 op] 30) := by rw [hV0, hpb]; exact blk_alloc (heap_alloc_new _ _) _
  have he0 : V0.heap[b]? = some (.cells #[.bool false, .int .i64 0, .int .i64 0, .int .u32 0, .int .u32 0, .int .u32 0, .slice none 0 0] 41 (0, 0)) := by rw [hV0, hb]; exact heap_alloc_new _ _
  have hB0 : Below w.heap.size w V0 := by rw [hV0]; exact below_alloc (below_alloc (Below.refl _ w) _) _
  have hbs : w.heap.size ≤ b := by rw [hb]; simp
  have q0 := cell_of_heap (j := 0) hp0 rfl
  have q1 := cell_of_heap (j := 1) hp0 rfl
  replace hp0 := Lib.hid hp0
  replace he0 := Lib.hid he0
  replace hB0 := Lib.hid hB0
  go_enter Tryz.func17, Tryz.ntmps17
  go_upto_region 1 with (fail)
  have hbe : w.heap.size + 1 = b := by rw [hb]; simp
  try rw [hbe]
  rw [← hV0]
  try rw [← hpb]
  replace hb := Lib.hid hb
  replace hbe := Lib.hid hbe
  replace hpb := Lib.hid hpb
  replace hV0 := Lib.hid hV0
  replace hbs := Lib.hid hbs
  go_wp2_with (first
    | (go_at_call 45; go_must (refine (task_nil i _).mono ?_; rintro e w1 ⟨rfl, rfl⟩))
    | ((with_reducible refine gate_store rfl ?_); refine wp_store rfl rfl rfl rfl rfl (run_store_run 41 (.agg #[.bool false, .int .i64 0, .int .i64 0, .int .u32 0, .int .u32 0, .int .u32 0, .slice none 0 0]) [.bool false, .int .i64 0, .int .i64 0, .int .u32 0, .int .u32 0, .int .u32 0, .slice none 0 0] (o := 0) he0.out rfl (by kernel_rfl) (Nat.le_refl _) (by simp [Value.oneCell'])) ?_))
  (try simp only [Exit.inBlock, Exit.then])
  refine bodyPost_ret (results_single rfl (.cell b 41 #[.bool false, .int .i64 0, .int .i64 0, .int .u32 0, .int .u32 0, .int .u32 0, .slice none 0 0] (0, 0) _ rfl (blk_setAll he0.out _ rfl) Tryz.underlying41 rfl (by kernel_rfl) .nil)) rfl ?_
  exact ⟨rfl, below_setCells hB0.out b 0 hbs.out _⟩
theorem state_nil (w : World) : Calls Tryz.prog 16 #[.pointer none] w fun e w' => e = .returned (.agg #[.int .i64 0, .int .i64 0, .int .i64 0, .slice none 0 0, .slice none 0 0]) ∧ Below w.heap.size w w' := by
  obtain ⟨b, hb⟩ : ∃ b, b = w.heap.size := ⟨_, rfl⟩
  obtain ⟨V0, hV0⟩ : ∃ V0, V0 = w.alloc (.cells #[.int .i64 0, .int .i64 0, .int .i64 0, .slice none 0 0, .slice none 0 0] 35) := ⟨_, rfl⟩
  have he0 : V0.heap[b]? = some (.cells #[.int .i64 0, .int .i64 0, .int .i64 0, .slice none 0 0, .slice none 0 0] 35 (0, 0)) := by rw [hV0, hb]; exact heap_alloc_new _ _
  have hB0 : Below w.heap.size w V0 := by rw [hV0]; exact below_alloc (Below.refl _ w) _
  have hbs : w.heap.size ≤ b := by rw [hb]; exact Nat.le_refl _
  replace he0 := Lib.hid he0
  replace hB0 := Lib.hid hB0
  go_enter Tryz.func16, Tryz.ntmps16
  go_upto_region 1 with (fail)
  rw [← hV0, ← hb]
  replace hb := Lib.hid hb
  replace hV0 := Lib.hid hV0
  replace hbs := Lib.hid hbs
  go_wp2_with ((with_reducible refine gate_store rfl ?_); refine wp_store rfl rfl rfl rfl rfl (run_store_run 35 (.agg #[.int .i64 0, .int .i64 0, .int .i64 0, .slice none 0 0, .slice none 0 0]) [.int .i64 0, .int .i64 0, .int .i64 0, .slice none 0 0, .slice none 0 0] (o := 0) he0.out rfl (by kernel_rfl) (Nat.le_refl _) (by simp [Value.oneCell'])) ?_)
  (try simp only [Exit.inBlock, Exit.then])
  refine bodyPost_ret (results_single rfl (.cell b 35 #[.int .i64 0, .int .i64 0, .int .i64 0, .slice none 0 0, .slice none 0 0] (0, 0) _ rfl (blk_setAll he0.out _ rfl) Tryz.underlying35 rfl (by kernel_rfl) .nil)) rfl ?_
  exact ⟨rfl, below_setCells hB0.out b 0 hbs.out _⟩
theorem field_ran (b : Bool) (k c x y o : Int) (nv : Value) (w : World) : (Instr.field 41 (.agg #[.bool b, .int .i64 k, .int .i64 c, .int .u32 x, .int .u32 y, .int .u32 o, nv]) 0).run Tryz.prog w = .ok (.bool b) w := by
  unfold Instr.field
  simp [run_underlying Tryz.underlying41, asAgg, part]
theorem field_cells0 (w : World) : (Instr.field 35 (.agg #[.int .i64 0, .int .i64 0, .int .i64 0, .slice none 0 0, .slice none 0 0]) 3).run Tryz.prog w = .ok (.slice none 0 0) w := by
  unfold Instr.field
  simp [run_underlying Tryz.underlying35, asAgg, part]
theorem wp_valueG {P : Program} {oi : Oper} {a : Act} {ops : Array Oper} {rest : List Oper} {Q : Exit → Act → World → Prop} {v : Value} (N : Option Tmp) (hN : oi.dst = N) (hw : Region.wanted oi (yielded ops a.tmps) = true) (hrun : (execOp a.eval oi).run P w = .ok (.value v) w1)
    (h : wpList P ops Q rest (a.put N v) w1) : wpList P ops Q (oi :: rest) a w := by
  subst hN
  simp only [wpList, hw, if_true]
  refine Or.inl ?_
  unfold Oper.wp
  rw [hrun]
  exact h
theorem nk_Cnil (w : World) : nk.C w none 0 [] := ⟨rfl, by omega, fun hn => absurd hn (Nat.lt_irrefl 0)⟩
set_option maxHeartbeats 4000000 in
theorem run_nil (A : Option Addr) (c m : Nat) (l : List (Int × Int)) (hC : pk.C w A m l) : Calls Tryz.prog 23 #[.pointer none, .slice A m c] w fun e w' => ∃ An cn, e = .returned (.slice An 0 cn) ∧ Below w.heap.size w w' := by
  have hmax := Kd.C_max hC
  replace hC := Lib.hid hC
  go_enter Tryz.func23, Tryz.ntmps23
  go_wp2
  go_loopw [10, 5] (fun i v wr => ∃ k : Nat, k ≤ m ∧ i = .int .i64 k ∧ Hid (nk.R 44 wr w.heap.size (fun _ => True) v []) ∧ Hid (Below w.heap.size w wr)) (fun i _ _ => m - (intOf i).toNat)
  case atStart => exact ⟨0, Nat.zero_le _, rfl, Lib.hid (Kd.R_nil _ _ _ _ _), Lib.hid (Below.refl _ _)⟩
  case round =>
    obtain ⟨k, hk, rfl, hR, hB⟩ := hrel
    by_cases hkm : k < m
    · obtain ⟨ad, x, rfl, hx, d0, d1⟩ := at_pk (Kd.C_below hC.out hB.out) k hkm
      obtain ⟨x0, x1⟩ := x
      replace hx := Lib.hid hx
      go_upto_region 5 with (fail)
      have hz1 : Below wr.heap.size wr (wr.alloc (.cells #[.int .i64 x0, .int .i64 x1] 30)) := below_alloc (Below.refl _ wr) _
      have hx1 := heap_alloc_new wr (.cells #[.int .i64 x0, .int .i64 x1] 30)
      have e0 := cell_of_heap (j := 0) hx1 rfl
      have e1 := cell_of_heap (j := 1) hx1 rfl
      have hB1 := Lib.hid (below_then hB.out hB.out.size hz1)
      have hR1 := Lib.hid (Kd.R_below hR.out hz1)
      replace hx1 := Lib.hid hx1
      clear hz1 d0 d1 hR hB
      generalize (wr.alloc (.cells #[.int .i64 x0, .int .i64 x1] 30)) = W1 at hx1 e0 e1 hB1 hR1 ⊢
      generalize wr.heap.size = bx at hx1 e0 e1 ⊢
      go_wp2_with (first
        | (go_at_call 17; go_must (refine (pick_nil x0 x1 _).mono ?_; rintro e w2 ⟨rfl, hB2⟩; have hR2 := Lib.hid (Kd.R_below hR1.out hB2); have hB3 := Lib.hid (below_then hB1.out hB1.out.size hB2); clear hB2 hR1 hB1 e0 e1))
        | ((with_reducible refine gate_ (.field 41 (.tmp 17) 2) rfl ?_); go_must (refine wp_value (v := .slice none 0 0) (some 18) rfl rfl (field_exec rfl rfl (field_notes _ _ _ _ _ _ _ _ rfl)) ?_))
        | ((with_reducible refine gate_builtin (b := .append) (xs := #[.tmp 14, .tmp 18]) rfl ?_); at_builtin; go_must (
            refine Kd.R_append_rows nk (w0 := w) (W := w2) w.heap.size rfl (.tmp 14) (.tmp 18) 39 44 (.agg #[.int .i64 0, .int .i64 0, .int .i64 0, .int .i64 0]) 32 rfl Tryz.underlying39 info_note rfl (by decide) (by decide) u5 [] [] none 0 0 (fun _ => True) (fun _ => False) rfl rfl hR2.out (nk_Cnil _) (fun x cs h => by rw [nk_K h]; exact nk_M x) (fun _ hk => hk.elim) (fun q hq => trivial) hB3.out hB3.out.size (by simp) ?_;
            intro v3 w3 hR3 hb3 _ _;
            (have hB4 := Lib.hid hb3);
            replace hR3 := Lib.hid hR3))
        )
      go_roundw
      case rel => exact ⟨k + 1, by omega, by go_num, hR3, hB4⟩
      case measure => simp [intOf]; omega
    · obtain rfl : m = k := by omega
      obtain ⟨An, cn, rfl⟩ := Kd.R_slice hR.out
      replace hB := Lib.hid hB.out
      go_wp2
      go_ret
      exact ⟨_, _, rfl, hB.out⟩
set_option maxHeartbeats 2000000 in
theorem notes_same {A0 A1 : Option Addr} {n : Nat} (c0 c1 : Nat) {xs : List Note} (h0 : nk.C w A0 n xs) (h1 : nk.C w A1 n xs) : Calls Tryz.prog 24 #[.slice A0 n c0, .slice A1 n c1] w fun e w' => e = .returned (.bool true) ∧ Below w.heap.size w w' := by
  have hmax := Kd.C_max h0
  replace h0 := Lib.hid h0
  replace h1 := Lib.hid h1
  go_enter Tryz.func24, Tryz.ntmps24
  go_wp2
  go_loopw [5] (fun i wr => ∃ k : Nat, k ≤ n ∧ i = .int .i64 k ∧ Hid (Below w.heap.size w wr)) (fun i _ => n - (intOf i).toNat)
  case atStart => exact ⟨0, Nat.zero_le _, rfl, Lib.hid (Below.refl _ _)⟩
  case round =>
    obtain ⟨k, hk, rfl, hB⟩ := hrel
    by_cases hkn : k < n
    · obtain ⟨ad, rfl, s0, s1, s2, s3⟩ := at_nk (Kd.C_below h0.out hB.out) k hkn
      obtain ⟨ad1, rfl, t0, t1, t2, t3⟩ := at_nk (Kd.C_below h1.out hB.out) k hkn
      generalize xs.getD k ⟨0, 0, 0, 0⟩ = x at s0 s1 s2 s3 t0 t1 t2 t3
      go_upto_region 6 with (fail)
      go_quiet (fail)
      go_wp2
      go_roundw
      case rel => exact ⟨k + 1, by omega, by go_num, Lib.hid (pw_below_drewN hB.out nq)⟩
      case measure => simp [intOf]; omega
    · obtain rfl : n = k := by omega
      go_wp2
      go_ret
      exact ⟨rfl, hB.out⟩
theorem new_err (kind mode n base : Int) (h : ¬ ((1 ≤ kind ∧ kind ≤ 6) ∧ (mode = 1 ∨ mode = 2) ∧ (1 ≤ n ∧ n ≤ 64))) : ∃ x : Int, (x != 0) = true ∧ ∀ w : World, Calls Tryz.prog 13 #[.int .i64 kind, .int .i64 mode, .int .i64 n, .int .u32 base] w fun e w' => e = .returned (.tuple #[.pointer none, .int .i64 x]) ∧ Below w.heap.size w w' := by
  by_cases hk : 1 ≤ kind ∧ kind ≤ 6
  · by_cases hm : mode = 1 ∨ mode = 2
    · have hn : ¬ (1 ≤ n ∧ n ≤ 64) := fun q => h ⟨hk, hm, q⟩
      exact ⟨2, by decide, fun w => (new_badn kind mode n base hk hm hn w).mono fun e w' q => ⟨q.1, q.2⟩⟩
    · exact ⟨1, by decide, fun w => (new_badmode kind mode n base hk hm w).mono fun e w' q => ⟨q.1, q.2 ▸ Below.refl _ _⟩⟩
  · exact ⟨3, by decide, fun w => (new_badkind kind mode n base hk w).mono fun e w' q => ⟨q.1, q.2 ▸ Below.refl _ _⟩⟩

end Go.Proofs.YtkmlefbdhdlfmaaGreat.Wo
