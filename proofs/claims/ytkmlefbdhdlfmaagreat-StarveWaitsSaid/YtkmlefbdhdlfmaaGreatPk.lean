/- A pick: against the plain text. -/
import Derived.Test.YtkmlefbdhdlfmaaGreatBg
namespace Go.Proofs.YtkmlefbdhdlfmaaGreat.Wo
open Go.RowKit Go.Proofs.YtkmlefbdhdlfmaaGreatW.PrintWords Go.Proofs.YtkmlefbdhdlfmaaGreatW.PrintMore Go.Proofs.YtkmlefbdhdlfmaaGreatW.PrintLast
open Stile
set_option linter.unusedSimpArgs false
set_option linter.unusedVariables false
set_option maxRecDepth 100000
variable {w w1 w2 w0 V V1 : World} {a pm g t kf n b B p : Nat} {W W2 : Stile.W} {ev : Array Value}
theorem e160 {P : Prop} (h : P := by
 replace h := Lib.hid h
 go_enter Tryz.func83, Tryz.ntmps83
 go_wp2
 go_ret
 exact ⟨rfl, rfl⟩) : P := h
theorem e161 {P : Prop} (h : P := by
 have L3 := L0.out.put [.bool false, .int .i64 0, .int .i64 0, .int .u32 0, .int .u32 0, .int .u32 0, .slice none 0 0] rfl
 (try simp only [Exit.inBlock, Exit.then])
 refine bodyPost_ret (results_single rfl (.cell b 41 #[.bool false, .int .i64 0, .int .i64 0, .int .u32 0, .int .u32 0, .int .u32 0, .slice none 0 0] (0, 0) _ rfl L3.ev Tryz.underlying41 rfl (by kernel_rfl) .nil)) rfl ?_
 exact ⟨rfl, L3.wd, L3.bt⟩) : P := h
theorem e162 {P : Prop} (h : P := by
 have L3 := L0.out.put [.bool rn, .int .i64 a0, .int .i64 a1, .int .u32 a2, .int .u32 a3, .int .u32 a4, .slice A4 ns.length c4] rfl
 have hR3 := R_cellsFar hR4.out L0.out.ev (by decide) 0 [.bool rn, .int .i64 a0, .int .i64 a1, .int .u32 a2, .int .u32 a3, .int .u32 a4, .slice A4 ns.length c4]
 (try simp only [Exit.inBlock, Exit.then])
 refine bodyPost_ret (results_single rfl (.cell b 41 #[.bool rn, .int .i64 a0, .int .i64 a1, .int .u32 a2, .int .u32 a3, .int .u32 a4, .slice A4 ns.length c4] (0, 0) _ rfl L3.ev Tryz.underlying41 rfl (by kernel_rfl) .nil)) rfl ?_
 refine ⟨_, rfl, ?_, L3.wd, L3.bt⟩
 first | exact hR3 | (rw [← hpb.out] at hR3; exact hR3) | (rw [hpb.out]; exact hR3)) : P := h
theorem ops_walk (w : World) : Calls Tryz.prog 84 #[] w fun e w' => e = .returned (.slice (some ⟨w.heap.size, 0, none⟩) 9 9) ∧ Below w.heap.size w w' ∧ ∃ cs : Array Value, w'.heap[w.heap.size]? = some (.cells cs 9 (0, 0)) ∧ ∀ k : Nat, k < 9 → ∃ s : ByteArray, cs[k]? = some (.string s) ∧ (s == (⟨#[]⟩ : ByteArray)) = decide (k = 0) := by
 go_enter Tryz.func84, Tryz.ntmps84
 go_wp2
 go_ret
 refine ⟨rfl, below_alloc (Below.refl _ _) _, _, heap_alloc_new w _, fun k hk => ?_⟩
 have : k = 0 ∨ k = 1 ∨ k = 2 ∨ k = 3 ∨ k = 4 ∨ k = 5 ∨ k = 6 ∨ k = 7 ∨ k = 8 := by omega
 rcases this with rfl | rfl | rfl | rfl | rfl | rfl | rfl | rfl | rfl <;> exact ⟨_, rfl, by decide⟩
theorem at_out (b : Nat) (n : Int) (hn : n < 0 ∨ 9 ≤ n) (w : World) : Calls Tryz.prog 83 #[.slice (some ⟨b, 0, none⟩) 9 9, .int .i64 n] w fun e w' => e = .returned (.string ⟨#[]⟩) ∧ w' = w := by
 rcases hn with h | h
 ·have h0 : decide (n < 0) = true := decide_eq_true h
  exact e160
 ·have h0 : decide (n < 0) = false := decide_eq_false (by omega)
  have h1 : decide (n ≥ 9) = true := decide_eq_true h
  exact e160
theorem at_in (b k : Nat) (hk : k < 9) (s : ByteArray) (w : World) (hc : w.cell? ⟨b, k, none⟩ = some (.string s)) : Calls Tryz.prog 83 #[.slice (some ⟨b, 0, none⟩) 9 9, .int .i64 k] w fun e w' => e = .returned (.string s) ∧ w' = w := by
 have h0 : decide ((k : Int) < 0) = false := decide_eq_false (by omega)
 have h1 : decide ((k : Int) ≥ 9) = false := decide_eq_false (by omega)
 have h2 : (k : Int) < 9 := by omega
 replace hk := Lib.hid hk
 go_enter Tryz.func83, Tryz.ntmps83
 go_wp2
 go_ret
 exact ⟨rfl, rfl⟩
theorem nop_walk (op : Int) (w : World) : Calls Tryz.prog 46 #[.int .i64 op] w fun e w' => ∃ s : ByteArray, e = .returned (.string s) ∧ Below w.heap.size w w' ∧ (s == (⟨#[]⟩ : ByteArray)) = decide (¬ (1 ≤ op ∧ op ≤ 8)) := by
 by_cases hr : op < 0 ∨ 9 ≤ op
 ·rw [decide_eq_true (show ¬ (1 ≤ op ∧ op ≤ 8) by omega)]
  replace hr := Lib.hid hr
  go_enter Tryz.func46, Tryz.ntmps46
  go_wp2_with (first
   | (go_at_call 84; refine (ops_walk _).mono ?_; rintro e w1 ⟨rfl, hB, _⟩; replace hB := Lib.hid hB)
   | (go_at_call 83; refine (at_out _ op hr.out _).mono ?_; rintro e w2 ⟨rfl, rfl⟩))
  go_ret
  exact ⟨_, rfl, hB.out, by decide⟩
 ·obtain ⟨k, rfl⟩ := Int.eq_ofNat_of_zero_le (by omega : 0 ≤ op)
  have hk : k < 9 := by omega
  have hd : decide (¬ (1 ≤ (k : Int) ∧ (k : Int) ≤ 8)) = decide (k = 0) := by
   by_cases e : k = 0
   ·subst e; decide
   ·rw [decide_eq_false e, decide_eq_false (fun q => q ⟨by omega, by omega⟩)]
  rw [hd]
  clear hd
  replace hr := Lib.hid hr
  replace hk := Lib.hid hk
  go_enter Tryz.func46, Tryz.ntmps46
  go_wp2_with (first
   | (go_at_call 84; refine (ops_walk _).mono ?_; rintro e w1 ⟨rfl, hB, cs, hcs, hs⟩; obtain ⟨s, hs1, hs2⟩ := hs k hk.out; clear hs; have hc := cell_of_heap hcs hs1; clear hcs hs1; replace hB := Lib.hid hB; replace hs2 := Lib.hid hs2)
   | (go_at_call 83; refine (at_in _ k hk.out s _ hc).mono ?_; rintro e w2 ⟨rfl, rfl⟩))
  go_ret
  exact ⟨_, rfl, hB.out, hs2.out⟩
theorem isEmpty_of (s : ByteArray) {x : Bool} (h : (s == (⟨#[]⟩ : ByteArray)) = x) : s.toList.isEmpty = x := by
 rw [← decide_eq_emptyBytes s, ← h]
 by_cases e : s = ByteArray.empty
 ·subst e
  decide
 ·rw [decide_eq_false e]
  obtain ⟨d⟩ := s
  symm
  show (d == #[]) = false
  exact beq_eq_false_iff_ne.mpr (fun q => e (by rw [q]; rfl))
set_option maxHeartbeats 4000000 in
theorem pick_away (h : Wd w a pm g t kf W) (i op : Int) (hth : ¬ there W i) : Calls Tryz.prog 17 #[.pointer (some ⟨a, 0, none⟩), .agg #[.int .i64 i, .int .i64 op]] w fun e w' => e = .returned (.agg #[.bool false, .int .i64 0, .int .i64 0, .int .u32 0, .int .u32 0, .int .u32 0, .slice none 0 0]) ∧ Wd w' a pm g t kf W ∧ Bt g t w w' := by
 have ht := fun V (hV : Wd V a pm g t kf W) => task_walk hV i
 rw [if_neg hth] at ht
 obtain ⟨b, hb⟩ : ∃ b, b = (w.alloc (.cells #[.int .i64 i, .int .i64 op] 30)).heap.size := ⟨_, rfl⟩
 obtain ⟨pb, hpb⟩ : ∃ pb, pb = w.heap.size := ⟨_, rfl⟩
 have hpbb : pb < b := by rw [hb, hpb]; simp
 have hlt := h.lt
 obtain ⟨V0, hV0⟩ : ∃ V0, V0 = (w.alloc (.cells #[.int .i64 i, .int .i64 op] 30)).alloc (.cells #[.bool false, .int .i64 0, .int .i64 0, .int .u32 0, .int .u32 0, .int .u32 0, .slice none 0 0] 41) := ⟨_, rfl⟩
 have hp0 : V0.heap[pb]? = some (.cells #[.int .i64 i, .int .i64 op] 30) := by rw [hV0, hpb]; exact blk_alloc (heap_alloc_new _ _) _
 have L0 : Lv w V0 a pm g t kf b W #[.bool false, .int .i64 0, .int .i64 0, .int .u32 0, .int .u32 0, .int .u32 0, .slice none 0 0] := by
  rw [hV0]
  exact ⟨(h.alloc _).alloc _, by rw [hb]; exact heap_alloc_new _ _, ((Bt.refl g t w).alloc _).alloc _, by omega, by omega, by omega, by omega, by omega⟩
 have hpg : pb ≠ g := by omega
 have hpt : pb ≠ t := by omega
 have hwl : w.heap.size ≤ b := by omega
 replace hth := Lib.hid hth
 have q0 := cell_of_heap (j := 0) hp0 rfl
 have q1 := cell_of_heap (j := 1) hp0 rfl
 replace ht := Lib.hid ht
 replace h := Lib.hid h
 clear hlt
 replace hp0 := Lib.hid hp0
 replace L0 := Lib.hid L0
 go_enter Tryz.func17, Tryz.ntmps17
 go_upto_region 1 with (fail)
 have hbe : w.heap.size + 1 = b := by rw [hb]; simp
 try rw [hbe]
 rw [← hV0]
 try rw [← hpb]
 replace hb := Lib.hid hb
 replace hbe := Lib.hid hbe
 replace hpb := Lib.hid hpb
 replace hV0 := Lib.hid hV0
 go_wp2_with (first
  | (go_at_call 45; go_must (refine (ht.out _ L0.out.wd).mono ?_; rintro e w1 ⟨rfl, rfl⟩))
  | ((with_reducible refine gate_store rfl ?_); refine wp_store rfl rfl rfl rfl rfl (run_store_run 41 (.agg #[.bool false, .int .i64 0, .int .i64 0, .int .u32 0, .int .u32 0, .int .u32 0, .slice none 0 0]) [.bool false, .int .i64 0, .int .i64 0, .int .u32 0, .int .u32 0, .int .u32 0, .slice none 0 0] (o := 0) L0.out.ev rfl (by kernel_rfl) (Nat.le_refl _) (by simp [Value.oneCell'])) ?_))
 exact e161
set_option maxHeartbeats 4000000 in
theorem pick_bad (h : Wd w a pm g t kf W) (i op : Int) (hth : there W i) (hop : (taskAt W i).f.op = 0) (hbad : ¬ (1 ≤ op ∧ op ≤ 8)) : Calls Tryz.prog 17 #[.pointer (some ⟨a, 0, none⟩), .agg #[.int .i64 i, .int .i64 op]] w fun e w' => e = .returned (.agg #[.bool false, .int .i64 0, .int .i64 0, .int .u32 0, .int .u32 0, .int .u32 0, .slice none 0 0]) ∧ Wd w' a pm g t kf W ∧ Bt g t w w' := by
 have ht := fun V (hV : Wd V a pm g t kf W) => task_walk hV i
 obtain ⟨b, hb⟩ : ∃ b, b = (w.alloc (.cells #[.int .i64 i, .int .i64 op] 30)).heap.size := ⟨_, rfl⟩
 obtain ⟨pb, hpb⟩ : ∃ pb, pb = w.heap.size := ⟨_, rfl⟩
 have hpbb : pb < b := by rw [hb, hpb]; simp
 have hlt := h.lt
 obtain ⟨V0, hV0⟩ : ∃ V0, V0 = (w.alloc (.cells #[.int .i64 i, .int .i64 op] 30)).alloc (.cells #[.bool false, .int .i64 0, .int .i64 0, .int .u32 0, .int .u32 0, .int .u32 0, .slice none 0 0] 41) := ⟨_, rfl⟩
 have hp0 : V0.heap[pb]? = some (.cells #[.int .i64 i, .int .i64 op] 30) := by rw [hV0, hpb]; exact blk_alloc (heap_alloc_new _ _) _
 have L0 : Lv w V0 a pm g t kf b W #[.bool false, .int .i64 0, .int .i64 0, .int .u32 0, .int .u32 0, .int .u32 0, .slice none 0 0] := by
  rw [hV0]
  exact ⟨(h.alloc _).alloc _, by rw [hb]; exact heap_alloc_new _ _, ((Bt.refl g t w).alloc _).alloc _, by omega, by omega, by omega, by omega, by omega⟩
 have hpg : pb ≠ g := by omega
 have hpt : pb ≠ t := by omega
 have hwl : w.heap.size ≤ b := by omega
 have hi : i.toNat < W.t.length := by unfold there at hth; omega
 rw [if_pos hth] at ht
 have ct := L0.wd.tasks.cell (i := i.toNat) (j := 1) hi (by decide)
 change World.cell? _ _ = some (.int .i64 (taskAt W i).f.op) at ct
 rw [hop] at ct
 replace hop := Lib.hid hop
 replace hbad := Lib.hid hbad
 replace hi := Lib.hid hi
 replace hth := Lib.hid hth
 have q0 := cell_of_heap (j := 0) hp0 rfl
 have q1 := cell_of_heap (j := 1) hp0 rfl
 replace ht := Lib.hid ht
 replace h := Lib.hid h
 clear hlt
 replace hp0 := Lib.hid hp0
 replace L0 := Lib.hid L0
 go_enter Tryz.func17, Tryz.ntmps17
 go_upto_region 1 with (fail)
 have hbe : w.heap.size + 1 = b := by rw [hb]; simp
 try rw [hbe]
 rw [← hV0]
 try rw [← hpb]
 replace hb := Lib.hid hb
 replace hbe := Lib.hid hbe
 replace hpb := Lib.hid hpb
 replace hV0 := Lib.hid hV0
 go_wp2_with (first
  | (go_at_call 45; go_must (refine (ht.out _ L0.out.wd).mono ?_; rintro e w1 ⟨rfl, rfl⟩))
  | (go_at_call 46; go_must (refine (nop_walk op _).mono ?_; rintro e w2 ⟨s, rfl, hB2, hs2⟩; rw [decide_eq_true hbad.out] at hs2; have hs3 := isEmpty_of s hs2; clear hs2; have hp2 := (hB2.block pb (blk_lt hp0.out)).trans hp0.out; replace L0 := Lib.hid (L0.out.below hB2); clear hB2 q0 q1 ct; have q0 := cell_of_heap (j := 0) hp2 rfl; have q1 := cell_of_heap (j := 1) hp2 rfl; have ct := L0.out.wd.tasks.cell (i := i.toNat) (j := 1) hi.out (by decide); change World.cell? _ _ = some (.int .i64 (taskAt W i).f.op) at ct; rw [hop.out] at ct; replace hp0 := Lib.hid hp2; clear hp2))
  | ((with_reducible refine gate_store rfl ?_); refine wp_store rfl rfl rfl rfl rfl (run_store_run 41 (.agg #[.bool false, .int .i64 0, .int .i64 0, .int .u32 0, .int .u32 0, .int .u32 0, .slice none 0 0]) [.bool false, .int .i64 0, .int .i64 0, .int .u32 0, .int .u32 0, .int .u32 0, .slice none 0 0] (o := 0) L0.out.ev rfl (by kernel_rfl) (Nat.le_refl _) (by simp [Value.oneCell'])) ?_))
 exact e161
set_option maxHeartbeats 4000000 in
theorem pick_stuck (h : Wd w a pm g t kf W) (i op : Int) (hth : there W i) (hop : (taskAt W i).f.op ≠ 0) (hst : Stile.stuck W i = true) : Calls Tryz.prog 17 #[.pointer (some ⟨a, 0, none⟩), .agg #[.int .i64 i, .int .i64 op]] w fun e w' => e = .returned (.agg #[.bool false, .int .i64 0, .int .i64 0, .int .u32 0, .int .u32 0, .int .u32 0, .slice none 0 0]) ∧ Wd w' a pm g t kf W ∧ Bt g t w w' := by
 have ht := fun V (hV : Wd V a pm g t kf W) => task_walk hV i
 obtain ⟨b, hb⟩ : ∃ b, b = (w.alloc (.cells #[.int .i64 i, .int .i64 op] 30)).heap.size := ⟨_, rfl⟩
 obtain ⟨pb, hpb⟩ : ∃ pb, pb = w.heap.size := ⟨_, rfl⟩
 have hpbb : pb < b := by rw [hb, hpb]; simp
 have hlt := h.lt
 obtain ⟨V0, hV0⟩ : ∃ V0, V0 = (w.alloc (.cells #[.int .i64 i, .int .i64 op] 30)).alloc (.cells #[.bool false, .int .i64 0, .int .i64 0, .int .u32 0, .int .u32 0, .int .u32 0, .slice none 0 0] 41) := ⟨_, rfl⟩
 have hp0 : V0.heap[pb]? = some (.cells #[.int .i64 i, .int .i64 op] 30) := by rw [hV0, hpb]; exact blk_alloc (heap_alloc_new _ _) _
 have L0 : Lv w V0 a pm g t kf b W #[.bool false, .int .i64 0, .int .i64 0, .int .u32 0, .int .u32 0, .int .u32 0, .slice none 0 0] := by
  rw [hV0]
  exact ⟨(h.alloc _).alloc _, by rw [hb]; exact heap_alloc_new _ _, ((Bt.refl g t w).alloc _).alloc _, by omega, by omega, by omega, by omega, by omega⟩
 have hpg : pb ≠ g := by omega
 have hpt : pb ≠ t := by omega
 have hwl : w.heap.size ≤ b := by omega
 have hi : i.toNat < W.t.length := by unfold there at hth; omega
 rw [if_pos hth] at ht
 have ct := L0.wd.tasks.cell (i := i.toNat) (j := 1) hi (by decide)
 change World.cell? _ _ = some (.int .i64 (taskAt W i).f.op) at ct
 have bo : ((taskAt W i).f.op == 0) = false := beq_eq_false_iff_ne.mpr hop
 generalize (taskAt W i).f.op = fo at ct bo
 replace hop := Lib.hid hop
 replace hst := Lib.hid hst
 replace hi := Lib.hid hi
 replace hth := Lib.hid hth
 have q0 := cell_of_heap (j := 0) hp0 rfl
 have q1 := cell_of_heap (j := 1) hp0 rfl
 replace ht := Lib.hid ht
 replace h := Lib.hid h
 clear hlt
 replace hp0 := Lib.hid hp0
 replace L0 := Lib.hid L0
 go_enter Tryz.func17, Tryz.ntmps17
 go_upto_region 1 with (fail)
 have hbe : w.heap.size + 1 = b := by rw [hb]; simp
 try rw [hbe]
 rw [← hV0]
 try rw [← hpb]
 replace hb := Lib.hid hb
 replace hbe := Lib.hid hbe
 replace hpb := Lib.hid hpb
 replace hV0 := Lib.hid hV0
 go_wp2_with (first
  | (go_at_call 45; go_must (refine (ht.out _ L0.out.wd).mono ?_; rintro e w1 ⟨rfl, rfl⟩))
  | (go_at_call 15; go_must (refine (stuck_walk L0.out.wd i).mono ?_; rintro e w2 ⟨rfl, hw2, hB2⟩; rw [hst.out]; have hp2 := (hB2.block pb (blk_lt hp0.out) hpg hpt).trans hp0.out; replace L0 := Lib.hid (L0.out.step hw2 hB2); clear hw2 hB2 q0 q1 ct; have q0 := cell_of_heap (j := 0) hp2 rfl; have q1 := cell_of_heap (j := 1) hp2 rfl; replace hp0 := Lib.hid hp2; clear hp2))
  | ((with_reducible refine gate_store rfl ?_); refine wp_store rfl rfl rfl rfl rfl (run_store_run 41 (.agg #[.bool false, .int .i64 0, .int .i64 0, .int .u32 0, .int .u32 0, .int .u32 0, .slice none 0 0]) [.bool false, .int .i64 0, .int .i64 0, .int .u32 0, .int .u32 0, .int .u32 0, .slice none 0 0] (o := 0) L0.out.ev rfl (by kernel_rfl) (Nat.le_refl _) (by simp [Value.oneCell'])) ?_))
 exact e161
set_option maxHeartbeats 4000000 in
theorem pick_begin (h : Wd w a pm g t kf W) (i op : Int) (hth : there W i) (hop : (taskAt W i).f.op = 0) (hgood : 1 ≤ op ∧ op ≤ 8) (rn : Bool) (a0 a1 a2 a3 a4 : Int) (ns : List Note) (hC : ∀ V, Wd V a pm g t kf W → Calls Tryz.prog 47 #[.pointer (some ⟨a, 0, none⟩), .int .i64 i, .int .i64 op] V fun e w' => ∃ nv, e = .returned (.agg #[.bool rn, .int .i64 a0, .int .i64 a1, .int .u32 a2, .int .u32 a3, .int .u32 a4, nv]) ∧ nk.R 44 w' V.heap.size (fun _ => True) nv ns ∧ Wd w' a pm g t kf W2 ∧ Bt g t V w') : Calls Tryz.prog 17 #[.pointer (some ⟨a, 0, none⟩), .agg #[.int .i64 i, .int .i64 op]] w fun e w' => ∃ nv, e = .returned (.agg #[.bool rn, .int .i64 a0, .int .i64 a1, .int .u32 a2, .int .u32 a3, .int .u32 a4, nv]) ∧ nk.R 44 w' w.heap.size (fun _ => True) nv ns ∧ Wd w' a pm g t kf W2 ∧ Bt g t w w' := by
 replace hC := Lib.hid hC
 have ht := fun V (hV : Wd V a pm g t kf W) => task_walk hV i
 obtain ⟨b, hb⟩ : ∃ b, b = (w.alloc (.cells #[.int .i64 i, .int .i64 op] 30)).heap.size := ⟨_, rfl⟩
 obtain ⟨pb, hpb⟩ : ∃ pb, pb = w.heap.size := ⟨_, rfl⟩
 have hpbb : pb < b := by rw [hb, hpb]; simp
 have hlt := h.lt
 obtain ⟨V0, hV0⟩ : ∃ V0, V0 = (w.alloc (.cells #[.int .i64 i, .int .i64 op] 30)).alloc (.cells #[.bool false, .int .i64 0, .int .i64 0, .int .u32 0, .int .u32 0, .int .u32 0, .slice none 0 0] 41) := ⟨_, rfl⟩
 have hp0 : V0.heap[pb]? = some (.cells #[.int .i64 i, .int .i64 op] 30) := by rw [hV0, hpb]; exact blk_alloc (heap_alloc_new _ _) _
 have L0 : Lv w V0 a pm g t kf b W #[.bool false, .int .i64 0, .int .i64 0, .int .u32 0, .int .u32 0, .int .u32 0, .slice none 0 0] := by
  rw [hV0]
  exact ⟨(h.alloc _).alloc _, by rw [hb]; exact heap_alloc_new _ _, ((Bt.refl g t w).alloc _).alloc _, by omega, by omega, by omega, by omega, by omega⟩
 have hpg : pb ≠ g := by omega
 have hpt : pb ≠ t := by omega
 have hwl : w.heap.size ≤ b := by omega
 have hi : i.toNat < W.t.length := by unfold there at hth; omega
 rw [if_pos hth] at ht
 have ct := L0.wd.tasks.cell (i := i.toNat) (j := 1) hi (by decide)
 change World.cell? _ _ = some (.int .i64 (taskAt W i).f.op) at ct
 rw [hop] at ct
 replace hop := Lib.hid hop
 replace hgood := Lib.hid hgood
 replace hi := Lib.hid hi
 replace hth := Lib.hid hth
 have q0 := cell_of_heap (j := 0) hp0 rfl
 have q1 := cell_of_heap (j := 1) hp0 rfl
 replace ht := Lib.hid ht
 replace h := Lib.hid h
 clear hlt
 replace hp0 := Lib.hid hp0
 replace L0 := Lib.hid L0
 go_enter Tryz.func17, Tryz.ntmps17
 go_upto_region 1 with (fail)
 have hbe : w.heap.size + 1 = b := by rw [hb]; simp
 try rw [hbe]
 rw [← hV0]
 try rw [← hpb]
 replace hb := Lib.hid hb
 replace hbe := Lib.hid hbe
 replace hpb := Lib.hid hpb
 replace hV0 := Lib.hid hV0
 go_wp2_with (first
  | (go_at_call 45; go_must (refine (ht.out _ L0.out.wd).mono ?_; rintro e w1 ⟨rfl, rfl⟩))
  | (go_at_call 46; go_must (refine (nop_walk op _).mono ?_; rintro e w2 ⟨s, rfl, hB2, hs2⟩; rw [decide_eq_false (fun q => q hgood.out)] at hs2; have hs3 := isEmpty_of s hs2; clear hs2; have hp2 := (hB2.block pb (blk_lt hp0.out)).trans hp0.out; replace L0 := Lib.hid (L0.out.below hB2); clear hB2 q0 q1 ct; have q0 := cell_of_heap (j := 0) hp2 rfl; have q1 := cell_of_heap (j := 1) hp2 rfl; have ct := L0.out.wd.tasks.cell (i := i.toNat) (j := 1) hi.out (by decide); change World.cell? _ _ = some (.int .i64 (taskAt W i).f.op) at ct; rw [hop.out] at ct; replace hp0 := Lib.hid hp2; clear hp2))
  | (go_at_call 47; go_must (refine (hC.out _ L0.out.wd).mono ?_; rintro e w4 ⟨nv, rfl, hR4, hw4, hB4⟩; obtain ⟨A4, c4, rfl⟩ := Kd.R_slice hR4; have hbV := Nat.le_of_lt (Nat.lt_of_le_of_lt hwl (blk_lt L0.out.ev)); replace hR4 := Lib.hid (Kd.R_lower hR4 hbV); replace L0 := Lib.hid (L0.out.step hw4 hB4); clear hw4 hB4 hbV q0 q1 ct))
  | ((with_reducible refine gate_store rfl ?_); refine wp_store rfl rfl rfl rfl rfl (run_store_run 41 (.agg #[.bool rn, .int .i64 a0, .int .i64 a1, .int .u32 a2, .int .u32 a3, .int .u32 a4, .slice A4 ns.length c4]) [.bool rn, .int .i64 a0, .int .i64 a1, .int .u32 a2, .int .u32 a3, .int .u32 a4, .slice A4 ns.length c4] (o := 0) L0.out.ev rfl (by kernel_rfl) (Nat.le_refl _) (by simp [Value.oneCell'])) ?_))
 exact e162
set_option maxHeartbeats 4000000 in
theorem pick_step (h : Wd w a pm g t kf W) (i op : Int) (hth : there W i) (hop : (taskAt W i).f.op ≠ 0) (hst : Stile.stuck W i = false) (rn : Bool) (a0 a1 a2 a3 a4 : Int) (ns : List Note) (hC : ∀ V, Wd V a pm g t kf W → Calls Tryz.prog 48 #[.pointer (some ⟨a, 0, none⟩), .int .i64 i] V fun e w' => ∃ nv, e = .returned (.agg #[.bool rn, .int .i64 a0, .int .i64 a1, .int .u32 a2, .int .u32 a3, .int .u32 a4, nv]) ∧ nk.R 44 w' V.heap.size (fun _ => True) nv ns ∧ Wd w' a pm g t kf W2 ∧ Bt g t V w') : Calls Tryz.prog 17 #[.pointer (some ⟨a, 0, none⟩), .agg #[.int .i64 i, .int .i64 op]] w fun e w' => ∃ nv, e = .returned (.agg #[.bool rn, .int .i64 a0, .int .i64 a1, .int .u32 a2, .int .u32 a3, .int .u32 a4, nv]) ∧ nk.R 44 w' w.heap.size (fun _ => True) nv ns ∧ Wd w' a pm g t kf W2 ∧ Bt g t w w' := by
 replace hC := Lib.hid hC
 have ht := fun V (hV : Wd V a pm g t kf W) => task_walk hV i
 obtain ⟨b, hb⟩ : ∃ b, b = (w.alloc (.cells #[.int .i64 i, .int .i64 op] 30)).heap.size := ⟨_, rfl⟩
 obtain ⟨pb, hpb⟩ : ∃ pb, pb = w.heap.size := ⟨_, rfl⟩
 have hpbb : pb < b := by rw [hb, hpb]; simp
 have hlt := h.lt
 obtain ⟨V0, hV0⟩ : ∃ V0, V0 = (w.alloc (.cells #[.int .i64 i, .int .i64 op] 30)).alloc (.cells #[.bool false, .int .i64 0, .int .i64 0, .int .u32 0, .int .u32 0, .int .u32 0, .slice none 0 0] 41) := ⟨_, rfl⟩
 have hp0 : V0.heap[pb]? = some (.cells #[.int .i64 i, .int .i64 op] 30) := by rw [hV0, hpb]; exact blk_alloc (heap_alloc_new _ _) _
 have L0 : Lv w V0 a pm g t kf b W #[.bool false, .int .i64 0, .int .i64 0, .int .u32 0, .int .u32 0, .int .u32 0, .slice none 0 0] := by
  rw [hV0]
  exact ⟨(h.alloc _).alloc _, by rw [hb]; exact heap_alloc_new _ _, ((Bt.refl g t w).alloc _).alloc _, by omega, by omega, by omega, by omega, by omega⟩
 have hpg : pb ≠ g := by omega
 have hpt : pb ≠ t := by omega
 have hwl : w.heap.size ≤ b := by omega
 have hi : i.toNat < W.t.length := by unfold there at hth; omega
 rw [if_pos hth] at ht
 have ct := L0.wd.tasks.cell (i := i.toNat) (j := 1) hi (by decide)
 change World.cell? _ _ = some (.int .i64 (taskAt W i).f.op) at ct
 have bo : ((taskAt W i).f.op == 0) = false := beq_eq_false_iff_ne.mpr hop
 generalize (taskAt W i).f.op = fo at ct bo
 replace hop := Lib.hid hop
 replace hst := Lib.hid hst
 replace hi := Lib.hid hi
 replace hth := Lib.hid hth
 have q0 := cell_of_heap (j := 0) hp0 rfl
 have q1 := cell_of_heap (j := 1) hp0 rfl
 replace ht := Lib.hid ht
 replace h := Lib.hid h
 clear hlt
 replace hp0 := Lib.hid hp0
 replace L0 := Lib.hid L0
 go_enter Tryz.func17, Tryz.ntmps17
 go_upto_region 1 with (fail)
 have hbe : w.heap.size + 1 = b := by rw [hb]; simp
 try rw [hbe]
 rw [← hV0]
 try rw [← hpb]
 replace hb := Lib.hid hb
 replace hbe := Lib.hid hbe
 replace hpb := Lib.hid hpb
 replace hV0 := Lib.hid hV0
 go_wp2_with (first
  | (go_at_call 45; go_must (refine (ht.out _ L0.out.wd).mono ?_; rintro e w1 ⟨rfl, rfl⟩))
  | (go_at_call 15; go_must (refine (stuck_walk L0.out.wd i).mono ?_; rintro e w2 ⟨rfl, hw2, hB2⟩; rw [hst.out]; have hp2 := (hB2.block pb (blk_lt hp0.out) hpg hpt).trans hp0.out; replace L0 := Lib.hid (L0.out.step hw2 hB2); clear hw2 hB2 q0 q1 ct; have q0 := cell_of_heap (j := 0) hp2 rfl; have q1 := cell_of_heap (j := 1) hp2 rfl; replace hp0 := Lib.hid hp2; clear hp2; have ct := trivial))
  | (go_at_call 48; go_must (refine (hC.out _ L0.out.wd).mono ?_; rintro e w4 ⟨nv, rfl, hR4, hw4, hB4⟩; obtain ⟨A4, c4, rfl⟩ := Kd.R_slice hR4; have hbV := Nat.le_of_lt (Nat.lt_of_le_of_lt hwl (blk_lt L0.out.ev)); replace hR4 := Lib.hid (Kd.R_lower hR4 hbV); replace L0 := Lib.hid (L0.out.step hw4 hB4); clear hw4 hB4 hbV q0 q1 ct))
  | ((with_reducible refine gate_store rfl ?_); refine wp_store rfl rfl rfl rfl rfl (run_store_run 41 (.agg #[.bool rn, .int .i64 a0, .int .i64 a1, .int .u32 a2, .int .u32 a3, .int .u32 a4, .slice A4 ns.length c4]) [.bool rn, .int .i64 a0, .int .i64 a1, .int .u32 a2, .int .u32 a3, .int .u32 a4, .slice A4 ns.length c4] (o := 0) L0.out.ev rfl (by kernel_rfl) (Nat.le_refl _) (by simp [Value.oneCell'])) ?_))
 exact e162
end Go.Proofs.YtkmlefbdhdlfmaaGreat.Wo
