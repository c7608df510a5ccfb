/- bound's Watch: the longest wait of a class. -/
import Derived.Test.YtgbofijdjgpgeaaWat
namespace Go.Proofs.Ytgbofijdjgpgeaa.Wat
open Go.RowKit Go.Proofs.YtgbofijdjgpgeaaW.PrintWords Go.Proofs.YtgbofijdjgpgeaaW.PrintMore Go.Proofs.YtgbofijdjgpgeaaW.PrintLast Go.Proofs.Ytgbofijdjgpgeaa.PBoundWatches
variable {w w1 : World} {p g n cap : Nat} {c : Int} {L o f : Nat → Int}
set_option linter.unusedSimpArgs false
set_option maxRecDepth 100000

abbrev M4 (B : Nat → Int) : IMap.M := [(0, .int .i64 (B 0)), (1, .int .i64 (B 1)), (2, .int .i64 (B 2)), (3, .int .i64 (B 3))]
theorem M4_get (B : Nat → Int) (q : Nat) (hq : q < 4) : IMap.get (M4 B) (q : Int) = some (.int .i64 (B q)) := by
  match q, hq with
  | 0, _ => rfl
  | 1, _ => rfl
  | 2, _ => rfl
  | 3, _ => rfl
theorem M4_put (B : Nat → Int) (q : Nat) (hq : q < 4) (x : Int) : IMap.put (M4 B) (q : Int) (.int .i64 x) = M4 (upd B q x) := by
  match q, hq with
  | 0, _ => rfl
  | 1, _ => rfl
  | 2, _ => rfl
  | 3, _ => rfl
theorem zeroInt (w : World) : (zeroValue 3).run Try.prog w = .ok (.int .i64 0) w := by
  have h : (Try.prog.info? 3).map (·.zero) = some (some (.int .i64 0)) := by kernel_rfl
  obtain ⟨i, hi, hz⟩ := Option.map_eq_some_iff.1 h
  simp [zeroValue, typeInfo, hi, hz]
theorem look4 {w : World} {mb : Nat} {B : Nat → Int} (h : IMap.Is w mb (M4 B)) (q : Nat) (hq : q < 4) : (Instr.lookup 112 (.map (some mb)) (.int .i64 (q : Int)) false).run Try.prog w = .ok (.int .i64 (B q)) w := by
  have := IMap.run_lookup h Try.underlying112 Try.underlying3 (zeroInt w) (q : Int) false
  rw [M4_get B q hq] at this
  exact this
theorem wp_value {P : Program} {oi : Oper} {a : Act} {ops : Array Oper} {rest : List Oper} {Q : Exit → Act → World → Prop} {v : Value} (N : Option Tmp) (hN : oi.dst = N) (hg : oi.guard = none) (hrun : (execOp a.eval oi).run P w = .ok (.value v) w1)
    (h : wpList P ops Q rest (a.put N v) w1) : wpList P ops Q (oi :: rest) a w := by
  subst hN
  refine wpList_plain hg fun K hK => ?_
  unfold Oper.wp
  rw [hrun]
  exact hK _ _ h
theorem index_run {P : Program} {oi : Oper} {a : Act} {t : TypeId} {x y : Operand} {xv yv v : Value} (hop : oi.op = .index t x y) (hx : a.eval x = xv) (hy : a.eval y = yv) (h : (Instr.index t xv yv).run P w = .ok v w) : (execOp a.eval oi).run P w = .ok (.value v) w := by
  unfold execOp
  simp [hop, hx, hy, h]
theorem index4 (L : Nat → Int) (k : Nat) (hk : k < 4) (w : World) : (Instr.index 109 (.agg #[.int .i64 (L 0), .int .i64 (L 1), .int .i64 (L 2), .int .i64 (L 3)]) (.int .i64 (k : Int))).run Try.prog w = .ok (.int .i64 (L k)) w := by
  have hk' : (k : Int) < 4 := by omega
  have hv : (#[.int .i64 (L 0), .int .i64 (L 1), .int .i64 (L 2), .int .i64 (L 3)] : Array Value)[k]? = some (.int .i64 (L k)) := by
    match k, hk with
    | 0, _ => rfl
    | 1, _ => rfl
    | 2, _ => rfl
    | 3, _ => rfl
  simp only [List.getElem?_toArray] at hv
  obtain ⟨hl, hv⟩ := List.getElem?_eq_some_iff.1 hv
  simp [Instr.index, asIntOf, run_underlying Try.underlying109, part, hk, hk', hv]
/-- The longest waits, those under way of the first k tasks too. -/
def byv (c : Int) (L o f : Nat → Int) (n : Nat) : Nat → Nat → Int
  | 0 => L
  | k + 1 => upd (byv c L o f n k) (o k).toNat (mx (byv c L o f n k (o k).toNat) (waitv c o f n (k : Int)))
def longv (c : Int) (L o f : Nat → Int) (n : Nat) (cl : Int) : Int := if cl = 1 then byv c L o f n n 1 else if cl = 2 then byv c L o f n n 3 else mx (byv c L o f n n 1) (byv c L o f n n 3)
def first (L : Nat → Int) : Nat → IMap.M
  | 0 => []
  | k + 1 => first L k ++ [((k : Int), .int .i64 (L k))]
theorem first_put (L : Nat → Int) (k : Nat) (hk : k < 4) : IMap.put (first L k) (k : Int) (.int .i64 (L k)) = first L (k + 1) := by
  match k, hk with
  | 0, _ => rfl
  | 1, _ => rfl
  | 2, _ => rfl
  | 3, _ => rfl

set_option maxHeartbeats 4000000 in
theorem longest_walk (h : Wt w p g n cap c L o f) (hn : n ≤ 1000000) (hok : ∀ i, i < n → o i = 0 ∨ o i = 1 ∨ o i = 3) (cl : Int) : Calls Try.prog 50 #[.pointer (some ⟨p, 0, none⟩), .int .i64 cl] w fun e w' => e = .returned (.int .i64 (longv c L o f n cl)) ∧ Below w.heap.size w w' := by
  have hm0 : Hid (IMap.Is (w.alloc (.map #[] 0)) w.heap.size (first L 0)) := IMap.Is.made w
  have hb0 : Hid (Below w.heap.size w (w.alloc (.map #[] 0))) := below_alloc (Below.refl _ _) _
  have hW0 := h.grown hb0.out
  have hl0 := hW0.long 0 (by omega)
  have hl1 := hW0.long 1 (by omega)
  have hl2 := hW0.long 2 (by omega)
  have hl3 := hW0.long 3 (by omega)
  simp only [Nat.add_zero, Nat.reduceAdd] at hl0 hl1 hl2 hl3
  have hmm := @run_makeMap Try.prog
  have HK := Lib.hid hok
  have HH := Lib.hid h
  replace hW0 := Lib.hid hW0
  clear hok h
  go_enter Try.func50, Try.ntmps50
  go_wp2
  clear hmm hl0 hl1 hl2 hl3
  obtain ⟨mb, hmb⟩ : ∃ n, n = w.heap.size := ⟨_, rfl⟩
  rw [← hmb]
  replace hmb := Lib.hid hmb
  go_loopw [17] (fun i wr => ∃ k : Nat, k ≤ 4 ∧ i = .int .i64 k ∧ Hid (IMap.Is wr mb (first L k)) ∧ Hid (Below w.heap.size w wr)) (fun i _ => 4 - (intOf i).toNat)
  case atStart => exact ⟨0, by omega, rfl, (by rw [← hmb.out] at hm0; exact hm0), hb0⟩
  case round =>
    clear hm0 hb0 hW0
    obtain ⟨k, hk, rfl, hM, hB⟩ := hrel
    by_cases hlt : k < 4
    · have hrun := IMap.run_update (P := Try.prog) hM.out Try.underlying112 Try.underlying3 (k : Int) (.int .i64 (L k))
      obtain ⟨w2, hrun, hM2, hu2⟩ := hrun
      have hB2 := hu2.below (by rw [hmb.out]; exact Nat.le_refl _) hB.out
      rw [first_put L k hlt] at hM2
      replace hM2 := Lib.hid hM2
      replace hB2 := Lib.hid hB2
      clear hM hB hu2
      have hidx := Lib.hid (index4 L k hlt wr)
      go_wp2_with ((with_reducible refine gate_ (.index 109 (.tmp 16) (.tmp 17)) rfl ?_); go_must (refine wp_value (some 20) rfl rfl (index_run rfl rfl rfl hidx.out) ?_; clear hidx))
      go_roundw
      case rel => exact ⟨k + 1, by omega, by go_num, hM2, hB2⟩
      case measure => simp [intOf]; omega
    · obtain rfl : k = 4 := by omega
      have hM4 : Hid (IMap.Is wr mb (M4 (byv c L o f n 0))) := hM
      clear hM
      have hsl := (HH.out.grown hB.out).sl
      go_wp2
      clear hsl
      go_loopw [30] (fun i wr => ∃ k : Nat, k ≤ n ∧ i = .int .i64 k ∧ Hid (IMap.Is wr mb (M4 (byv c L o f n k))) ∧ Hid (Below w.heap.size w wr)) (fun i _ => n - (intOf i).toNat)
      case atStart => exact ⟨0, Nat.zero_le _, rfl, hM4, hB⟩
      case round =>
        clear hM4 hB
        obtain ⟨k, hk, rfl, hM, hB⟩ := hrel
        by_cases hlt : k < n
        · have hWr := HH.out.grown hB.out
          have hopc := hWr.opc k hlt
          have hfrc := hWr.fromc k hlt
          obtain ⟨q, hq⟩ : ∃ q : Nat, o k = (q : Int) ∧ q < 4 := by
            rcases HK.out k hlt with h | h | h
            · exact ⟨0, by rw [h]; rfl, by omega⟩
            · exact ⟨1, by rw [h]; rfl, by omega⟩
            · exact ⟨3, by rw [h]; rfl, by omega⟩
          obtain ⟨hq, hq4⟩ := hq
          rw [hq] at hopc
          obtain ⟨B, hBv⟩ : ∃ B, B = byv c L o f n k := ⟨_, rfl⟩
          have hnext : byv c L o f n (k + 1) = upd B q (mx (B q) (waitv c o f n (k : Int))) := by
            rw [hBv]
            show upd (byv c L o f n k) (o k).toNat _ = _
            rw [hq, Int.toNat_natCast]
          rw [← hBv] at hM
          replace hnext := Lib.hid hnext
          have hWa := hWr.grown (below_alloc (Below.refl _ _) (.cells #[.int .i64 (q : Int), .int .i64 (f k)] 114))
          have hMa := hM.out.alloc (.cells #[.int .i64 (q : Int), .int .i64 (f k)] 114)
          have hBa := below_alloc hB.out (.cells #[.int .i64 (q : Int), .int .i64 (f k)] 114)
          have hoa := heap_alloc_new wr (.cells #[.int .i64 (q : Int), .int .i64 (f k)] 114)
          obtain ⟨wa, hwa⟩ : ∃ wa, wa = wr.alloc (.cells #[.int .i64 (q : Int), .int .i64 (f k)] 114) := ⟨_, rfl⟩
          obtain ⟨ob, hob⟩ : ∃ ob, ob = wr.heap.size := ⟨_, rfl⟩
          rw [← hwa] at hWa hMa hBa hoa
          rw [← hob] at hoa
          replace hWa := Lib.hid hWa
          replace hMa := Lib.hid hMa
          replace hBa := Lib.hid hBa
          replace hoa := Lib.hid hoa
          replace hwa := Lib.hid hwa
          replace hob := Lib.hid hob
          replace hBv := Lib.hid hBv
          replace hq := Lib.hid hq
          have hlow : w.heap.size ≤ mb := by rw [hmb.out]; exact Nat.le_refl _
          replace hlow := Lib.hid hlow
          clear hWr hM hB
          go_upto_region 12 with (fail)
          rw [← hwa.out, ← hob.out]
          clear hopc hfrc hwa hob
          refine start_ (n := 13) (S := fun w' => w'.cell? ⟨ob, 0, none⟩ = some (.int .i64 (q : Int)) ∧ (Instr.lookup 112 (.map (some mb)) (.int .i64 (q : Int)) false).run Try.prog w' = .ok (.int .i64 (B q)) w') (ds := [12]) #[false, false, false, false, false, false, false, false, false, false, false, false, false] (by kernel_rfl) rfl rfl ⟨cell_of_heap (w := wa.drew) hoa.out rfl, look4 (w := wa.drew) (hMa.out.of_block rfl) q hq4⟩ (fun hHeld => ?_)
          refine pure_ (i := 0) (N := some 35) (v := ?_) (a' := ?_) #[true, false, false, false, false, false, false, false, false, false, false, false, false] rfl rfl (by kernel_rfl) (fun _ _ _ h => h) (Or.inl ⟨by rfl, ?_⟩) ?_ ?_
          rotate_left
          · intro w'
            go_simp
            with_reducible rfl
          rotate_left
          · simp only [Act.put, List.setIfInBounds_toArray, List.set_cons_zero, List.set_cons_succ, i64_w, i32_w]
            rfl
          refine pure_ (i := 1) (N := some 36) (v := ?_) (a' := ?_) #[true, true, false, false, false, false, false, false, false, false, false, false, false] rfl rfl (by kernel_rfl) (fun _ _ _ h => h) (Or.inl ⟨by rfl, ?_⟩) ?_ ?_
          rotate_left
          · intro w'
            go_simp
            with_reducible rfl
          rotate_left
          · simp only [Act.put, List.setIfInBounds_toArray, List.set_cons_zero, List.set_cons_succ, i64_w, i32_w]
            rfl
          refine pure_ (i := 3) (N := some 38) (v := ?_) (a' := ?_) #[true, true, false, true, false, false, false, false, false, false, false, false, false] rfl rfl (by kernel_rfl) (fun _ _ _ h => h) (Or.inl ⟨by rfl, ?_⟩) ?_ ?_
          rotate_left
          · intro w'
            go_simp
            with_reducible rfl
          rotate_left
          · simp only [Act.put, List.setIfInBounds_toArray, List.set_cons_zero, List.set_cons_succ, i64_w, i32_w]
            rfl
          refine pure_ (i := 4) (N := some 39) (v := ?_) (a' := ?_) #[true, true, false, true, true, false, false, false, false, false, false, false, false] rfl rfl (by kernel_rfl) (fun _ _ _ h => h) (Or.inl ⟨by rfl, ?_⟩) ?_ ?_
          rotate_left
          · intro w'
            go_simp
            with_reducible rfl
          rotate_left
          · simp only [Act.put, List.setIfInBounds_toArray, List.set_cons_zero, List.set_cons_succ, i64_w, i32_w]
            rfl
          refine pure_ (i := 7) (N := some 42) (v := ?_) (a' := ?_) #[true, true, false, true, true, false, false, true, false, false, false, false, false] rfl rfl (by kernel_rfl) (fun _ _ _ h => h) (Or.inl ⟨by rfl, ?_⟩) ?_ ?_
          rotate_left
          · intro w'
            go_simp
            with_reducible rfl
          rotate_left
          · simp only [Act.put, List.setIfInBounds_toArray, List.set_cons_zero, List.set_cons_succ, i64_w, i32_w]
            rfl
          refine pure_ (i := 8) (N := some 43) (v := ?_) (a' := ?_) #[true, true, false, true, true, false, false, true, true, false, false, false, false] rfl rfl (by kernel_rfl) (fun _ _ _ h => h) (Or.inl ⟨by rfl, ?_⟩) ?_ ?_
          rotate_left
          · intro w'
            go_simp
            with_reducible rfl
          rotate_left
          · simp only [Act.put, List.setIfInBounds_toArray, List.set_cons_zero, List.set_cons_succ, i64_w, i32_w]
            rfl
          refine take_ (i := 2) (N := some 37) (v := ?_) (a' := ?_) #[true, true, true, true, true, false, false, true, true, false, false, false, false] rfl rfl (by kernel_rfl) (fun _ _ _ h => h) (Or.inl ⟨by rfl, ?_⟩) hHeld ?_ ?_
          rotate_left
          · rintro w' ⟨s0, s1⟩
            go_simp
            with_reducible rfl
          rotate_left
          · simp only [Act.put, List.setIfInBounds_toArray, List.set_cons_zero, List.set_cons_succ, i64_w, i32_w]
            rfl
          refine take_ (i := 5) (N := some 40) (v := ?_) (a' := ?_) #[true, true, true, true, true, true, false, true, true, false, false, false, false] rfl rfl (by kernel_rfl) (fun _ _ _ h => h) (Or.inl ⟨by rfl, ?_⟩) hHeld ?_ ?_
          rotate_left
          · rintro w' ⟨s0, s1⟩
            go_simp
            with_reducible rfl
          rotate_left
          · simp only [Act.put, List.setIfInBounds_toArray, List.set_cons_zero, List.set_cons_succ, i64_w, i32_w]
            rfl
          refine take_ (i := 6) (N := some 41) (v := ?_) (a' := ?_) #[true, true, true, true, true, true, true, true, true, false, false, false, false] rfl rfl (by kernel_rfl) (fun _ _ _ h => h) (Or.inl ⟨by rfl, ?_⟩) hHeld ?_ ?_
          rotate_left
          · rintro w' ⟨s0, s1⟩
            go_simp
            with_reducible rfl
          rotate_left
          · simp only [Act.put, List.setIfInBounds_toArray, List.set_cons_zero, List.set_cons_succ, i64_w, i32_w]
            rfl
          refine one_ (i := 9) (N := some 44) #[true, true, true, true, true, true, true, true, true, true, false, false, false] rfl rfl (by kernel_rfl) (by decide) (fun K hK => ?_)
          refine goes_ Try.func51 (by kernel_rfl) rfl #[.pointer (some ⟨p, 0, none⟩), .int .i64 (k : Int)] (by rfl) rfl rfl (by simp only [List.map_toArray, List.map_cons, List.map_nil]; rfl) ?_
          with_reducible refine (waiting_walk hWa.out.drew (k : Int)).mono ?_
          rintro e w1 ⟨rfl, hb1⟩
          refine ⟨_, rfl, ?_⟩
          have hW1 := hWa.out.drew.grown hb1
          have hM1 := IMap.Is.below (hMa.out.of_block (w' := wa.drew) rfl) hb1 hMa.out.lt
          have ho1 := (hb1.block ob (blk_lt hoa.out)).trans hoa.out
          refine hK.out _ _ ⟨cell_of_heap ho1 rfl, look4 hM1 q hq4⟩ (fun hHeld => ?_)
          clear hK K
          refine norm_ (a' := ?_) ?_ ?_
          rotate_left
          · show Act.put _ (some 44) _ = _
            simp only [Act.put, List.setIfInBounds_toArray, List.set_cons_zero, List.set_cons_succ, i64_w, i32_w]
            rfl
          refine one_ (i := 10) (N := some 45) #[true, true, true, true, true, true, true, true, true, true, true, false, false] rfl rfl (by kernel_rfl) (by decide) (fun K hK => ?_)
          refine value_ (w1 := ?_) (v := ?_) (by rfl) rfl ?_ ?_
          rotate_left 2
          · go_simp
            constructor
            · rfl
            · rfl
          have hW2 := hW1.grown (below_alloc (Below.refl _ _) (.cells #[.int .i64 (waitv c o f n (k : Int))] 3))
          have h2n := heap_alloc_new w1 (.cells #[.int .i64 (waitv c o f n (k : Int))] 3)
          have hM2 := hM1.alloc (.cells #[.int .i64 (waitv c o f n (k : Int))] 3)
          have ho2 := (Below.heap_alloc w1 (.cells #[.int .i64 (waitv c o f n (k : Int))] 3) ob (blk_lt ho1)).trans ho1
          refine hK.out _ _ ⟨cell_of_heap ho2 rfl, look4 hM2 q hq4⟩ (fun hHeld => ?_)
          clear hK K
          refine norm_ (a' := ?_) ?_ ?_
          rotate_left
          · show Act.put _ (some 45) _ = _
            simp only [Act.put, List.setIfInBounds_toArray, List.set_cons_zero, List.set_cons_succ, i64_w, i32_w]
            rfl
          refine one_ (i := 11) (N := some 46) #[true, true, true, true, true, true, true, true, true, true, true, true, false] rfl rfl (by kernel_rfl) (by decide) (fun K hK => ?_)
          refine goes_ Try.func71 (by kernel_rfl) rfl #[.int .i64 (B q), .slice (some ⟨w1.heap.size, 0, none⟩) 1 1] (by rfl) rfl rfl (by simp only [List.map_toArray, List.map_cons, List.map_nil]; rfl) ?_
          with_reducible refine (great_walk (B q) (waitv c o f n (k : Int)) h2n).mono ?_
          rintro e w3 ⟨rfl, hb3⟩
          refine ⟨_, rfl, ?_⟩
          have hW3 := hW2.grown hb3
          have hM3 := hM2.below hb3 hM2.lt
          have ho3 := (hb3.block ob (blk_lt ho2)).trans ho2
          refine hK.out _ _ ⟨cell_of_heap ho3 rfl, look4 hM3 q hq4⟩ (fun hHeld => ?_)
          clear hK K
          refine norm_ (a' := ?_) ?_ ?_
          rotate_left
          · show Act.put _ (some 46) _ = _
            simp only [Act.put, List.setIfInBounds_toArray, List.set_cons_zero, List.set_cons_succ, i64_w, i32_w]
            rfl
          refine last_ (i := 12) (N := none) #[true, true, true, true, true, true, true, true, true, true, true, true, true] rfl rfl (by kernel_rfl) (by decide) (fun K hK => ?_)
          obtain ⟨w4, hrun, hM4, hu4⟩ := IMap.run_update (P := Try.prog) hM3 Try.underlying112 Try.underlying3 (q : Int) (.int .i64 (mx (B q) (waitv c o f n (k : Int))))
          refine skip_ (w1 := w4) (by rfl) rfl (upd_run rfl rfl rfl rfl hrun) ?_
          refine hK.out _ _ ?_
          clear hK K
          refine done_ (by kernel_rfl) ?_

          have hB4 := hu4.below hlow.out (below_then (below_then (below_then (below_drew hBa.out) hBa.out.size hb1) (Nat.le_trans hBa.out.size hb1.size) (below_alloc (Below.refl _ _) (.cells #[.int .i64 (waitv c o f n (k : Int))] 3))) (Nat.le_trans (Nat.le_trans hBa.out.size hb1.size) (by simp)) hb3)
          rw [M4_put B q hq4, ← hnext.out] at hM4
          replace hM4 := Lib.hid hM4
          replace hB4 := Lib.hid hB4
          clear hrun hu4 hM3 hM2 hM1 hW1 hW2 hW3 hb1 hb3 ho1 ho2 ho3 h2n
          go_wp2
          go_roundw
          case rel => exact ⟨k + 1, by omega, by go_num, hM4, hB4⟩
          case measure => simp [intOf]; omega
        · obtain rfl : n = k := by omega
          obtain ⟨B, hBv⟩ : ∃ B, B = byv c L o f n n := ⟨_, rfl⟩
          rw [← hBv] at hM
          have hk1 : (Instr.lookup 112 (.map (some mb)) (.int .i64 1) false).run Try.prog wr = .ok (.int .i64 (B 1)) wr := look4 hM.out 1 (by omega)
          have hk3 : (Instr.lookup 112 (.map (some mb)) (.int .i64 3) false).run Try.prog wr = .ok (.int .i64 (B 3)) wr := look4 hM.out 3 (by omega)
          have hlv : longv c L o f n cl = if cl = 1 then B 1 else if cl = 2 then B 3 else mx (B 1) (B 3) := by rw [hBv]; rfl
          replace hBv := Lib.hid hBv
          by_cases h1 : cl = 1
          · rw [if_pos h1] at hlv
            subst h1
            replace hlv := Lib.hid hlv
            go_wp2
            go_ret
            exact ⟨by rw [hlv.out]; rfl, hB.out⟩
          · rw [if_neg h1] at hlv
            have hb1 : (cl == 1) = false := by simpa using h1
            by_cases h2 : cl = 2
            · rw [if_pos h2] at hlv
              subst h2
              replace hlv := Lib.hid hlv
              clear hb1 h1
              go_wp2
              go_ret
              exact ⟨by rw [hlv.out]; rfl, hB.out⟩
            · rw [if_neg h2] at hlv
              have hb2 : (cl == 2) = false := by simpa using h2
              replace hlv := Lib.hid hlv
              go_wp2_with (go_at_call 71; refine (great_walk (B 1) (B 3) (heap_alloc_new wr _)).mono ?_; rintro e w3 ⟨rfl, hb3⟩; replace hb3 := Lib.hid (below_then (below_alloc hB.out _) (Nat.le_trans hB.out.size (by simp)) hb3))
              go_ret
              exact ⟨by rw [hlv.out]; rfl, hb3.out⟩
end Go.Proofs.Ytgbofijdjgpgeaa.Wat
