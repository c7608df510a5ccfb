/- bound's Watch, function by function: what each tells, and how it turns the watch. -/
import Derived.Test.YtgbofijdjgpgeaaPBoundWatchesx1
import Derived.Test.YtgbofijdjgpgeaaWLast
import Derived.Test.YtgbofijdjgpgeaaMapsI
import Derived.Lib.Hide
import Derived.WalkSpells
import Derived.Deep.DeepMust
import Derived.Deep.RegionHeld3
namespace Go.Proofs.Ytgbofijdjgpgeaa.Wat
open Go.RowKit Go.Proofs.YtgbofijdjgpgeaaW.PrintWords Go.Proofs.YtgbofijdjgpgeaaW.PrintMore Go.Proofs.YtgbofijdjgpgeaaW.PrintLast Go.Proofs.Ytgbofijdjgpgeaa.PBoundWatches

theorem cell_of_heap {w : World} {b j : Nat} {cells : Array Value} {t : TypeId} {v : Value} (h : w.heap[b]? = some (.cells cells t (0, 0))) (hv : cells[j]? = some v) : w.cell? ⟨b, j, none⟩ = some v := by
  simp [World.cell?, h, hv]
def upd {α : Type} (f : Nat → α) (i : Nat) (x : α) : Nat → α := fun j => if j = i then x else f j

/-- A watch: p its block, g that of its waits, n tasks; c picks, L the longest waits, o and f the tasks' waits. -/
structure Wt (w : World) (p g n cap : Nat) (c : Int) (L o f : Nat → Int) : Prop where
  head : w.heap[p]? = some (.cells #[.int .i64 c, .slice (some ⟨g, 0, none⟩) n cap, .int .i64 (L 0), .int .i64 (L 1), .int .i64 (L 2), .int .i64 (L 3)] 111 (0, 0))
  row : ∃ cells : Array Value, w.heap[g]? = some (.cells cells 114 (0, 0)) ∧ ∀ i, i < n → cells[i * 2]? = some (.int .i64 (o i)) ∧ cells[i * 2 + 1]? = some (.int .i64 (f i))
variable {w w1 : World} {p g n cap : Nat} {c : Int} {L o f : Nat → Int}
theorem Wt.ne (h : Wt w p g n cap c L o f) : p ≠ g := by
  obtain ⟨cells, hc, _⟩ := h.row
  exact blk_ne h.head hc (by decide)
theorem Wt.of_blocks (h : Wt w p g n cap c L o f) (h1 : w1.heap[p]? = w.heap[p]?) (h2 : w1.heap[g]? = w.heap[g]?) : Wt w1 p g n cap c L o f := by
  refine ⟨h1.trans h.head, ?_⟩
  obtain ⟨cells, hc, hr⟩ := h.row
  exact ⟨cells, h2.trans hc, hr⟩
theorem Wt.lt (h : Wt w p g n cap c L o f) : p < w.heap.size ∧ g < w.heap.size := by
  obtain ⟨cells, hc, _⟩ := h.row
  exact ⟨blk_lt h.head, blk_lt hc⟩
theorem Wt.grown (h : Wt w p g n cap c L o f) (hb : Below w.heap.size w w1) : Wt w1 p g n cap c L o f := h.of_blocks (hb.block p h.lt.1) (hb.block g h.lt.2)
theorem Wt.drew (h : Wt w p g n cap c L o f) : Wt w.drew p g n cap c L o f := h.of_blocks rfl rfl
theorem Wt.cnt (h : Wt w p g n cap c L o f) : w.cell? ⟨p, 0, none⟩ = some (.int .i64 c) := cell_of_heap h.head rfl
theorem Wt.sl (h : Wt w p g n cap c L o f) : w.cell? ⟨p, 1, none⟩ = some (.slice (some ⟨g, 0, none⟩) n cap) := cell_of_heap h.head rfl
theorem Wt.long (h : Wt w p g n cap c L o f) (q : Nat) (hq : q < 4) : w.cell? ⟨p, 2 + q, none⟩ = some (.int .i64 (L q)) := by
  match q, hq with
  | 0, _ => exact cell_of_heap h.head rfl
  | 1, _ => exact cell_of_heap h.head rfl
  | 2, _ => exact cell_of_heap h.head rfl
  | 3, _ => exact cell_of_heap h.head rfl
theorem Wt.opc (h : Wt w p g n cap c L o f) (i : Nat) (hi : i < n) : w.cell? ⟨g, i * 2, none⟩ = some (.int .i64 (o i)) := by
  obtain ⟨cells, hc, hr⟩ := h.row
  exact cell_of_heap hc (hr i hi).1
theorem Wt.fromc (h : Wt w p g n cap c L o f) (i : Nat) (hi : i < n) : w.cell? ⟨g, i * 2 + 1, none⟩ = some (.int .i64 (f i)) := by
  obtain ⟨cells, hc, hr⟩ := h.row
  exact cell_of_heap hc (hr i hi).2
theorem Wt.frozen (h : Wt w p g n cap c L o f) (j : Nat) : w.frozen? ⟨p, j, none⟩ = false ∧ w.frozen? ⟨g, j, none⟩ = false := by
  obtain ⟨cells, hc, hr⟩ := h.row
  exact ⟨blk_frozen h.head j, blk_frozen hc j⟩
theorem Wt.congr {L' o' f' : Nat → Int} (h : Wt w p g n cap c L o f) (hL : ∀ q, q < 4 → L' q = L q) (ho : ∀ i, i < n → o' i = o i) (hf : ∀ i, i < n → f' i = f i) : Wt w p g n cap c L' o' f' := by
  refine ⟨?_, ?_⟩
  · rw [hL 0 (by omega), hL 1 (by omega), hL 2 (by omega), hL 3 (by omega)]
    exact h.head
  · obtain ⟨cells, hc, hr⟩ := h.row
    exact ⟨cells, hc, fun i hi => by rw [ho i hi, hf i hi]; exact hr i hi⟩

/-- Only the watch, and new memory. -/
structure But2 (p g : Nat) (w w1 : World) : Prop where
  os : w1.os = w.os
  tape : w1.tape = w.tape
  output : w1.output = w.output
  size : w.heap.size ≤ w1.heap.size
  block : ∀ k, k < w.heap.size → k ≠ p → k ≠ g → w1.heap[k]? = w.heap[k]?
theorem But2.trans {w2 : World} (h : But2 p g w w1) (k : But2 p g w1 w2) : But2 p g w w2 :=
  ⟨k.os.trans h.os, k.tape.trans h.tape, k.output.trans h.output, Nat.le_trans h.size k.size, fun b hb h1 h2 => (k.block b (Nat.lt_of_lt_of_le hb h.size) h1 h2).trans (h.block b hb h1 h2)⟩
theorem But2.of_below (h : Below w.heap.size w w1) : But2 p g w w1 := ⟨h.os, h.tape, h.output, h.size, fun b hb _ _ => h.block b hb⟩
theorem But2.set (w : World) (a : Addr) (ha : a.block = p ∨ a.block = g) (v : Value) : But2 p g w (w.setCell a v) :=
  ⟨rfl, rfl, rfl, by simp [World.setCell], fun b _ h1 h2 => Below.heap_setCell w a v b (by rcases ha with e | e <;> rw [e] <;> assumption)⟩
theorem But2.below {w0 : World} {B : Nat} (h : But2 p g w w1) (hp : B ≤ p) (hg : B ≤ g) (hB : Below B w0 w) (hs : B ≤ w.heap.size) : Below B w0 w1 :=
  ⟨h.os.trans hB.os, h.tape.trans hB.tape, h.output.trans hB.output, Nat.le_trans hB.size h.size, fun b hb => (h.block b (Nat.lt_of_lt_of_le hb hs) (by omega) (by omega)).trans (hB.block b hb)⟩

/-- How long a task has waited. -/
def waitv (c : Int) (o f : Nat → Int) (n : Nat) (t : Int) : Int := if 0 ≤ t ∧ t < n ∧ o t.toNat ≠ 0 then wrap64 (c - f t.toNat) else 0

set_option linter.unusedSimpArgs false
set_option maxRecDepth 100000

theorem count_nil (w : World) : Calls Try.prog 49 #[.pointer none] w fun e w' => e = .returned (.int .i64 0) ∧ Below w.heap.size w w' := by
  go_enter Try.func49, Try.ntmps49
  go_wp2
  go_ret
  exact ⟨rfl, Below.refl _ _⟩
theorem waiting_nil (t : Int) (w : World) : Calls Try.prog 51 #[.pointer none, .int .i64 t] w fun e w' => e = .returned (.int .i64 0) ∧ Below w.heap.size w w' := by
  go_enter Try.func51, Try.ntmps51
  go_wp2
  go_ret
  exact ⟨rfl, Below.refl _ _⟩
theorem longest_nil (t : Int) (w : World) : Calls Try.prog 50 #[.pointer none, .int .i64 t] w fun e w' => e = .returned (.int .i64 0) ∧ Below w.heap.size w w' := by
  go_enter Try.func50, Try.ntmps50
  go_wp2
  go_ret
  exact ⟨rfl, Below.refl _ _⟩
theorem count_walk (h : Wt w p g n cap c L o f) : Calls Try.prog 49 #[.pointer (some ⟨p, 0, none⟩)] w fun e w' => e = .returned (.int .i64 c) ∧ Below w.heap.size w w' := by
  have hc := h.cnt
  go_enter Try.func49, Try.ntmps49
  go_wp2
  go_ret
  exact ⟨rfl, Below.refl _ _⟩

set_option maxHeartbeats 2000000 in
theorem waiting_walk (h : Wt w p g n cap c L o f) (t : Int) : Calls Try.prog 51 #[.pointer (some ⟨p, 0, none⟩), .int .i64 t] w fun e w' => e = .returned (.int .i64 (waitv c o f n t)) ∧ Below w.heap.size w w' := by
  have hc0 := h.cnt
  have hc1 := h.sl
  by_cases ht : 0 ≤ t ∧ t < n
  · obtain ⟨i, rfl⟩ := Int.eq_ofNat_of_zero_le ht.1
    have hi : i < n := by omega
    have hop := h.opc i hi
    have hf := h.fromc i hi
    replace h := Lib.hid h
    by_cases h0 : o i = 0
    · rw [h0] at hop
      have hv : waitv c o f n (i : Int) = 0 := if_neg (by intro k; exact k.2.2 (by simpa using h0))
      replace h0 := Lib.hid h0
      rw [hv]
      go_enter Try.func51, Try.ntmps51
      go_wp2
      go_ret
      exact ⟨rfl, Below.refl _ _⟩
    · have hv : waitv c o f n (i : Int) = wrap64 (c - f i) := if_pos ⟨ht.1, ht.2, by simpa using h0⟩
      have h0b : (o i == 0) = false := by simpa using h0
      rw [hv]
      go_enter Try.func51, Try.ntmps51
      go_upto_region 3 with (fail)
      refine start_ (n := 14) (S := fun w' => w'.cell? ⟨p, 0, none⟩ = some (.int .i64 c) ∧ w'.cell? ⟨p, 1, none⟩ = some (.slice (some ⟨g, 0, none⟩) n cap) ∧ w'.cell? ⟨g, i * 2 + 1, none⟩ = some (.int .i64 (f i))) (ds := []) #[false, false, false, false, false, false, false, false, false, false, false, false, false, false] (by kernel_rfl) rfl rfl ⟨hc0, hc1, hf⟩ (fun hHeld => ?_)
      refine pure_ (i := 0) (N := some 31) (v := ?_) (a' := ?_) #[true, false, false, false, false, false, false, false, false, false, false, false, false, false] rfl rfl (by kernel_rfl) (fun _ _ _ h => h) (Or.inl ⟨by rfl, ?_⟩) ?_ ?_
      rotate_left
      · intro w'
        go_simp
        with_reducible rfl
      rotate_left
      · simp only [Act.put, List.setIfInBounds_toArray, List.set_cons_zero, List.set_cons_succ, i64_w, i32_w]
        rfl
      refine pure_ (i := 1) (N := some 32) (v := ?_) (a' := ?_) #[true, true, false, false, false, false, false, false, false, false, false, false, false, false] rfl rfl (by kernel_rfl) (fun _ _ _ h => h) (Or.inl ⟨by rfl, ?_⟩) ?_ ?_
      rotate_left
      · intro w'
        go_simp
        with_reducible rfl
      rotate_left
      · simp only [Act.put, List.setIfInBounds_toArray, List.set_cons_zero, List.set_cons_succ, i64_w, i32_w]
        rfl
      refine pure_ (i := 2) (N := some 33) (v := ?_) (a' := ?_) #[true, true, true, false, false, false, false, false, false, false, false, false, false, false] rfl rfl (by kernel_rfl) (fun _ _ _ h => h) (Or.inl ⟨by rfl, ?_⟩) ?_ ?_
      rotate_left
      · intro w'
        go_simp
        with_reducible rfl
      rotate_left
      · simp only [Act.put, List.setIfInBounds_toArray, List.set_cons_zero, List.set_cons_succ, i64_w, i32_w]
        rfl
      refine pure_ (i := 4) (N := some 35) (v := ?_) (a' := ?_) #[true, true, true, false, true, false, false, false, false, false, false, false, false, false] rfl rfl (by kernel_rfl) (fun _ _ _ h => h) (Or.inl ⟨by rfl, ?_⟩) ?_ ?_
      rotate_left
      · intro w'
        go_simp
        with_reducible rfl
      rotate_left
      · simp only [Act.put, List.setIfInBounds_toArray, List.set_cons_zero, List.set_cons_succ, i64_w, i32_w]
        rfl
      refine pure_ (i := 5) (N := some 36) (v := ?_) (a' := ?_) #[true, true, true, false, true, true, false, false, false, false, false, false, false, false] rfl rfl (by kernel_rfl) (fun _ _ _ h => h) (Or.inl ⟨by rfl, ?_⟩) ?_ ?_
      rotate_left
      · intro w'
        go_simp
        with_reducible rfl
      rotate_left
      · simp only [Act.put, List.setIfInBounds_toArray, List.set_cons_zero, List.set_cons_succ, i64_w, i32_w]
        rfl
      refine pure_ (i := 6) (N := some 37) (v := ?_) (a' := ?_) #[true, true, true, false, true, true, true, false, false, false, false, false, false, false] rfl rfl (by kernel_rfl) (fun _ _ _ h => h) (Or.inl ⟨by rfl, ?_⟩) ?_ ?_
      rotate_left
      · intro w'
        go_simp
        with_reducible rfl
      rotate_left
      · simp only [Act.put, List.setIfInBounds_toArray, List.set_cons_zero, List.set_cons_succ, i64_w, i32_w]
        rfl
      refine pure_ (i := 8) (N := some 39) (v := ?_) (a' := ?_) #[true, true, true, false, true, true, true, false, true, false, false, false, false, false] rfl rfl (by kernel_rfl) (fun _ _ _ h => h) (Or.inl ⟨by rfl, ?_⟩) ?_ ?_
      rotate_left
      · intro w'
        go_simp
        with_reducible rfl
      rotate_left
      · simp only [Act.put, List.setIfInBounds_toArray, List.set_cons_zero, List.set_cons_succ, i64_w, i32_w]
        rfl
      refine take_ (i := 3) (N := some 34) (v := ?_) (a' := ?_) #[true, true, true, true, true, true, true, false, true, false, false, false, false, false] rfl rfl (by kernel_rfl) (fun _ _ _ h => h) (Or.inl ⟨by rfl, ?_⟩) hHeld ?_ ?_
      rotate_left
      · rintro w' ⟨s0, s1, s2⟩
        go_simp
        with_reducible rfl
      rotate_left
      · simp only [Act.put, List.setIfInBounds_toArray, List.set_cons_zero, List.set_cons_succ, i64_w, i32_w]
        rfl
      refine take_ (i := 7) (N := some 38) (v := ?_) (a' := ?_) #[true, true, true, true, true, true, true, true, true, false, false, false, false, false] rfl rfl (by kernel_rfl) (fun _ _ _ h => h) (Or.inl ⟨by rfl, ?_⟩) hHeld ?_ ?_
      rotate_left
      · rintro w' ⟨s0, s1, s2⟩
        go_simp
        with_reducible rfl
      rotate_left
      · simp only [Act.put, List.setIfInBounds_toArray, List.set_cons_zero, List.set_cons_succ, i64_w, i32_w]
        rfl
      refine pure_ (i := 9) (N := some 40) (v := ?_) (a' := ?_) #[true, true, true, true, true, true, true, true, true, true, false, false, false, false] rfl rfl (by kernel_rfl) (fun _ _ _ h => h) (Or.inl ⟨by rfl, ?_⟩) ?_ ?_
      rotate_left
      · intro w'
        go_simp
        with_reducible rfl
      rotate_left
      · simp only [Act.put, List.setIfInBounds_toArray, List.set_cons_zero, List.set_cons_succ, i64_w, i32_w]
        rfl
      refine pure_ (i := 10) (N := some 41) (v := ?_) (a' := ?_) #[true, true, true, true, true, true, true, true, true, true, true, false, false, false] rfl rfl (by kernel_rfl) (fun _ _ _ h => h) (Or.inl ⟨by rfl, ?_⟩) ?_ ?_
      rotate_left
      · intro w'
        go_simp
        with_reducible rfl
      rotate_left
      · simp only [Act.put, List.setIfInBounds_toArray, List.set_cons_zero, List.set_cons_succ, i64_w, i32_w]
        rfl
      refine take_ (i := 11) (N := some 42) (v := ?_) (a' := ?_) #[true, true, true, true, true, true, true, true, true, true, true, true, false, false] rfl rfl (by kernel_rfl) (fun _ _ _ h => h) (Or.inl ⟨by rfl, ?_⟩) hHeld ?_ ?_
      rotate_left
      · rintro w' ⟨s0, s1, s2⟩
        go_simp
        with_reducible rfl
      rotate_left
      · simp only [Act.put, List.setIfInBounds_toArray, List.set_cons_zero, List.set_cons_succ, i64_w, i32_w]
        rfl
      refine pure_ (i := 12) (N := some 43) (v := ?_) (a' := ?_) #[true, true, true, true, true, true, true, true, true, true, true, true, true, false] rfl rfl (by kernel_rfl) (fun _ _ _ h => h) (Or.inl ⟨by rfl, ?_⟩) ?_ ?_
      rotate_left
      · intro w'
        go_simp
        with_reducible rfl
      rotate_left
      · simp only [Act.put, List.setIfInBounds_toArray, List.set_cons_zero, List.set_cons_succ, i64_w, i32_w]
        rfl
      refine pure_ (i := 13) (N := some 4) (v := ?_) (a' := ?_) #[true, true, true, true, true, true, true, true, true, true, true, true, true, true] rfl rfl (by kernel_rfl) (fun _ _ _ h => h) (Or.inl ⟨by rfl, ?_⟩) ?_ ?_
      rotate_left
      · intro w'
        go_simp
        with_reducible rfl
      rotate_left
      · simp only [Act.put, List.setIfInBounds_toArray, List.set_cons_zero, List.set_cons_succ, i64_w, i32_w]
        rfl
      refine done_ (by kernel_rfl) ?_

      go_wp2
      go_ret
      exact ⟨rfl, below_drew (Below.refl _ _)⟩
  · have hv : waitv c o f n t = 0 := if_neg (fun k => ht ⟨k.1, k.2.1⟩)
    rw [hv]
    replace h := Lib.hid h
    by_cases h0 : t < 0
    · go_enter Try.func51, Try.ntmps51
      go_wp2
      go_ret
      exact ⟨rfl, Below.refl _ _⟩
    · have h1 : t ≥ (n : Int) := by omega
      go_enter Try.func51, Try.ntmps51
      go_wp2
      go_ret
      exact ⟨rfl, Below.refl _ _⟩

theorem great_f (a x : Int) : bound_greatest_int.f 2 a [x] = some (mx a x) := by
  show (if (0 : Int) < (([x] : List Int).length : Int) then (if 0 ≤ (0 : Int) then (if (0 : Int) < (([x] : List Int).length : Int) then (bound_greatest_int.l0 1 (mx a (rd [x] 0)) [x] (([x] : List Int).length : Int) (wrap64 (0 + 1))) else (none)) else (none)) else (some a)) = _
  rw [if_pos (by simp), if_pos (by simp), if_pos (by simp)]
  have hw : wrap64 (0 + 1) = 1 := by unfold wrap64; omega
  rw [hw]
  show (if (1 : Int) < (([x] : List Int).length : Int) then _ else some (mx a (rd [x] 0))) = _
  rw [if_neg (by simp)]
  rfl
theorem one_C {b : Nat} {x : Int} (h : w.heap[b]? = some (.cells #[.int .i64 x] 3 (0, 0))) : Kd.C (Kd.int .i64) w (some ⟨b, 0, none⟩) [x].length [x] := by
  refine ⟨rfl, by simp, fun _ => ⟨_, rfl, fun j y hj => ?_⟩⟩
  match j, hj with
  | 0, hj =>
    cases hj
    refine ⟨[.int .i64 x], rfl, rfl, fun i u hu => ?_⟩
    match i, hu with
    | 0, hu => cases hu; exact cell_of_heap h rfl
theorem great_walk (a x : Int) {b : Nat} (h : w.heap[b]? = some (.cells #[.int .i64 x] 3 (0, 0))) : Calls Try.prog 71 #[.int .i64 a, .slice (some ⟨b, 0, none⟩) 1 1] w fun e w' => e = .returned (.int .i64 (mx a x)) ∧ Below w.heap.size w w' :=
  bound_greatest_int.calls 2 a (some ⟨b, 0, none⟩) 1 [x] (mx a x) w (one_C h) (by simp) (great_f a x)

/-! ### Writing -/
theorem store_run {P : Program} {oi : Oper} {a : Act} {t : TypeId} {x y : Operand} {pv xv : Value} (hop : oi.op = .store t x y) (hp : a.eval x = pv) (hx : a.eval y = xv) (h : (Instr.storeAt t pv xv).run P w = .ok () w1) : (execOp a.eval oi).run P w = .ok .skip w1 := by
  unfold execOp
  simp [hop, hp, hx, h]
theorem upd_run {P : Program} {oi : Oper} {a : Act} {t : TypeId} {m k v : Operand} {pm pk pv : Value} (hop : oi.op = .mapUpdate t m k v) (h1 : a.eval m = pm) (h2 : a.eval k = pk) (h3 : a.eval v = pv) (h : (Instr.mapUpdate t pm pk pv).run P w = .ok () w1) : (execOp a.eval oi).run P w = .ok .skip w1 := by
  unfold execOp
  simp [hop, h1, h2, h3, h]
theorem wp_store {P : Program} {oi : Oper} {a : Act} {t : TypeId} {ops : Array Oper} {rest : List Oper} {Q : Exit → Act → World → Prop} (hN : oi.dst = none) (hg : oi.guard = none) {p x : Operand} {pv xv : Value} (hop : oi.op = .store t p x) (hp : a.eval p = pv) (hx : a.eval x = xv) (hrun : (Instr.storeAt t pv xv).run P w = .ok () w1)
    (h : wpList P ops Q rest a w1) : wpList P ops Q (oi :: rest) a w := by
  refine wpList_plain hg fun K hK => ?_
  unfold Oper.wp
  rw [store_run hop hp hx hrun]
  show K (a.put oi.dst undef) w1
  rw [hN]
  exact hK _ _ h
theorem sizeInt : (Try.prog.info? 3).map (·.size) = some 1 := by kernel_rfl
theorem sizeWait : (Try.prog.info? 114).map (·.size) = some 2 := by kernel_rfl
theorem Wt.store_long (h : Wt w p g n cap c L o f) (q : Nat) (hq : q < 4) (x : Int) : (Instr.storeAt 3 (.pointer (some ⟨p, 2 + q, none⟩)) (.int .i64 x)).run Try.prog w = .ok () (w.setCell ⟨p, 2 + q, none⟩ (.int .i64 x)) :=
  run_store_run 3 (.int .i64 x) [.int .i64 x] h.head rfl sizeInt (by simp; omega) (fun v hv => by cases List.mem_singleton.1 hv; rfl)
theorem Wt.set_long (h : Wt w p g n cap c L o f) (q : Nat) (hq : q < 4) (x : Int) : Wt (w.setCell ⟨p, 2 + q, none⟩ (.int .i64 x)) p g n cap c (upd L q x) o f ∧ But2 p g w (w.setCell ⟨p, 2 + q, none⟩ (.int .i64 x)) := by
  refine ⟨⟨?_, ?_⟩, But2.set w ⟨p, 2 + q, none⟩ (.inl rfl) _⟩
  · rw [blk_set h.head]
    match q, hq with
    | 0, _ => rfl
    | 1, _ => rfl
    | 2, _ => rfl
    | 3, _ => rfl
  · obtain ⟨cells, hc, hr⟩ := h.row
    exact ⟨cells, blk_far hc (Ne.symm h.ne) _, hr⟩
theorem Wt.set_cnt (h : Wt w p g n cap c L o f) (x : Int) : Wt (w.setCell ⟨p, 0, none⟩ (.int .i64 x)) p g n cap x L o f ∧ But2 p g w (w.setCell ⟨p, 0, none⟩ (.int .i64 x)) := by
  refine ⟨⟨?_, ?_⟩, But2.set w ⟨p, 0, none⟩ (.inl rfl) _⟩
  · rw [blk_set h.head]
    rfl
  · obtain ⟨cells, hc, hr⟩ := h.row
    exact ⟨cells, blk_far hc (Ne.symm h.ne) _, hr⟩
theorem Wt.set_wait (h : Wt w p g n cap c L o f) (i : Nat) (hi : i < n) (x y : Int) : (Instr.storeAt 114 (.pointer (some ⟨g, i * 2, none⟩)) (.agg #[.int .i64 x, .int .i64 y])).run Try.prog w = .ok () (w.setCells g (i * 2) [.int .i64 x, .int .i64 y]) ∧
    Wt (w.setCells g (i * 2) [.int .i64 x, .int .i64 y]) p g n cap c L (upd o i x) (upd f i y) ∧ But2 p g w (w.setCells g (i * 2) [.int .i64 x, .int .i64 y]) := by
  obtain ⟨cells, hc, hr⟩ := h.row
  have hsz : i * 2 + 2 ≤ cells.size := by
    have := (Array.getElem?_eq_some_iff.1 (hr i hi).2).1
    omega
  have e : w.setCells g (i * 2) [.int .i64 x, .int .i64 y] = (w.setCell ⟨g, i * 2, none⟩ (.int .i64 x)).setCell ⟨g, i * 2 + 1, none⟩ (.int .i64 y) := rfl
  refine ⟨run_store_run 114 _ [.int .i64 x, .int .i64 y] hc rfl sizeWait hsz (fun v hv => by simp at hv; rcases hv with rfl | rfl <;> rfl), ?_, ?_⟩
  · rw [e]
    refine ⟨(blk_far (blk_far h.head h.ne _) h.ne _), _, blk_set (blk_set hc _ _) _ _, fun j hj => ?_⟩
    by_cases hij : j = i
    · subst hij
      constructor
      · rw [Array.getElem?_setIfInBounds_ne (by omega), Array.getElem?_setIfInBounds_self_of_lt (by omega)]
        simp [upd]
      · rw [Array.getElem?_setIfInBounds_self_of_lt (by simp; omega)]
        simp [upd]
    · constructor
      · rw [Array.getElem?_setIfInBounds_ne (by omega), Array.getElem?_setIfInBounds_ne (by omega)]
        simp only [upd, if_neg hij]
        exact (hr j hj).1
      · rw [Array.getElem?_setIfInBounds_ne (by omega), Array.getElem?_setIfInBounds_ne (by omega)]
        simp only [upd, if_neg hij]
        exact (hr j hj).2
  · rw [e]
    exact (But2.set w ⟨g, i * 2, none⟩ (.inr rfl) _).trans (But2.set _ ⟨g, i * 2 + 1, none⟩ (.inr rfl) _)

/-- A wait's end. -/
def endL (c : Int) (L o f : Nat → Int) (n i : Nat) : Nat → Int := upd L (o i).toNat (mx (L (o i).toNat) (waitv c o f n (i : Int)))
set_option maxHeartbeats 4000000 in
theorem end_walk (h : Wt w p g n cap c L o f) (i : Nat) (hi : i < n) (h0 : 0 ≤ o i) (h4 : o i < 4) : Calls Try.prog 72 #[.pointer (some ⟨p, 0, none⟩), .int .i64 (i : Int)] w fun e w' => e = .returned (.tuple #[]) ∧ Wt w' p g n cap c (endL c L o f n i) (upd o i 0) (upd f i 0) ∧ But2 p g w w' := by
  obtain ⟨q, hq⟩ := Int.eq_ofNat_of_zero_le h0
  have hq4 : q < 4 := by omega
  have hq4i : (q : Int) < 4 := by omega
  have hL : endL c L o f n i = upd L q (mx (L q) (waitv c o f n (i : Int))) := by unfold endL; rw [hq, Int.toNat_natCast]
  rw [hL]
  have hc1 := h.sl
  have hz := h.drew
  replace h := Lib.hid h
  replace hL := Lib.hid hL
  replace hq := Lib.hid hq
  clear h0 h4
  go_enter Try.func72, Try.ntmps72
  go_upto_region 1 with (fail)
  refine start_ (n := 23) (S := fun w' => w'.cell? ⟨g, i * 2, none⟩ = some (.int .i64 (q : Int)) ∧ w'.cell? ⟨p, 2 + q, none⟩ = some (.int .i64 (L q))) (ds := [22]) #[false, false, false, false, false, false, false, false, false, false, false, false, false, false, false, false, false, false, false, false, false, false, false] (by kernel_rfl) rfl rfl ⟨((hz).opc i hi).trans (by rw [hq]), (hz).long q hq4⟩ (fun hHeld => ?_)
  refine pure_ (i := 0) (N := some 11) (v := ?_) (a' := ?_) #[true, false, false, false, false, false, false, false, false, false, false, false, false, false, false, false, false, false, false, false, false, false, false] rfl rfl (by kernel_rfl) (fun _ _ _ h => h) (Or.inl ⟨by rfl, ?_⟩) ?_ ?_
  rotate_left
  · intro w'
    go_simp
    with_reducible rfl
  rotate_left
  · simp only [Act.put, List.setIfInBounds_toArray, List.set_cons_zero, List.set_cons_succ, i64_w, i32_w]
    rfl
  refine pure_ (i := 1) (N := some 12) (v := ?_) (a' := ?_) #[true, true, false, false, false, false, false, false, false, false, false, false, false, false, false, false, false, false, false, false, false, false, false] rfl rfl (by kernel_rfl) (fun _ _ _ h => h) (Or.inl ⟨by rfl, ?_⟩) ?_ ?_
  rotate_left
  · intro w'
    go_simp
    with_reducible rfl
  rotate_left
  · simp only [Act.put, List.setIfInBounds_toArray, List.set_cons_zero, List.set_cons_succ, i64_w, i32_w]
    rfl
  refine pure_ (i := 2) (N := some 13) (v := ?_) (a' := ?_) #[true, true, true, false, false, false, false, false, false, false, false, false, false, false, false, false, false, false, false, false, false, false, false] rfl rfl (by kernel_rfl) (fun _ _ _ h => h) (Or.inl ⟨by rfl, ?_⟩) ?_ ?_
  rotate_left
  · intro w'
    go_simp
    with_reducible rfl
  rotate_left
  · simp only [Act.put, List.setIfInBounds_toArray, List.set_cons_zero, List.set_cons_succ, i64_w, i32_w]
    rfl
  refine pure_ (i := 3) (N := some 14) (v := ?_) (a' := ?_) #[true, true, true, true, false, false, false, false, false, false, false, false, false, false, false, false, false, false, false, false, false, false, false] rfl rfl (by kernel_rfl) (fun _ _ _ h => h) (Or.inl ⟨by rfl, ?_⟩) ?_ ?_
  rotate_left
  · intro w'
    go_simp
    with_reducible rfl
  rotate_left
  · simp only [Act.put, List.setIfInBounds_toArray, List.set_cons_zero, List.set_cons_succ, i64_w, i32_w]
    rfl
  refine pure_ (i := 5) (N := some 16) (v := ?_) (a' := ?_) #[true, true, true, true, false, true, false, false, false, false, false, false, false, false, false, false, false, false, false, false, false, false, false] rfl rfl (by kernel_rfl) (fun _ _ _ h => h) (Or.inl ⟨by rfl, ?_⟩) ?_ ?_
  rotate_left
  · intro w'
    go_simp
    with_reducible rfl
  rotate_left
  · simp only [Act.put, List.setIfInBounds_toArray, List.set_cons_zero, List.set_cons_succ, i64_w, i32_w]
    rfl
  refine pure_ (i := 6) (N := some 17) (v := ?_) (a' := ?_) #[true, true, true, true, false, true, true, false, false, false, false, false, false, false, false, false, false, false, false, false, false, false, false] rfl rfl (by kernel_rfl) (fun _ _ _ h => h) (Or.inl ⟨by rfl, ?_⟩) ?_ ?_
  rotate_left
  · intro w'
    go_simp
    with_reducible rfl
  rotate_left
  · simp only [Act.put, List.setIfInBounds_toArray, List.set_cons_zero, List.set_cons_succ, i64_w, i32_w]
    rfl
  refine pure_ (i := 7) (N := some 18) (v := ?_) (a' := ?_) #[true, true, true, true, false, true, true, true, false, false, false, false, false, false, false, false, false, false, false, false, false, false, false] rfl rfl (by kernel_rfl) (fun _ _ _ h => h) (Or.inl ⟨by rfl, ?_⟩) ?_ ?_
  rotate_left
  · intro w'
    go_simp
    with_reducible rfl
  rotate_left
  · simp only [Act.put, List.setIfInBounds_toArray, List.set_cons_zero, List.set_cons_succ, i64_w, i32_w]
    rfl
  refine pure_ (i := 8) (N := some 19) (v := ?_) (a' := ?_) #[true, true, true, true, false, true, true, true, true, false, false, false, false, false, false, false, false, false, false, false, false, false, false] rfl rfl (by kernel_rfl) (fun _ _ _ h => h) (Or.inl ⟨by rfl, ?_⟩) ?_ ?_
  rotate_left
  · intro w'
    go_simp
    with_reducible rfl
  rotate_left
  · simp only [Act.put, List.setIfInBounds_toArray, List.set_cons_zero, List.set_cons_succ, i64_w, i32_w]
    rfl
  refine pure_ (i := 10) (N := some 21) (v := ?_) (a' := ?_) #[true, true, true, true, false, true, true, true, true, false, true, false, false, false, false, false, false, false, false, false, false, false, false] rfl rfl (by kernel_rfl) (fun _ _ _ h => h) (Or.inl ⟨by rfl, ?_⟩) ?_ ?_
  rotate_left
  · intro w'
    go_simp
    with_reducible rfl
  rotate_left
  · simp only [Act.put, List.setIfInBounds_toArray, List.set_cons_zero, List.set_cons_succ, i64_w, i32_w]
    rfl
  refine pure_ (i := 11) (N := some 22) (v := ?_) (a' := ?_) #[true, true, true, true, false, true, true, true, true, false, true, true, false, false, false, false, false, false, false, false, false, false, false] rfl rfl (by kernel_rfl) (fun _ _ _ h => h) (Or.inl ⟨by rfl, ?_⟩) ?_ ?_
  rotate_left
  · intro w'
    go_simp
    with_reducible rfl
  rotate_left
  · simp only [Act.put, List.setIfInBounds_toArray, List.set_cons_zero, List.set_cons_succ, i64_w, i32_w]
    rfl
  refine pure_ (i := 14) (N := some 25) (v := ?_) (a' := ?_) #[true, true, true, true, false, true, true, true, true, false, true, true, false, false, true, false, false, false, false, false, false, false, false] rfl rfl (by kernel_rfl) (fun _ _ _ h => h) (Or.inl ⟨by rfl, ?_⟩) ?_ ?_
  rotate_left
  · intro w'
    go_simp
    with_reducible rfl
  rotate_left
  · simp only [Act.put, List.setIfInBounds_toArray, List.set_cons_zero, List.set_cons_succ, i64_w, i32_w]
    rfl
  refine pure_ (i := 15) (N := some 26) (v := ?_) (a' := ?_) #[true, true, true, true, false, true, true, true, true, false, true, true, false, false, true, true, false, false, false, false, false, false, false] rfl rfl (by kernel_rfl) (fun _ _ _ h => h) (Or.inl ⟨by rfl, ?_⟩) ?_ ?_
  rotate_left
  · intro w'
    go_simp
    with_reducible rfl
  rotate_left
  · simp only [Act.put, List.setIfInBounds_toArray, List.set_cons_zero, List.set_cons_succ, i64_w, i32_w]
    rfl
  refine pure_ (i := 19) (N := some 30) (v := ?_) (a' := ?_) #[true, true, true, true, false, true, true, true, true, false, true, true, false, false, true, true, false, false, false, true, false, false, false] rfl rfl (by kernel_rfl) (fun _ _ _ h => h) (Or.inl ⟨by rfl, ?_⟩) ?_ ?_
  rotate_left
  · intro w'
    go_simp
    with_reducible rfl
  rotate_left
  · simp only [Act.put, List.setIfInBounds_toArray, List.set_cons_zero, List.set_cons_succ, i64_w, i32_w]
    rfl
  refine pure_ (i := 20) (N := some 31) (v := ?_) (a' := ?_) #[true, true, true, true, false, true, true, true, true, false, true, true, false, false, true, true, false, false, false, true, true, false, false] rfl rfl (by kernel_rfl) (fun _ _ _ h => h) (Or.inl ⟨by rfl, ?_⟩) ?_ ?_
  rotate_left
  · intro w'
    go_simp
    with_reducible rfl
  rotate_left
  · simp only [Act.put, List.setIfInBounds_toArray, List.set_cons_zero, List.set_cons_succ, i64_w, i32_w]
    rfl
  refine take_ (i := 4) (N := some 15) (v := ?_) (a' := ?_) #[true, true, true, true, true, true, true, true, true, false, true, true, false, false, true, true, false, false, false, true, true, false, false] rfl rfl (by kernel_rfl) (fun _ _ _ h => h) (Or.inl ⟨by rfl, ?_⟩) hHeld ?_ ?_
  rotate_left
  · rintro w' ⟨s0, s1⟩
    go_simp
    with_reducible rfl
  rotate_left
  · simp only [Act.put, List.setIfInBounds_toArray, List.set_cons_zero, List.set_cons_succ, i64_w, i32_w]
    rfl
  refine take_ (i := 9) (N := some 20) (v := ?_) (a' := ?_) #[true, true, true, true, true, true, true, true, true, true, true, true, false, false, true, true, false, false, false, true, true, false, false] rfl rfl (by kernel_rfl) (fun _ _ _ h => h) (Or.inl ⟨by rfl, ?_⟩) hHeld ?_ ?_
  rotate_left
  · rintro w' ⟨s0, s1⟩
    go_simp
    with_reducible rfl
  rotate_left
  · simp only [Act.put, List.setIfInBounds_toArray, List.set_cons_zero, List.set_cons_succ, i64_w, i32_w]
    rfl
  refine pure_ (i := 12) (N := some 23) (v := ?_) (a' := ?_) #[true, true, true, true, true, true, true, true, true, true, true, true, true, false, true, true, false, false, false, true, true, false, false] rfl rfl (by kernel_rfl) (fun _ _ _ h => h) (Or.inl ⟨by rfl, ?_⟩) ?_ ?_
  rotate_left
  · intro w'
    go_simp
    with_reducible rfl
  rotate_left
  · simp only [Act.put, List.setIfInBounds_toArray, List.set_cons_zero, List.set_cons_succ, i64_w, i32_w]
    rfl
  refine take_ (i := 13) (N := some 24) (v := ?_) (a' := ?_) #[true, true, true, true, true, true, true, true, true, true, true, true, true, true, true, true, false, false, false, true, true, false, false] rfl rfl (by kernel_rfl) (fun _ _ _ h => h) (Or.inl ⟨by rfl, ?_⟩) hHeld ?_ ?_
  rotate_left
  · rintro w' ⟨s0, s1⟩
    go_simp
    with_reducible rfl
  rotate_left
  · simp only [Act.put, List.setIfInBounds_toArray, List.set_cons_zero, List.set_cons_succ, i64_w, i32_w]
    rfl
  refine one_ (i := 16) (N := some 27) #[true, true, true, true, true, true, true, true, true, true, true, true, true, true, true, true, true, false, false, true, true, false, false] rfl rfl (by kernel_rfl) (by decide) (fun K hK => ?_)
  refine goes_ Try.func51 (by kernel_rfl) rfl #[.pointer (some ⟨p, 0, none⟩), .int .i64 (i : Int)] (by rfl) rfl rfl (by simp only [List.map_toArray, List.map_cons, List.map_nil]; rfl) ?_
  with_reducible refine (waiting_walk (hz) (i : Int)).mono ?_
  rintro e w1 ⟨rfl, hb1⟩
  refine ⟨_, rfl, ?_⟩
  have h1 := (hz).grown hb1
  refine hK.out _ _ ⟨(h1.opc i hi).trans (by rw [hq]), h1.long q hq4⟩ (fun hHeld => ?_)
  clear hK K
  refine norm_ (a' := ?_) ?_ ?_
  rotate_left
  · show Act.put _ (some 27) _ = _
    simp only [Act.put, List.setIfInBounds_toArray, List.set_cons_zero, List.set_cons_succ, i64_w, i32_w]
    rfl
  refine one_ (i := 17) (N := some 28) #[true, true, true, true, true, true, true, true, true, true, true, true, true, true, true, true, true, true, false, true, true, false, false] rfl rfl (by kernel_rfl) (by decide) (fun K hK => ?_)
  refine value_ (w1 := ?_) (v := ?_) (by rfl) rfl ?_ ?_
  rotate_left 2
  · go_simp
    constructor
    · rfl
    · rfl
  have h2 := h1.grown (below_alloc (Below.refl _ _) (.cells #[.int .i64 (waitv c o f n (i : Int))] 3))
  have h2n := heap_alloc_new w1 (.cells #[.int .i64 (waitv c o f n (i : Int))] 3)
  refine hK.out _ _ ⟨(h2.opc i hi).trans (by rw [hq]), h2.long q hq4⟩ (fun hHeld => ?_)
  clear hK K
  refine norm_ (a' := ?_) ?_ ?_
  rotate_left
  · show Act.put _ (some 28) _ = _
    simp only [Act.put, List.setIfInBounds_toArray, List.set_cons_zero, List.set_cons_succ, i64_w, i32_w]
    rfl
  refine one_ (i := 18) (N := some 29) #[true, true, true, true, true, true, true, true, true, true, true, true, true, true, true, true, true, true, true, true, true, false, false] rfl rfl (by kernel_rfl) (by decide) (fun K hK => ?_)
  refine goes_ Try.func71 (by kernel_rfl) rfl #[.int .i64 (L q), .slice (some ⟨w1.heap.size, 0, none⟩) 1 1] (by rfl) rfl rfl (by simp only [List.map_toArray, List.map_cons, List.map_nil]; rfl) ?_
  with_reducible refine (great_walk (L q) (waitv c o f n (i : Int)) h2n).mono ?_
  rintro e w3 ⟨rfl, hb3⟩
  refine ⟨_, rfl, ?_⟩
  have h3 := h2.grown hb3
  refine hK.out _ _ ⟨(h3.opc i hi).trans (by rw [hq]), h3.long q hq4⟩ (fun hHeld => ?_)
  clear hK K
  refine norm_ (a' := ?_) ?_ ?_
  rotate_left
  · show Act.put _ (some 29) _ = _
    simp only [Act.put, List.setIfInBounds_toArray, List.set_cons_zero, List.set_cons_succ, i64_w, i32_w]
    rfl
  refine pure_ (i := 21) (N := some 32) (v := ?_) (a' := ?_) #[true, true, true, true, true, true, true, true, true, true, true, true, true, true, true, true, true, true, true, true, true, true, false] rfl rfl (by kernel_rfl) (fun _ _ _ h => h) (Or.inl ⟨by rfl, ?_⟩) ?_ ?_
  rotate_left
  · intro w'
    go_simp
    with_reducible rfl
  rotate_left
  · simp only [Act.put, List.setIfInBounds_toArray, List.set_cons_zero, List.set_cons_succ, i64_w, i32_w]
    rfl
  refine last_ (i := 22) (N := none) #[true, true, true, true, true, true, true, true, true, true, true, true, true, true, true, true, true, true, true, true, true, true, true] rfl rfl (by kernel_rfl) (by decide) (fun K hK => ?_)
  refine skip_ (w1 := w3.setCell ⟨p, 2 + q, none⟩ (.int .i64 (mx (L q) (waitv c o f n (i : Int))))) (by rfl) rfl (store_run rfl rfl rfl (h3.store_long q hq4 _)) ?_
  have h4 := h3.set_long q hq4 (mx (L q) (waitv c o f n (i : Int)))
  refine hK.out _ _ ?_
  clear hK K
  refine done_ (by kernel_rfl) ?_

  obtain ⟨h4a, h4b⟩ := h4
  obtain ⟨hs1, hs2, hs3⟩ := h4a.set_wait i hi 0 0
  have hbut := (((But2.of_below (p := p) (g := g) (below_drew (Below.refl w.heap.size w))).trans (But2.of_below hb1)).trans (But2.of_below (below_alloc (Below.refl _ _) _))).trans ((But2.of_below hb3).trans (h4b.trans hs3))
  obtain ⟨w4, hw4⟩ : ∃ w4, w4 = w3.setCell ⟨p, 2 + q, none⟩ (.int .i64 (mx (L q) (waitv c o f n (i : Int)))) := ⟨_, rfl⟩
  rw [← hw4] at hs1 hs2 hs3 hbut ⊢
  replace hs1 := Lib.hid hs1
  replace hs2 := Lib.hid hs2
  replace hbut := Lib.hid hbut
  clear hs3 h4a h4b h3 h2 h1 hw4 hb1 hb3 h2n hz hc1
  go_wp2_with ((with_reducible refine gate_ (.store 114 (.tmp 35) (.tmp 34)) rfl ?_); go_must (refine wp_store rfl rfl (p := .tmp 35) (x := .tmp 34) (pv := .pointer (some ⟨g, i * 2, none⟩)) (xv := .agg #[.int .i64 0, .int .i64 0]) rfl rfl rfl hs1.out ?_; clear hs1))
  go_end0
  exact ⟨rfl, hs2.out, hbut.out⟩

/-! ### A new watch -/
abbrev k2 : Kd (Int × Int) := Kd.pair (Kd.int .i64) (Kd.int .i64)
theorem k2_M {w : World} {B : Nat} {ok : Nat → Prop} (x : Int × Int) : k2.M w B ok x [.int .i64 x.1, .int .i64 x.2] := ⟨_, _, rfl, rfl, rfl⟩
theorem k2_open {w : World} {B : Nat} {ok : Nat → Prop} {x : Int × Int} {cs : List Value} (h : k2.M w B ok x cs) : cs = [.int .i64 x.1, .int .i64 x.2] := by
  obtain ⟨_, _, rfl, rfl, rfl⟩ := h
  exact rfl
theorem infoWait : (Try.prog.info? 114).map (fun i => (i.zero, i.size, i.bytes)) = some (some (.agg #[.int .i64 0, .int .i64 0]), 2, 16) := by kernel_rfl
theorem right_f (n : Int) : bound_right.f n = some (decide (1 ≤ n ∧ n ≤ 64)) := by
  unfold bound_right.f
  by_cases h : n ≥ 1
  · rw [if_pos h]; simp [show 1 ≤ n from h]
  · rw [if_neg h]; simp [show ¬ 1 ≤ n from h]
theorem new_bad (n : Int) (hn : ¬ (1 ≤ n ∧ n ≤ 64)) (w : World) : Calls Try.prog 48 #[.int .i64 n] w fun e w' => e = .returned (.tuple #[.pointer none, .int .i64 2]) ∧ Below w.heap.size w w' := by
  have hr := right_f n
  rw [decide_eq_false hn] at hr
  replace hr := Lib.hid hr
  replace hn := Lib.hid hn
  go_enter Try.func48, Try.ntmps48
  go_wp2_with (go_at_call 61; refine (bound_right.calls n _ _ hr.out).mono ?_; rintro e w1 ⟨rfl, hb⟩; replace hb := Lib.hid hb.below)
  go_ret2
  exact ⟨rfl, hb.out⟩
theorem row_of {w : World} {B g n cap : Nat} {ok : Nat → Prop} {xs : List (Int × Int)} (h : k2.R 114 w B ok (.slice (some ⟨g, 0, none⟩) n cap) xs) : ∃ cells : Array Value, w.heap[g]? = some (.cells cells 114 (0, 0)) ∧ ∀ i, i < n → cells[i * 2]? = some (.int .i64 (xs.getD i (0, 0)).1) ∧ cells[i * 2 + 1]? = some (.int .i64 (xs.getD i (0, 0)).2) := by
  obtain ⟨cells, hc⟩ := Kd.R_typed h g rfl
  refine ⟨cells, hc, fun i hi => ?_⟩
  obtain ⟨d, hcl, hM, hcc, _⟩ := Kd.R_elem h (0, 0) (i : Int) (by omega) (by omega)
  rw [Int.toNat_natCast] at hM hcc
  obtain rfl := k2_open hM
  have h2 : k2.sz = 2 := rfl
  rw [h2] at hcc
  have e0 := hcc 0 _ rfl
  have e1 := hcc 1 _ rfl
  rw [blk_cell hc] at e0 e1
  exact ⟨e0, e1⟩
set_option maxHeartbeats 1000000 in
theorem new_ok (n : Nat) (h1 : 1 ≤ n) (h64 : n ≤ 64) (w : World) : Calls Try.prog 48 #[.int .i64 (n : Int)] w fun e w' => ∃ p g cap, e = .returned (.tuple #[.pointer (some ⟨p, 0, none⟩), .int .i64 0]) ∧ Wt w' p g n cap 0 (fun _ => 0) (fun _ => 0) (fun _ => 0) ∧ Below w.heap.size w w' ∧ w.heap.size ≤ p ∧ w.heap.size ≤ g := by
  have hr := right_f (n : Int)
  rw [decide_eq_true ⟨by omega, by omega⟩] at hr
  replace hr := Lib.hid hr
  go_enter Try.func48, Try.ntmps48
  go_wp2_with (first
    | (go_at_call 61; refine (bound_right.calls (n : Int) _ _ hr.out).mono ?_; rintro e w1 ⟨rfl, hb⟩; replace hb := Lib.hid hb.below)
    | ((with_reducible refine gate_ (.makeSlice 108 (.tmp 7) (.tmp 7)) rfl ?_); go_must (
        refine Kd.R_make k2 (w0 := w) (W := w1) w.heap.size 114 rfl rfl 108 (.tmp 7) (.tmp 7) rfl (n : Int) rfl rfl Try.underlying108 (.agg #[.int .i64 0, .int .i64 0]) 16 infoWait rfl (by decide) (by decide) (0, 0) (ok := fun _ => True) (okp := fun _ => False) (k2_M (0, 0)) (fun _ hk => hk.elim) trivial (by omega) (by omega) hb.out hb.out.size ?_;
        intro v2 w2 hR hB2 hg2 hat;
        (obtain ⟨g, cap, rfl, hgB, _⟩ := Kd.R_form hR (by simp; omega));
        (have hrow := row_of hR); clear hR hg2 hat;
        (simp only [List.length_replicate, Int.toNat_natCast] at hrow ⊢);
        replace hrow := Lib.hid hrow; replace hB2 := Lib.hid hB2)))
  go_ret2
  refine ⟨w2.heap.size, g, cap, rfl, ⟨heap_alloc_new w2 _, ?_⟩, below_alloc hB2.out _, hB2.out.size, hgB⟩
  obtain ⟨cells, hc, hr2⟩ := hrow.out
  refine ⟨cells, (Below.heap_alloc w2 _ g (blk_lt hc)).trans hc, fun i hi => ?_⟩
  have := hr2 i hi
  rw [List.getD_eq_getElem?_getD, List.getElem?_replicate, if_pos hi] at this
  exact this

/-! ### A pick -/
abbrev Nt := Int × Int × Int × Int
abbrev nk : Kd Nt := Kd.pair (Kd.int .i64) (Kd.pair (Kd.int .i64) (Kd.pair (Kd.int .i64) (Kd.int .i64)))
theorem nk_open {w : World} {x : Nt} {cs : List Value} (h : nk.K w x cs) : cs = [.int .i64 x.1, .int .i64 x.2.1, .int .i64 x.2.2.1, .int .i64 x.2.2.2] := by
  obtain ⟨_, _, rfl, rfl, _, _, rfl, rfl, _, _, rfl, rfl, rfl⟩ := h
  exact rfl
theorem at_note {w : World} {A : Option Addr} {n : Nat} {xs : List Nt} (h : Kd.C nk w A n xs) (i : Nat) (h1 : i < n) :
    ∃ ad t wh o ar, A = some ad ∧ xs[i]? = some (t, wh, o, ar) ∧ w.cell? (ad.add (i * 4)) = some (.int .i64 t) ∧ w.cell? ⟨(ad.add (i * 4)).block, (ad.add (i * 4)).off + 1, none⟩ = some (.int .i64 wh) ∧ w.cell? ⟨(ad.add (i * 4)).block, (ad.add (i * 4)).off + 2, none⟩ = some (.int .i64 o) ∧ w.cell? ⟨(ad.add (i * 4)).block, (ad.add (i * 4)).off + 3, none⟩ = some (.int .i64 ar) := by
  have hn := h.1
  obtain ⟨ad, c, e, _, hK, hc0⟩ := Kd.C_get h (0, 0, 0, 0) (i : Int) (by omega) (by omega)
  have hc : ∀ j u, c[j]? = some u → w.cell? (ad.add (i * 4 + j)) = some u := hc0
  obtain rfl := nk_open hK
  have hx : xs[i]? = some (xs.getD (i : Int).toNat (0, 0, 0, 0)) := by
    rw [Int.toNat_natCast, List.getD_eq_getElem?_getD, List.getElem?_eq_getElem (by omega)]
    rfl
  exact ⟨ad, _, _, _, _, e, hx, hc 0 _ rfl, by rw [← add_field _ _ 1 (by omega)]; exact hc 1 _ rfl, by rw [← add_field _ _ 2 (by omega)]; exact hc 2 _ rfl, by rw [← add_field _ _ 3 (by omega)]; exact hc 3 _ rfl⟩

/-- The longest waits, the tasks' operations, and since when. -/
structure Sg where
  L : Nat → Int
  o : Nat → Int
  f : Nat → Int
def endS (c : Int) (n i : Nat) (s : Sg) : Sg := ⟨endL c s.L s.o s.f n i, upd s.o i 0, upd s.f i 0⟩
/-- A note of the c-th pick. -/
def noteS (c : Int) (n : Nat) (s : Sg) (x : Nt) : Sg :=
  if 0 ≤ x.1 ∧ x.1 < n then
    if x.2.1 = 11 then endS c n x.1.toNat s
    else if x.2.1 = 1 ∧ (x.2.2.1 = 1 ∨ x.2.2.1 = 3) then ⟨(endS c n x.1.toNat s).L, upd (endS c n x.1.toNat s).o x.1.toNat x.2.2.1, upd (endS c n x.1.toNat s).f x.1.toNat c⟩
    else s
  else s
def Ok (n : Nat) (s : Sg) : Prop := ∀ i, i < n → s.o i = 0 ∨ s.o i = 1 ∨ s.o i = 3
theorem Ok.ends {n i : Nat} {s : Sg} {c : Int} (h : Ok n s) : Ok n (endS c n i s) := by
  intro j hj
  show upd s.o i 0 j = 0 ∨ _
  by_cases e : j = i
  · left; simp [upd, e]
  · have := h j hj
    simp only [endS, upd, if_neg e]
    exact this
theorem Ok.note {n : Nat} {s : Sg} {c : Int} (h : Ok n s) (x : Nt) : Ok n (noteS c n s x) := by
  unfold noteS
  by_cases h1 : 0 ≤ x.1 ∧ x.1 < n
  · rw [if_pos h1]
    by_cases h2 : x.2.1 = 11
    · rw [if_pos h2]; exact h.ends
    · rw [if_neg h2]
      by_cases h3 : x.2.1 = 1 ∧ (x.2.2.1 = 1 ∨ x.2.2.1 = 3)
      · rw [if_pos h3]
        intro j hj
        by_cases e : j = x.1.toNat
        · subst e
          simp only [upd, if_pos]
          rcases h3.2 with h | h <;> simp [h]
        · have := (h.ends (c := c) (i := x.1.toNat)) j hj
          simp only [upd, if_neg e]
          exact this
      · rw [if_neg h3]; exact h
  · rw [if_neg h1]; exact h
theorem fold_take {α β : Type} (f : β → α → β) (s : β) (l : List α) (k : Nat) (x : α) (h : l[k]? = some x) : (l.take (k + 1)).foldl f s = f ((l.take k).foldl f s) x := by
  rw [List.take_add_one, h, List.foldl_append]
  rfl

set_option maxHeartbeats 4000000 in
theorem tick_walk (s : Sg) (h : Wt w p g n cap c s.L s.o s.f) (hok : Ok n s) (hcb : 0 ≤ c ∧ c ≤ 1000000) (b0 : Bool) (x0 x1 x2 x3 x4 : Int) (A : Option Addr) (m cm : Nat) (l : List Nt) (hm : l.length = m) (hm1 : m ≤ 1000000) (hcm : m ≤ cm) (hC : ∀ w', But2 p g w w' → Kd.C nk w' A m l) :
    Calls Try.prog 52 #[.pointer (some ⟨p, 0, none⟩), .agg #[.bool b0, .int .i64 x0, .int .i64 x1, .int .u32 x2, .int .u32 x3, .int .u32 x4, .slice A m cm]] w fun e w' => e = .returned (.tuple #[]) ∧ ∃ s', s' = l.foldl (noteS (c + 1) n) s ∧ Wt w' p g n cap (c + 1) s'.L s'.o s'.f ∧ But2 p g w w' := by
  have hw : wrap64 (c + 1) = c + 1 := by unfold wrap64; omega
  obtain ⟨wa, hwa⟩ : ∃ wa, wa = w.alloc (.cells #[.bool b0, .int .i64 x0, .int .i64 x1, .int .u32 x2, .int .u32 x3, .int .u32 x4, .slice A m cm] 80) := ⟨_, rfl⟩
  have hba : Below w.heap.size w wa := hwa ▸ below_alloc (Below.refl _ _) _
  have hea : wa.heap[w.heap.size]? = some (.cells #[.bool b0, .int .i64 x0, .int .i64 x1, .int .u32 x2, .int .u32 x3, .int .u32 x4, .slice A m cm] 80 (0, 0)) := hwa ▸ heap_alloc_new w _
  have hWa := h.grown hba
  obtain ⟨hWb, hbb⟩ := hWa.set_cnt (c + 1)
  have hb1 : But2 p g w (wa.setCell ⟨p, 0, none⟩ (.int .i64 (c + 1))) := (But2.of_below hba).trans hbb
  have hec : (wa.setCell ⟨p, 0, none⟩ (.int .i64 (c + 1))).cell? ⟨w.heap.size, 6, none⟩ = some (.slice A m cm) := cell_of_heap (blk_far hea (p := ⟨p, 0, none⟩) (show w.heap.size ≠ p from by have := h.lt.1; omega) _) rfl
  have hcnt := hWa.cnt
  have hfr := (hWa.frozen 0).1
  have HC := Lib.hid hC
  have HK := Lib.hid hok
  replace hWb := Lib.hid hWb
  replace hb1 := Lib.hid hb1
  replace hea := Lib.hid hea
  replace h := Lib.hid h
  replace hWa := Lib.hid hWa
  replace hw := hw
  clear hC hok hbb hba
  obtain ⟨eb, heb⟩ : ∃ b, b = w.heap.size := ⟨_, rfl⟩
  rw [← heb] at hec
  replace hwa := Lib.hid hwa
  replace heb := Lib.hid heb
  go_enter Try.func52, Try.ntmps52
  go_upto_region 2 with (fail)
  rw [← hwa.out, ← heb.out]
  go_upto_region 3 with (fail)
  obtain ⟨wc, hwc⟩ : ∃ wc, wc = wa.setCell ⟨p, 0, none⟩ (.int .i64 (c + 1)) := ⟨_, rfl⟩
  rw [← hwc] at hWb hb1 hec ⊢
  obtain ⟨c1, hc1⟩ : ∃ c1, c1 = c + 1 := ⟨_, rfl⟩
  rw [← hc1] at hWb ⊢
  clear hw hwa heb hea hcnt hfr hWa h hcb hwc
  replace hc1 := Lib.hid hc1
  go_wp2
  go_loopw [18] (fun i wr => ∃ (k : Nat) (s' : Sg), k ≤ m ∧ i = .int .i64 k ∧ Hid (Wt wr p g n cap c1 s'.L s'.o s'.f) ∧ Hid (But2 p g w wr) ∧ Hid (Ok n s') ∧ Hid (s' = (l.take k).foldl (noteS c1 n) s)) (fun i _ => m - (intOf i).toNat)
  case atStart => exact ⟨0, s, Nat.zero_le _, rfl, hWb, hb1, HK, rfl⟩
  case round =>
    clear hWb hb1 HK hec
    obtain ⟨k, s', hk, rfl, hW, hB, hok, hF⟩ := hrel
    by_cases hlt : k < m
    · obtain ⟨ad, t, wh, op, ar, rfl, hx, h0, h1, h2, h3⟩ := at_note (HC.out wr hB.out) k hlt
      have hnext := fold_take (noteS c1 n) s l k _ hx
      rw [← hF.out] at hnext
      replace hnext := Lib.hid hnext
      clear hx
      have hWb := hW.out.grown (below_alloc (Below.refl _ _) (.cells #[.int .i64 t, .int .i64 wh, .int .i64 op, .int .i64 ar] 98))
      have hBb := hB.out.trans (But2.of_below (below_alloc (Below.refl _ _) (.cells #[.int .i64 t, .int .i64 wh, .int .i64 op, .int .i64 ar] 98)))
      have hoa := heap_alloc_new wr (.cells #[.int .i64 t, .int .i64 wh, .int .i64 op, .int .i64 ar] 98)
      obtain ⟨wb, hwb⟩ : ∃ wb, wb = wr.alloc (.cells #[.int .i64 t, .int .i64 wh, .int .i64 op, .int .i64 ar] 98) := ⟨_, rfl⟩
      obtain ⟨ob, hob⟩ : ∃ ob, ob = wr.heap.size := ⟨_, rfl⟩
      rw [← hwb] at hWb hBb hoa
      rw [← hob] at hoa
      have hne : ob ≠ p ∧ ob ≠ g := by have := hW.out.lt; omega
      replace hwb := Lib.hid hwb
      replace hob := Lib.hid hob
      replace hWb := Lib.hid hWb
      replace hBb := Lib.hid (hBb.trans (But2.of_below (below_drew (Below.refl _ _))))
      replace hoa := Lib.hid hoa
      replace hne := Lib.hid hne
      go_upto_region 6 with (fail)
      rw [← hwb.out, ← hob.out]
      clear hwb hob h0 h1 h2 h3 hW hB
      by_cases ht0 : t < 0
      · have hd0 : decide (t < 0) = true := by simpa using ht0
        refine start_ (n := 13) (S := fun w' => w'.cell? ⟨ob, 0, none⟩ = some (.int .i64 t) ∧ w'.cell? ⟨p, 1, none⟩ = some (.slice (some ⟨g, 0, none⟩) n cap)) (ds := []) #[false, false, false, false, false, false, false, false, false, false, false, false, false] (by kernel_rfl) rfl rfl ⟨cell_of_heap (w := wb.drew) hoa.out rfl, hWb.out.drew.sl⟩ (fun hHeld => ?_)
        refine pure_ (i := 0) (N := some 22) (v := ?_) (a' := ?_) #[true, false, false, false, false, false, false, false, false, false, false, false, false] rfl rfl (by kernel_rfl) (fun _ _ _ h => h) (Or.inl ⟨by rfl, ?_⟩) ?_ ?_
        rotate_left
        · intro w'
          go_simp
          with_reducible rfl
        rotate_left
        · simp only [Act.put, List.setIfInBounds_toArray, List.set_cons_zero, List.set_cons_succ, i64_w, i32_w]
          rfl
        refine take_ (i := 1) (N := some 23) (v := ?_) (a' := ?_) #[true, true, false, false, false, false, false, false, false, false, false, false, false] rfl rfl (by kernel_rfl) (fun _ _ _ h => h) (Or.inl ⟨by rfl, ?_⟩) hHeld ?_ ?_
        rotate_left
        · rintro w' ⟨s0, s1⟩
          go_simp
          with_reducible rfl
        rotate_left
        · simp only [Act.put, List.setIfInBounds_toArray, List.set_cons_zero, List.set_cons_succ, i64_w, i32_w]
          rfl
        refine pure_ (i := 2) (N := some 24) (v := ?_) (a' := ?_) #[true, true, true, false, false, false, false, false, false, false, false, false, false] rfl rfl (by kernel_rfl) (fun _ _ _ h => h) (Or.inl ⟨by rfl, ?_⟩) ?_ ?_
        rotate_left
        · intro w'
          go_simp
          with_reducible rfl
        rotate_left
        · simp only [Act.put, List.setIfInBounds_toArray, List.set_cons_zero, List.set_cons_succ, i64_w, i32_w]
          rfl
        refine pure_ (i := 3) (N := some 25) (v := ?_) (a' := ?_) #[true, true, true, true, false, false, false, false, false, false, false, false, false] rfl rfl (by kernel_rfl) (fun _ _ _ h => h) (Or.inl ⟨by rfl, ?_⟩) ?_ ?_
        rotate_left
        · intro w'
          go_simp
          with_reducible rfl
        rotate_left
        · simp only [Act.put, List.setIfInBounds_toArray, List.set_cons_zero, List.set_cons_succ, i64_w, i32_w]
          rfl
        refine pure_ (i := 4) (N := some 26) (v := undef) (a' := ?_) #[true, true, true, true, true, false, false, false, false, false, false, false, false] rfl rfl (by kernel_rfl) (fun _ _ _ h => h) (Or.inr ⟨by rfl, rfl⟩) ?_ ?_
        rotate_left
        · simp only [Act.put, List.setIfInBounds_toArray, List.set_cons_zero, List.set_cons_succ, i64_w, i32_w]
          rfl
        refine pure_ (i := 5) (N := some 27) (v := undef) (a' := ?_) #[true, true, true, true, true, true, false, false, false, false, false, false, false] rfl rfl (by kernel_rfl) (fun _ _ _ h => h) (Or.inr ⟨by rfl, rfl⟩) ?_ ?_
        rotate_left
        · simp only [Act.put, List.setIfInBounds_toArray, List.set_cons_zero, List.set_cons_succ, i64_w, i32_w]
          rfl
        refine pure_ (i := 6) (N := some 28) (v := undef) (a' := ?_) #[true, true, true, true, true, true, true, false, false, false, false, false, false] rfl rfl (by kernel_rfl) (fun _ _ _ h => h) (Or.inr ⟨by rfl, rfl⟩) ?_ ?_
        rotate_left
        · simp only [Act.put, List.setIfInBounds_toArray, List.set_cons_zero, List.set_cons_succ, i64_w, i32_w]
          rfl
        refine pure_ (i := 7) (N := some 29) (v := undef) (a' := ?_) #[true, true, true, true, true, true, true, true, false, false, false, false, false] rfl rfl (by kernel_rfl) (fun _ _ _ h => h) (Or.inr ⟨by rfl, rfl⟩) ?_ ?_
        rotate_left
        · simp only [Act.put, List.setIfInBounds_toArray, List.set_cons_zero, List.set_cons_succ, i64_w, i32_w]
          rfl
        refine pure_ (i := 8) (N := some 30) (v := undef) (a' := ?_) #[true, true, true, true, true, true, true, true, true, false, false, false, false] rfl rfl (by kernel_rfl) (fun _ _ _ h => h) (Or.inr ⟨by rfl, rfl⟩) ?_ ?_
        rotate_left
        · simp only [Act.put, List.setIfInBounds_toArray, List.set_cons_zero, List.set_cons_succ, i64_w, i32_w]
          rfl
        refine pure_ (i := 9) (N := some 31) (v := undef) (a' := ?_) #[true, true, true, true, true, true, true, true, true, true, false, false, false] rfl rfl (by kernel_rfl) (fun _ _ _ h => h) (Or.inr ⟨by rfl, rfl⟩) ?_ ?_
        rotate_left
        · simp only [Act.put, List.setIfInBounds_toArray, List.set_cons_zero, List.set_cons_succ, i64_w, i32_w]
          rfl
        refine pure_ (i := 10) (N := some 32) (v := undef) (a' := ?_) #[true, true, true, true, true, true, true, true, true, true, true, false, false] rfl rfl (by kernel_rfl) (fun _ _ _ h => h) (Or.inr ⟨by rfl, rfl⟩) ?_ ?_
        rotate_left
        · simp only [Act.put, List.setIfInBounds_toArray, List.set_cons_zero, List.set_cons_succ, i64_w, i32_w]
          rfl
        refine pure_ (i := 11) (N := some 33) (v := undef) (a' := ?_) #[true, true, true, true, true, true, true, true, true, true, true, true, false] rfl rfl (by kernel_rfl) (fun _ _ _ h => h) (Or.inr ⟨by rfl, rfl⟩) ?_ ?_
        rotate_left
        · simp only [Act.put, List.setIfInBounds_toArray, List.set_cons_zero, List.set_cons_succ, i64_w, i32_w]
          rfl
        refine pure_ (i := 12) (N := some 34) (v := ?_) (a' := ?_) #[true, true, true, true, true, true, true, true, true, true, true, true, true] rfl rfl (by kernel_rfl) (fun _ _ _ h => h) (Or.inl ⟨by rfl, ?_⟩) ?_ ?_
        rotate_left
        · intro w'
          go_simp
          with_reducible rfl
        rotate_left
        · simp only [Act.put, List.setIfInBounds_toArray, List.set_cons_zero, List.set_cons_succ, i64_w, i32_w]
          rfl
        refine done_ (by kernel_rfl) ?_

        go_wp2
        go_roundw
        case rel => exact ⟨k + 1, s', by omega, by go_num, Lib.hid hWb.out.drew, hBb, hok, Lib.hid (by rw [hnext.out]; exact (if_neg (by intro h; omega)).symm)⟩
        case measure => simp [intOf]; omega
      · by_cases htn : t ≥ (n : Int)
        · have hd0 : decide (t < 0) = false := by simpa using ht0
          have hd1 : decide (t ≥ (n : Int)) = true := by simpa using htn
          refine start_ (n := 13) (S := fun w' => w'.cell? ⟨ob, 0, none⟩ = some (.int .i64 t) ∧ w'.cell? ⟨p, 1, none⟩ = some (.slice (some ⟨g, 0, none⟩) n cap)) (ds := []) #[false, false, false, false, false, false, false, false, false, false, false, false, false] (by kernel_rfl) rfl rfl ⟨cell_of_heap (w := wb.drew) hoa.out rfl, hWb.out.drew.sl⟩ (fun hHeld => ?_)
          refine pure_ (i := 0) (N := some 22) (v := ?_) (a' := ?_) #[true, false, false, false, false, false, false, false, false, false, false, false, false] rfl rfl (by kernel_rfl) (fun _ _ _ h => h) (Or.inl ⟨by rfl, ?_⟩) ?_ ?_
          rotate_left
          · intro w'
            go_simp
            with_reducible rfl
          rotate_left
          · simp only [Act.put, List.setIfInBounds_toArray, List.set_cons_zero, List.set_cons_succ, i64_w, i32_w]
            rfl
          refine take_ (i := 1) (N := some 23) (v := ?_) (a' := ?_) #[true, true, false, false, false, false, false, false, false, false, false, false, false] rfl rfl (by kernel_rfl) (fun _ _ _ h => h) (Or.inl ⟨by rfl, ?_⟩) hHeld ?_ ?_
          rotate_left
          · rintro w' ⟨s0, s1⟩
            go_simp
            with_reducible rfl
          rotate_left
          · simp only [Act.put, List.setIfInBounds_toArray, List.set_cons_zero, List.set_cons_succ, i64_w, i32_w]
            rfl
          refine pure_ (i := 2) (N := some 24) (v := ?_) (a' := ?_) #[true, true, true, false, false, false, false, false, false, false, false, false, false] rfl rfl (by kernel_rfl) (fun _ _ _ h => h) (Or.inl ⟨by rfl, ?_⟩) ?_ ?_
          rotate_left
          · intro w'
            go_simp
            with_reducible rfl
          rotate_left
          · simp only [Act.put, List.setIfInBounds_toArray, List.set_cons_zero, List.set_cons_succ, i64_w, i32_w]
            rfl
          refine pure_ (i := 3) (N := some 25) (v := ?_) (a' := ?_) #[true, true, true, true, false, false, false, false, false, false, false, false, false] rfl rfl (by kernel_rfl) (fun _ _ _ h => h) (Or.inl ⟨by rfl, ?_⟩) ?_ ?_
          rotate_left
          · intro w'
            go_simp
            with_reducible rfl
          rotate_left
          · simp only [Act.put, List.setIfInBounds_toArray, List.set_cons_zero, List.set_cons_succ, i64_w, i32_w]
            rfl
          refine pure_ (i := 4) (N := some 26) (v := ?_) (a' := ?_) #[true, true, true, true, true, false, false, false, false, false, false, false, false] rfl rfl (by kernel_rfl) (fun _ _ _ h => h) (Or.inl ⟨by rfl, ?_⟩) ?_ ?_
          rotate_left
          · intro w'
            go_simp
            with_reducible rfl
          rotate_left
          · simp only [Act.put, List.setIfInBounds_toArray, List.set_cons_zero, List.set_cons_succ, i64_w, i32_w]
            rfl
          refine pure_ (i := 6) (N := some 28) (v := ?_) (a' := ?_) #[true, true, true, true, true, false, true, false, false, false, false, false, false] rfl rfl (by kernel_rfl) (fun _ _ _ h => h) (Or.inl ⟨by rfl, ?_⟩) ?_ ?_
          rotate_left
          · intro w'
            go_simp
            with_reducible rfl
          rotate_left
          · simp only [Act.put, List.setIfInBounds_toArray, List.set_cons_zero, List.set_cons_succ, i64_w, i32_w]
            rfl
          refine pure_ (i := 7) (N := some 29) (v := ?_) (a' := ?_) #[true, true, true, true, true, false, true, true, false, false, false, false, false] rfl rfl (by kernel_rfl) (fun _ _ _ h => h) (Or.inl ⟨by rfl, ?_⟩) ?_ ?_
          rotate_left
          · intro w'
            go_simp
            with_reducible rfl
          rotate_left
          · simp only [Act.put, List.setIfInBounds_toArray, List.set_cons_zero, List.set_cons_succ, i64_w, i32_w]
            rfl
          refine pure_ (i := 8) (N := some 30) (v := ?_) (a' := ?_) #[true, true, true, true, true, false, true, true, true, false, false, false, false] rfl rfl (by kernel_rfl) (fun _ _ _ h => h) (Or.inl ⟨by rfl, ?_⟩) ?_ ?_
          rotate_left
          · intro w'
            go_simp
            with_reducible rfl
          rotate_left
          · simp only [Act.put, List.setIfInBounds_toArray, List.set_cons_zero, List.set_cons_succ, i64_w, i32_w]
            rfl
          refine take_ (i := 5) (N := some 27) (v := ?_) (a' := ?_) #[true, true, true, true, true, true, true, true, true, false, false, false, false] rfl rfl (by kernel_rfl) (fun _ _ _ h => h) (Or.inl ⟨by rfl, ?_⟩) hHeld ?_ ?_
          rotate_left
          · rintro w' ⟨s0, s1⟩
            go_simp
            with_reducible rfl
          rotate_left
          · simp only [Act.put, List.setIfInBounds_toArray, List.set_cons_zero, List.set_cons_succ, i64_w, i32_w]
            rfl
          refine take_ (i := 9) (N := some 31) (v := ?_) (a' := ?_) #[true, true, true, true, true, true, true, true, true, true, false, false, false] rfl rfl (by kernel_rfl) (fun _ _ _ h => h) (Or.inl ⟨by rfl, ?_⟩) hHeld ?_ ?_
          rotate_left
          · rintro w' ⟨s0, s1⟩
            go_simp
            with_reducible rfl
          rotate_left
          · simp only [Act.put, List.setIfInBounds_toArray, List.set_cons_zero, List.set_cons_succ, i64_w, i32_w]
            rfl
          refine pure_ (i := 10) (N := some 32) (v := ?_) (a' := ?_) #[true, true, true, true, true, true, true, true, true, true, true, false, false] rfl rfl (by kernel_rfl) (fun _ _ _ h => h) (Or.inl ⟨by rfl, ?_⟩) ?_ ?_
          rotate_left
          · intro w'
            go_simp
            with_reducible rfl
          rotate_left
          · simp only [Act.put, List.setIfInBounds_toArray, List.set_cons_zero, List.set_cons_succ, i64_w, i32_w]
            rfl
          refine pure_ (i := 11) (N := some 33) (v := ?_) (a' := ?_) #[true, true, true, true, true, true, true, true, true, true, true, true, false] rfl rfl (by kernel_rfl) (fun _ _ _ h => h) (Or.inl ⟨by rfl, ?_⟩) ?_ ?_
          rotate_left
          · intro w'
            go_simp
            with_reducible rfl
          rotate_left
          · simp only [Act.put, List.setIfInBounds_toArray, List.set_cons_zero, List.set_cons_succ, i64_w, i32_w]
            rfl
          refine pure_ (i := 12) (N := some 34) (v := ?_) (a' := ?_) #[true, true, true, true, true, true, true, true, true, true, true, true, true] rfl rfl (by kernel_rfl) (fun _ _ _ h => h) (Or.inl ⟨by rfl, ?_⟩) ?_ ?_
          rotate_left
          · intro w'
            go_simp
            with_reducible rfl
          rotate_left
          · simp only [Act.put, List.setIfInBounds_toArray, List.set_cons_zero, List.set_cons_succ, i64_w, i32_w]
            rfl
          refine done_ (by kernel_rfl) ?_

          go_wp2
          go_roundw
          case rel => exact ⟨k + 1, s', by omega, by go_num, Lib.hid hWb.out.drew, hBb, hok, Lib.hid (by rw [hnext.out]; exact (if_neg (by intro h; omega)).symm)⟩
          case measure => simp [intOf]; omega
        · obtain ⟨q, rfl⟩ := Int.eq_ofNat_of_zero_le (show 0 ≤ t by omega)
          have hql : q < n := by omega
          have hd0 : decide ((q : Int) < 0) = false := by simp
          have hd1 : decide ((q : Int) ≥ (n : Int)) = false := by simp; omega
          have hin : 0 ≤ (q : Int) ∧ (q : Int) < n := by omega
          have hran := hok.out q hql
          replace hran : Hid (0 ≤ s'.o q ∧ s'.o q < 4) := Lib.hid (by rcases hran with h | h | h <;> rw [h] <;> decide)
          clear ht0 htn
          refine start_ (n := 13) (S := fun w' => w'.cell? ⟨ob, 0, none⟩ = some (.int .i64 (q : Int)) ∧ w'.cell? ⟨p, 1, none⟩ = some (.slice (some ⟨g, 0, none⟩) n cap)) (ds := []) #[false, false, false, false, false, false, false, false, false, false, false, false, false] (by kernel_rfl) rfl rfl ⟨cell_of_heap (w := wb.drew) hoa.out rfl, hWb.out.drew.sl⟩ (fun hHeld => ?_)
          refine pure_ (i := 0) (N := some 22) (v := ?_) (a' := ?_) #[true, false, false, false, false, false, false, false, false, false, false, false, false] rfl rfl (by kernel_rfl) (fun _ _ _ h => h) (Or.inl ⟨by rfl, ?_⟩) ?_ ?_
          rotate_left
          · intro w'
            go_simp
            with_reducible rfl
          rotate_left
          · simp only [Act.put, List.setIfInBounds_toArray, List.set_cons_zero, List.set_cons_succ, i64_w, i32_w]
            rfl
          refine take_ (i := 1) (N := some 23) (v := ?_) (a' := ?_) #[true, true, false, false, false, false, false, false, false, false, false, false, false] rfl rfl (by kernel_rfl) (fun _ _ _ h => h) (Or.inl ⟨by rfl, ?_⟩) hHeld ?_ ?_
          rotate_left
          · rintro w' ⟨s0, s1⟩
            go_simp
            with_reducible rfl
          rotate_left
          · simp only [Act.put, List.setIfInBounds_toArray, List.set_cons_zero, List.set_cons_succ, i64_w, i32_w]
            rfl
          refine pure_ (i := 2) (N := some 24) (v := ?_) (a' := ?_) #[true, true, true, false, false, false, false, false, false, false, false, false, false] rfl rfl (by kernel_rfl) (fun _ _ _ h => h) (Or.inl ⟨by rfl, ?_⟩) ?_ ?_
          rotate_left
          · intro w'
            go_simp
            with_reducible rfl
          rotate_left
          · simp only [Act.put, List.setIfInBounds_toArray, List.set_cons_zero, List.set_cons_succ, i64_w, i32_w]
            rfl
          refine pure_ (i := 3) (N := some 25) (v := ?_) (a' := ?_) #[true, true, true, true, false, false, false, false, false, false, false, false, false] rfl rfl (by kernel_rfl) (fun _ _ _ h => h) (Or.inl ⟨by rfl, ?_⟩) ?_ ?_
          rotate_left
          · intro w'
            go_simp
            with_reducible rfl
          rotate_left
          · simp only [Act.put, List.setIfInBounds_toArray, List.set_cons_zero, List.set_cons_succ, i64_w, i32_w]
            rfl
          refine pure_ (i := 4) (N := some 26) (v := ?_) (a' := ?_) #[true, true, true, true, true, false, false, false, false, false, false, false, false] rfl rfl (by kernel_rfl) (fun _ _ _ h => h) (Or.inl ⟨by rfl, ?_⟩) ?_ ?_
          rotate_left
          · intro w'
            go_simp
            with_reducible rfl
          rotate_left
          · simp only [Act.put, List.setIfInBounds_toArray, List.set_cons_zero, List.set_cons_succ, i64_w, i32_w]
            rfl
          refine pure_ (i := 6) (N := some 28) (v := ?_) (a' := ?_) #[true, true, true, true, true, false, true, false, false, false, false, false, false] rfl rfl (by kernel_rfl) (fun _ _ _ h => h) (Or.inl ⟨by rfl, ?_⟩) ?_ ?_
          rotate_left
          · intro w'
            go_simp
            with_reducible rfl
          rotate_left
          · simp only [Act.put, List.setIfInBounds_toArray, List.set_cons_zero, List.set_cons_succ, i64_w, i32_w]
            rfl
          refine pure_ (i := 7) (N := some 29) (v := ?_) (a' := ?_) #[true, true, true, true, true, false, true, true, false, false, false, false, false] rfl rfl (by kernel_rfl) (fun _ _ _ h => h) (Or.inl ⟨by rfl, ?_⟩) ?_ ?_
          rotate_left
          · intro w'
            go_simp
            with_reducible rfl
          rotate_left
          · simp only [Act.put, List.setIfInBounds_toArray, List.set_cons_zero, List.set_cons_succ, i64_w, i32_w]
            rfl
          refine pure_ (i := 8) (N := some 30) (v := ?_) (a' := ?_) #[true, true, true, true, true, false, true, true, true, false, false, false, false] rfl rfl (by kernel_rfl) (fun _ _ _ h => h) (Or.inl ⟨by rfl, ?_⟩) ?_ ?_
          rotate_left
          · intro w'
            go_simp
            with_reducible rfl
          rotate_left
          · simp only [Act.put, List.setIfInBounds_toArray, List.set_cons_zero, List.set_cons_succ, i64_w, i32_w]
            rfl
          refine take_ (i := 5) (N := some 27) (v := ?_) (a' := ?_) #[true, true, true, true, true, true, true, true, true, false, false, false, false] rfl rfl (by kernel_rfl) (fun _ _ _ h => h) (Or.inl ⟨by rfl, ?_⟩) hHeld ?_ ?_
          rotate_left
          · rintro w' ⟨s0, s1⟩
            go_simp
            with_reducible rfl
          rotate_left
          · simp only [Act.put, List.setIfInBounds_toArray, List.set_cons_zero, List.set_cons_succ, i64_w, i32_w]
            rfl
          refine take_ (i := 9) (N := some 31) (v := ?_) (a' := ?_) #[true, true, true, true, true, true, true, true, true, true, false, false, false] rfl rfl (by kernel_rfl) (fun _ _ _ h => h) (Or.inl ⟨by rfl, ?_⟩) hHeld ?_ ?_
          rotate_left
          · rintro w' ⟨s0, s1⟩
            go_simp
            with_reducible rfl
          rotate_left
          · simp only [Act.put, List.setIfInBounds_toArray, List.set_cons_zero, List.set_cons_succ, i64_w, i32_w]
            rfl
          refine pure_ (i := 10) (N := some 32) (v := ?_) (a' := ?_) #[true, true, true, true, true, true, true, true, true, true, true, false, false] rfl rfl (by kernel_rfl) (fun _ _ _ h => h) (Or.inl ⟨by rfl, ?_⟩) ?_ ?_
          rotate_left
          · intro w'
            go_simp
            with_reducible rfl
          rotate_left
          · simp only [Act.put, List.setIfInBounds_toArray, List.set_cons_zero, List.set_cons_succ, i64_w, i32_w]
            rfl
          refine pure_ (i := 11) (N := some 33) (v := ?_) (a' := ?_) #[true, true, true, true, true, true, true, true, true, true, true, true, false] rfl rfl (by kernel_rfl) (fun _ _ _ h => h) (Or.inl ⟨by rfl, ?_⟩) ?_ ?_
          rotate_left
          · intro w'
            go_simp
            with_reducible rfl
          rotate_left
          · simp only [Act.put, List.setIfInBounds_toArray, List.set_cons_zero, List.set_cons_succ, i64_w, i32_w]
            rfl
          refine pure_ (i := 12) (N := some 34) (v := ?_) (a' := ?_) #[true, true, true, true, true, true, true, true, true, true, true, true, true] rfl rfl (by kernel_rfl) (fun _ _ _ h => h) (Or.inl ⟨by rfl, ?_⟩) ?_ ?_
          rotate_left
          · intro w'
            go_simp
            with_reducible rfl
          rotate_left
          · simp only [Act.put, List.setIfInBounds_toArray, List.set_cons_zero, List.set_cons_succ, i64_w, i32_w]
            rfl
          refine done_ (by kernel_rfl) ?_

          have f0 := cell_of_heap (w := wb.drew) (j := 0) hoa.out rfl
          have f1 := cell_of_heap (w := wb.drew) (j := 1) hoa.out rfl
          have f2 := cell_of_heap (w := wb.drew) (j := 2) hoa.out rfl
          have hend := Lib.hid (end_walk hWb.out.drew q hql hran.out.1 hran.out.2)
          by_cases hw11 : wh = 11
          · subst hw11
            go_wp2_with (go_at_call 72; refine hend.out.mono ?_; rintro e w2 ⟨rfl, hW2, hB2⟩; replace hW2 := Lib.hid hW2; replace hB2 := Lib.hid (hBb.out.trans hB2))
            go_roundw
            case rel => exact ⟨k + 1, endS c1 n q s', by omega, by go_num, hW2, hB2, Lib.hid hok.out.ends, Lib.hid (by rw [hnext.out]; unfold noteS; rw [if_pos hin, if_pos rfl]; rfl)⟩
            case measure => simp [intOf]; omega
          · by_cases hw1 : wh = 1 ∧ (op = 1 ∨ op = 3)
            · obtain ⟨rfl, hop⟩ := hw1
              have hstep : noteS c1 n s' ((q : Int), 1, op, ar) = ⟨(endS c1 n q s').L, upd (endS c1 n q s').o q op, upd (endS c1 n q s').f q c1⟩ := by
                unfold noteS
                rw [if_pos hin, if_neg (show ¬ ((1 : Int) = 11) by decide), if_pos ⟨rfl, hop⟩]
                rfl
              have hok2 := hok.out.note (c := c1) ((q : Int), 1, op, ar)
              rw [hstep] at hok2
              rw [hstep] at hnext
              replace hok2 := Lib.hid hok2
              clear hstep
              have hopb : (op == 1) = true ∨ ((op == 1) = false ∧ (op == 3) = true) := by rcases hop with rfl | rfl <;> decide
              clear hop
              rcases hopb with hb1 | ⟨hb1, hb3⟩
              · go_upto_region 11 with (go_at_call 72; refine hend.out.mono ?_; rintro e w2 ⟨rfl, hW2, hB2⟩; have ho2 := (hB2.block ob (blk_lt hoa.out) hne.out.1 hne.out.2).trans hoa.out; replace hW2 := Lib.hid hW2; replace hB2 := Lib.hid (hBb.out.trans hB2); replace ho2 := Lib.hid ho2)
                obtain ⟨_, hs2, hs3⟩ := hW2.out.drew.set_wait q hql op c1
                refine start_ (n := 15) (S := fun w' => w'.cell? ⟨ob, 0, none⟩ = some (.int .i64 (q : Int)) ∧ w'.cell? ⟨ob, 2, none⟩ = some (.int .i64 op) ∧ w'.cell? ⟨p, 0, none⟩ = some (.int .i64 c1) ∧ w'.cell? ⟨p, 1, none⟩ = some (.slice (some ⟨g, 0, none⟩) n cap)) (ds := [14]) #[false, false, false, false, false, false, false, false, false, false, false, false, false, false, false] (by kernel_rfl) rfl rfl ⟨cell_of_heap (w := w2.drew) ho2.out rfl, cell_of_heap (w := w2.drew) ho2.out rfl, hW2.out.drew.cnt, hW2.out.drew.sl⟩ (fun hHeld => ?_)
                refine pure_ (i := 0) (N := some 61) (v := ?_) (a' := ?_) #[true, false, false, false, false, false, false, false, false, false, false, false, false, false, false] rfl rfl (by kernel_rfl) (fun _ _ _ h => h) (Or.inl ⟨by rfl, ?_⟩) ?_ ?_
                rotate_left
                · intro w'
                  go_simp
                  with_reducible rfl
                rotate_left
                · simp only [Act.put, List.setIfInBounds_toArray, List.set_cons_zero, List.set_cons_succ, i64_w, i32_w]
                  rfl
                refine pure_ (i := 1) (N := some 62) (v := ?_) (a' := ?_) #[true, true, false, false, false, false, false, false, false, false, false, false, false, false, false] rfl rfl (by kernel_rfl) (fun _ _ _ h => h) (Or.inl ⟨by rfl, ?_⟩) ?_ ?_
                rotate_left
                · intro w'
                  go_simp
                  with_reducible rfl
                rotate_left
                · simp only [Act.put, List.setIfInBounds_toArray, List.set_cons_zero, List.set_cons_succ, i64_w, i32_w]
                  rfl
                refine pure_ (i := 2) (N := some 63) (v := ?_) (a' := ?_) #[true, true, true, false, false, false, false, false, false, false, false, false, false, false, false] rfl rfl (by kernel_rfl) (fun _ _ _ h => h) (Or.inl ⟨by rfl, ?_⟩) ?_ ?_
                rotate_left
                · intro w'
                  go_simp
                  with_reducible rfl
                rotate_left
                · simp only [Act.put, List.setIfInBounds_toArray, List.set_cons_zero, List.set_cons_succ, i64_w, i32_w]
                  rfl
                refine pure_ (i := 4) (N := some 65) (v := ?_) (a' := ?_) #[true, true, true, false, true, false, false, false, false, false, false, false, false, false, false] rfl rfl (by kernel_rfl) (fun _ _ _ h => h) (Or.inl ⟨by rfl, ?_⟩) ?_ ?_
                rotate_left
                · intro w'
                  go_simp
                  with_reducible rfl
                rotate_left
                · simp only [Act.put, List.setIfInBounds_toArray, List.set_cons_zero, List.set_cons_succ, i64_w, i32_w]
                  rfl
                refine pure_ (i := 6) (N := some 67) (v := ?_) (a' := ?_) #[true, true, true, false, true, false, true, false, false, false, false, false, false, false, false] rfl rfl (by kernel_rfl) (fun _ _ _ h => h) (Or.inl ⟨by rfl, ?_⟩) ?_ ?_
                rotate_left
                · intro w'
                  go_simp
                  with_reducible rfl
                rotate_left
                · simp only [Act.put, List.setIfInBounds_toArray, List.set_cons_zero, List.set_cons_succ, i64_w, i32_w]
                  rfl
                refine pure_ (i := 8) (N := some 69) (v := ?_) (a' := ?_) #[true, true, true, false, true, false, true, false, true, false, false, false, false, false, false] rfl rfl (by kernel_rfl) (fun _ _ _ h => h) (Or.inl ⟨by rfl, ?_⟩) ?_ ?_
                rotate_left
                · intro w'
                  go_simp
                  with_reducible rfl
                rotate_left
                · simp only [Act.put, List.setIfInBounds_toArray, List.set_cons_zero, List.set_cons_succ, i64_w, i32_w]
                  rfl
                refine pure_ (i := 9) (N := some 70) (v := ?_) (a' := ?_) #[true, true, true, false, true, false, true, false, true, true, false, false, false, false, false] rfl rfl (by kernel_rfl) (fun _ _ _ h => h) (Or.inl ⟨by rfl, ?_⟩) ?_ ?_
                rotate_left
                · intro w'
                  go_simp
                  with_reducible rfl
                rotate_left
                · simp only [Act.put, List.setIfInBounds_toArray, List.set_cons_zero, List.set_cons_succ, i64_w, i32_w]
                  rfl
                refine pure_ (i := 10) (N := some 71) (v := ?_) (a' := ?_) #[true, true, true, false, true, false, true, false, true, true, true, false, false, false, false] rfl rfl (by kernel_rfl) (fun _ _ _ h => h) (Or.inl ⟨by rfl, ?_⟩) ?_ ?_
                rotate_left
                · intro w'
                  go_simp
                  with_reducible rfl
                rotate_left
                · simp only [Act.put, List.setIfInBounds_toArray, List.set_cons_zero, List.set_cons_succ, i64_w, i32_w]
                  rfl
                refine take_ (i := 3) (N := some 64) (v := ?_) (a' := ?_) #[true, true, true, true, true, false, true, false, true, true, true, false, false, false, false] rfl rfl (by kernel_rfl) (fun _ _ _ h => h) (Or.inl ⟨by rfl, ?_⟩) hHeld ?_ ?_
                rotate_left
                · rintro w' ⟨s0, s1, s2, s3⟩
                  go_simp
                  with_reducible rfl
                rotate_left
                · simp only [Act.put, List.setIfInBounds_toArray, List.set_cons_zero, List.set_cons_succ, i64_w, i32_w]
                  rfl
                refine take_ (i := 5) (N := some 66) (v := ?_) (a' := ?_) #[true, true, true, true, true, true, true, false, true, true, true, false, false, false, false] rfl rfl (by kernel_rfl) (fun _ _ _ h => h) (Or.inl ⟨by rfl, ?_⟩) hHeld ?_ ?_
                rotate_left
                · rintro w' ⟨s0, s1, s2, s3⟩
                  go_simp
                  with_reducible rfl
                rotate_left
                · simp only [Act.put, List.setIfInBounds_toArray, List.set_cons_zero, List.set_cons_succ, i64_w, i32_w]
                  rfl
                refine take_ (i := 7) (N := some 68) (v := ?_) (a' := ?_) #[true, true, true, true, true, true, true, true, true, true, true, false, false, false, false] rfl rfl (by kernel_rfl) (fun _ _ _ h => h) (Or.inl ⟨by rfl, ?_⟩) hHeld ?_ ?_
                rotate_left
                · rintro w' ⟨s0, s1, s2, s3⟩
                  go_simp
                  with_reducible rfl
                rotate_left
                · simp only [Act.put, List.setIfInBounds_toArray, List.set_cons_zero, List.set_cons_succ, i64_w, i32_w]
                  rfl
                refine take_ (i := 11) (N := some 72) (v := ?_) (a' := ?_) #[true, true, true, true, true, true, true, true, true, true, true, true, false, false, false] rfl rfl (by kernel_rfl) (fun _ _ _ h => h) (Or.inl ⟨by rfl, ?_⟩) hHeld ?_ ?_
                rotate_left
                · rintro w' ⟨s0, s1, s2, s3⟩
                  go_simp
                  with_reducible rfl
                rotate_left
                · simp only [Act.put, List.setIfInBounds_toArray, List.set_cons_zero, List.set_cons_succ, i64_w, i32_w]
                  rfl
                refine pure_ (i := 12) (N := some 73) (v := ?_) (a' := ?_) #[true, true, true, true, true, true, true, true, true, true, true, true, true, false, false] rfl rfl (by kernel_rfl) (fun _ _ _ h => h) (Or.inl ⟨by rfl, ?_⟩) ?_ ?_
                rotate_left
                · intro w'
                  go_simp
                  with_reducible rfl
                rotate_left
                · simp only [Act.put, List.setIfInBounds_toArray, List.set_cons_zero, List.set_cons_succ, i64_w, i32_w]
                  rfl
                refine pure_ (i := 13) (N := some 74) (v := ?_) (a' := ?_) #[true, true, true, true, true, true, true, true, true, true, true, true, true, true, false] rfl rfl (by kernel_rfl) (fun _ _ _ h => h) (Or.inl ⟨by rfl, ?_⟩) ?_ ?_
                rotate_left
                · intro w'
                  go_simp
                  with_reducible rfl
                rotate_left
                · simp only [Act.put, List.setIfInBounds_toArray, List.set_cons_zero, List.set_cons_succ, i64_w, i32_w]
                  rfl
                refine last_ (i := 14) (N := none) #[true, true, true, true, true, true, true, true, true, true, true, true, true, true, true] rfl rfl (by kernel_rfl) (by decide) (fun K hK => ?_)
                refine skip_ (w1 := w2.drew.setCells g (q * 2) [.int .i64 op, .int .i64 c1]) (by rfl) rfl (store_run rfl rfl rfl (hW2.out.drew.set_wait q hql op c1).1) ?_
                refine hK.out _ _ ?_
                clear hK K
                refine done_ (by kernel_rfl) ?_

                go_wp2
                go_roundw
                case rel => exact ⟨k + 1, ⟨(endS c1 n q s').L, upd (endS c1 n q s').o q op, upd (endS c1 n q s').f q c1⟩, by omega, by go_num, Lib.hid hs2, Lib.hid ((hB2.out.trans (But2.of_below (below_drew (Below.refl _ _)))).trans hs3), hok2, Lib.hid hnext.out.symm⟩
                case measure => simp [intOf]; omega
              · go_upto_region 11 with (go_at_call 72; refine hend.out.mono ?_; rintro e w2 ⟨rfl, hW2, hB2⟩; have ho2 := (hB2.block ob (blk_lt hoa.out) hne.out.1 hne.out.2).trans hoa.out; replace hW2 := Lib.hid hW2; replace hB2 := Lib.hid (hBb.out.trans hB2); replace ho2 := Lib.hid ho2)
                obtain ⟨_, hs2, hs3⟩ := hW2.out.drew.set_wait q hql op c1
                refine start_ (n := 15) (S := fun w' => w'.cell? ⟨ob, 0, none⟩ = some (.int .i64 (q : Int)) ∧ w'.cell? ⟨ob, 2, none⟩ = some (.int .i64 op) ∧ w'.cell? ⟨p, 0, none⟩ = some (.int .i64 c1) ∧ w'.cell? ⟨p, 1, none⟩ = some (.slice (some ⟨g, 0, none⟩) n cap)) (ds := [14]) #[false, false, false, false, false, false, false, false, false, false, false, false, false, false, false] (by kernel_rfl) rfl rfl ⟨cell_of_heap (w := w2.drew) ho2.out rfl, cell_of_heap (w := w2.drew) ho2.out rfl, hW2.out.drew.cnt, hW2.out.drew.sl⟩ (fun hHeld => ?_)
                refine pure_ (i := 0) (N := some 61) (v := ?_) (a' := ?_) #[true, false, false, false, false, false, false, false, false, false, false, false, false, false, false] rfl rfl (by kernel_rfl) (fun _ _ _ h => h) (Or.inl ⟨by rfl, ?_⟩) ?_ ?_
                rotate_left
                · intro w'
                  go_simp
                  with_reducible rfl
                rotate_left
                · simp only [Act.put, List.setIfInBounds_toArray, List.set_cons_zero, List.set_cons_succ, i64_w, i32_w]
                  rfl
                refine pure_ (i := 1) (N := some 62) (v := ?_) (a' := ?_) #[true, true, false, false, false, false, false, false, false, false, false, false, false, false, false] rfl rfl (by kernel_rfl) (fun _ _ _ h => h) (Or.inl ⟨by rfl, ?_⟩) ?_ ?_
                rotate_left
                · intro w'
                  go_simp
                  with_reducible rfl
                rotate_left
                · simp only [Act.put, List.setIfInBounds_toArray, List.set_cons_zero, List.set_cons_succ, i64_w, i32_w]
                  rfl
                refine pure_ (i := 2) (N := some 63) (v := ?_) (a' := ?_) #[true, true, true, false, false, false, false, false, false, false, false, false, false, false, false] rfl rfl (by kernel_rfl) (fun _ _ _ h => h) (Or.inl ⟨by rfl, ?_⟩) ?_ ?_
                rotate_left
                · intro w'
                  go_simp
                  with_reducible rfl
                rotate_left
                · simp only [Act.put, List.setIfInBounds_toArray, List.set_cons_zero, List.set_cons_succ, i64_w, i32_w]
                  rfl
                refine pure_ (i := 4) (N := some 65) (v := ?_) (a' := ?_) #[true, true, true, false, true, false, false, false, false, false, false, false, false, false, false] rfl rfl (by kernel_rfl) (fun _ _ _ h => h) (Or.inl ⟨by rfl, ?_⟩) ?_ ?_
                rotate_left
                · intro w'
                  go_simp
                  with_reducible rfl
                rotate_left
                · simp only [Act.put, List.setIfInBounds_toArray, List.set_cons_zero, List.set_cons_succ, i64_w, i32_w]
                  rfl
                refine pure_ (i := 6) (N := some 67) (v := ?_) (a' := ?_) #[true, true, true, false, true, false, true, false, false, false, false, false, false, false, false] rfl rfl (by kernel_rfl) (fun _ _ _ h => h) (Or.inl ⟨by rfl, ?_⟩) ?_ ?_
                rotate_left
                · intro w'
                  go_simp
                  with_reducible rfl
                rotate_left
                · simp only [Act.put, List.setIfInBounds_toArray, List.set_cons_zero, List.set_cons_succ, i64_w, i32_w]
                  rfl
                refine pure_ (i := 8) (N := some 69) (v := ?_) (a' := ?_) #[true, true, true, false, true, false, true, false, true, false, false, false, false, false, false] rfl rfl (by kernel_rfl) (fun _ _ _ h => h) (Or.inl ⟨by rfl, ?_⟩) ?_ ?_
                rotate_left
                · intro w'
                  go_simp
                  with_reducible rfl
                rotate_left
                · simp only [Act.put, List.setIfInBounds_toArray, List.set_cons_zero, List.set_cons_succ, i64_w, i32_w]
                  rfl
                refine pure_ (i := 9) (N := some 70) (v := ?_) (a' := ?_) #[true, true, true, false, true, false, true, false, true, true, false, false, false, false, false] rfl rfl (by kernel_rfl) (fun _ _ _ h => h) (Or.inl ⟨by rfl, ?_⟩) ?_ ?_
                rotate_left
                · intro w'
                  go_simp
                  with_reducible rfl
                rotate_left
                · simp only [Act.put, List.setIfInBounds_toArray, List.set_cons_zero, List.set_cons_succ, i64_w, i32_w]
                  rfl
                refine pure_ (i := 10) (N := some 71) (v := ?_) (a' := ?_) #[true, true, true, false, true, false, true, false, true, true, true, false, false, false, false] rfl rfl (by kernel_rfl) (fun _ _ _ h => h) (Or.inl ⟨by rfl, ?_⟩) ?_ ?_
                rotate_left
                · intro w'
                  go_simp
                  with_reducible rfl
                rotate_left
                · simp only [Act.put, List.setIfInBounds_toArray, List.set_cons_zero, List.set_cons_succ, i64_w, i32_w]
                  rfl
                refine take_ (i := 3) (N := some 64) (v := ?_) (a' := ?_) #[true, true, true, true, true, false, true, false, true, true, true, false, false, false, false] rfl rfl (by kernel_rfl) (fun _ _ _ h => h) (Or.inl ⟨by rfl, ?_⟩) hHeld ?_ ?_
                rotate_left
                · rintro w' ⟨s0, s1, s2, s3⟩
                  go_simp
                  with_reducible rfl
                rotate_left
                · simp only [Act.put, List.setIfInBounds_toArray, List.set_cons_zero, List.set_cons_succ, i64_w, i32_w]
                  rfl
                refine take_ (i := 5) (N := some 66) (v := ?_) (a' := ?_) #[true, true, true, true, true, true, true, false, true, true, true, false, false, false, false] rfl rfl (by kernel_rfl) (fun _ _ _ h => h) (Or.inl ⟨by rfl, ?_⟩) hHeld ?_ ?_
                rotate_left
                · rintro w' ⟨s0, s1, s2, s3⟩
                  go_simp
                  with_reducible rfl
                rotate_left
                · simp only [Act.put, List.setIfInBounds_toArray, List.set_cons_zero, List.set_cons_succ, i64_w, i32_w]
                  rfl
                refine take_ (i := 7) (N := some 68) (v := ?_) (a' := ?_) #[true, true, true, true, true, true, true, true, true, true, true, false, false, false, false] rfl rfl (by kernel_rfl) (fun _ _ _ h => h) (Or.inl ⟨by rfl, ?_⟩) hHeld ?_ ?_
                rotate_left
                · rintro w' ⟨s0, s1, s2, s3⟩
                  go_simp
                  with_reducible rfl
                rotate_left
                · simp only [Act.put, List.setIfInBounds_toArray, List.set_cons_zero, List.set_cons_succ, i64_w, i32_w]
                  rfl
                refine take_ (i := 11) (N := some 72) (v := ?_) (a' := ?_) #[true, true, true, true, true, true, true, true, true, true, true, true, false, false, false] rfl rfl (by kernel_rfl) (fun _ _ _ h => h) (Or.inl ⟨by rfl, ?_⟩) hHeld ?_ ?_
                rotate_left
                · rintro w' ⟨s0, s1, s2, s3⟩
                  go_simp
                  with_reducible rfl
                rotate_left
                · simp only [Act.put, List.setIfInBounds_toArray, List.set_cons_zero, List.set_cons_succ, i64_w, i32_w]
                  rfl
                refine pure_ (i := 12) (N := some 73) (v := ?_) (a' := ?_) #[true, true, true, true, true, true, true, true, true, true, true, true, true, false, false] rfl rfl (by kernel_rfl) (fun _ _ _ h => h) (Or.inl ⟨by rfl, ?_⟩) ?_ ?_
                rotate_left
                · intro w'
                  go_simp
                  with_reducible rfl
                rotate_left
                · simp only [Act.put, List.setIfInBounds_toArray, List.set_cons_zero, List.set_cons_succ, i64_w, i32_w]
                  rfl
                refine pure_ (i := 13) (N := some 74) (v := ?_) (a' := ?_) #[true, true, true, true, true, true, true, true, true, true, true, true, true, true, false] rfl rfl (by kernel_rfl) (fun _ _ _ h => h) (Or.inl ⟨by rfl, ?_⟩) ?_ ?_
                rotate_left
                · intro w'
                  go_simp
                  with_reducible rfl
                rotate_left
                · simp only [Act.put, List.setIfInBounds_toArray, List.set_cons_zero, List.set_cons_succ, i64_w, i32_w]
                  rfl
                refine last_ (i := 14) (N := none) #[true, true, true, true, true, true, true, true, true, true, true, true, true, true, true] rfl rfl (by kernel_rfl) (by decide) (fun K hK => ?_)
                refine skip_ (w1 := w2.drew.setCells g (q * 2) [.int .i64 op, .int .i64 c1]) (by rfl) rfl (store_run rfl rfl rfl (hW2.out.drew.set_wait q hql op c1).1) ?_
                refine hK.out _ _ ?_
                clear hK K
                refine done_ (by kernel_rfl) ?_

                go_wp2
                go_roundw
                case rel => exact ⟨k + 1, ⟨(endS c1 n q s').L, upd (endS c1 n q s').o q op, upd (endS c1 n q s').f q c1⟩, by omega, by go_num, Lib.hid hs2, Lib.hid ((hB2.out.trans (But2.of_below (below_drew (Below.refl _ _)))).trans hs3), hok2, Lib.hid hnext.out.symm⟩
                case measure => simp [intOf]; omega
            · have hstep : noteS c1 n s' ((q : Int), wh, op, ar) = s' := by
                unfold noteS
                rw [if_pos hin, if_neg hw11, if_neg hw1]
              rw [hstep] at hnext
              clear hstep hend
              have hb11 : (wh == 11) = false := by simpa using hw11
              rcases hb1 : (wh == 1) with _ | _
              · go_wp2
                go_roundw
                case rel => exact ⟨k + 1, s', by omega, by go_num, Lib.hid hWb.out.drew, hBb, hok, Lib.hid hnext.out.symm⟩
                case measure => simp [intOf]; omega
              · have ho1 : (op == 1) = false := by simp only [beq_iff_eq] at hb1; simpa using fun h => hw1 ⟨hb1, .inl h⟩
                have ho3 : (op == 3) = false := by simp only [beq_iff_eq] at hb1; simpa using fun h => hw1 ⟨hb1, .inr h⟩
                clear hw1
                go_wp2
                go_roundw
                case rel => exact ⟨k + 1, s', by omega, by go_num, Lib.hid hWb.out.drew, hBb, hok, Lib.hid hnext.out.symm⟩
                case measure => simp [intOf]; omega
    · obtain rfl : k = m := by omega
      go_wp2
      go_end0
      rw [← hc1.out]
      refine ⟨rfl, s', ?_, hW.out, hB.out⟩
      rw [hF.out, ← hm, List.take_length]
end Go.Proofs.Ytgbofijdjgpgeaa.Wat
