/- The cells of any task, of as many tasks as one likes, are what the reference says: the walks of place.Map and of the law itself. No conditions. -/
import Derived.Test.YtgbofijdjgpgeaaPPlaceFirstx2
import Derived.Lib.Hide
import Derived.Deep.DeepMust
import Derived.WalkSpells
namespace Go.Proofs.Ytgbofijdjgpgeaa.Cells
open Go.RowKit Go.Proofs.Ytgbofijdjgpgeaa.PPlaceFirst Go.Proofs.YtgbofijdjgpgeaaW.PrintWords Go.Proofs.YtgbofijdjgpgeaaW.PrintLast

theorem bcell {W w1 : World} (hb : Below W.heap.size W w1) : (∀ b o, b < W.heap.size → w1.cell? ⟨b, o, none⟩ = W.cell? ⟨b, o, none⟩) ∧ (∀ b o, b < W.heap.size → w1.frozen? ⟨b, o, none⟩ = W.frozen? ⟨b, o, none⟩) :=
  ⟨fun b o h => hb.cell (p := ⟨b, o, none⟩) h, fun b o h => hb.frozen (p := ⟨b, o, none⟩) h⟩

theorem wrap_small {x : Int} (h0 : -1000000 ≤ x) (h1 : x ≤ 1000000) : wrap64 x = x := by unfold wrap64; omega

/-- The cell of a row: next 0, blocked 1, watch 2, permit 3. -/
def cellv (n row i : Int) : Int := if 1 ≤ n ∧ n ≤ 64 ∧ 0 ≤ i ∧ i < n then 8 + row * n + i else -1

theorem mul_small {n row : Int} (h0 : 1 ≤ n) (h1 : n ≤ 64) (h2 : 0 ≤ row) (h3 : row ≤ 3) : 0 ≤ row * n ∧ row * n ≤ 192 := by
  constructor
  · exact Int.mul_nonneg h2 (by omega)
  · have : row * n ≤ 3 * 64 := Int.mul_le_mul h3 h1 (by omega) (by omega)
    omega

theorem cell_f (n row i : Int) (h2 : 0 ≤ row) (h3 : row ≤ 3) : place_Map_cell.f n row i = some (cellv n row i) := by
  unfold place_Map_cell.f place_right.f cellv
  by_cases a : n ≥ 1
  · rw [if_pos a]
    simp only [Option.bind_some]
    by_cases b : n ≤ 64
    · rw [if_pos (by simpa using b)]
      by_cases c : i < 0
      · rw [if_pos c, if_neg (by omega)]
      · rw [if_neg c]
        by_cases d : i ≥ n
        · rw [if_pos d, if_neg (by omega)]
        · rw [if_neg d, if_pos (by omega)]
          obtain ⟨m0, m1⟩ := mul_small a b h2 h3
          rw [wrap_small (x := row * n) (by omega) (by omega), wrap_small (x := 8 + row * n) (by omega) (by omega), wrap_small (x := 8 + row * n + i) (by omega) (by omega)]
    · rw [if_neg (by simpa using b), if_neg (by omega)]
  · rw [if_neg a]
    simp only [Option.bind_some]
    rw [if_neg (by simp), if_neg (by omega)]

theorem map_cell (n row i : Int) (w : World) (h2 : 0 ≤ row) (h3 : row ≤ 3) :
    Calls Try.prog 63 #[.agg #[.int .i64 n], .int .i64 row, .int .i64 i] w fun e w' => e = .returned (.int .i64 (cellv n row i)) ∧ Below w.heap.size w w' :=
  place_Map_cell.calls n row i _ w (cell_f n row i h2 h3)

set_option maxHeartbeats 400000 in
theorem map_next (n i : Int) (w : World) :
    Calls Try.prog 18 #[.agg #[.int .i64 n], .int .i64 i] w fun e w' => e = .returned (.int .i64 (cellv n 0 i)) ∧ Below w.heap.size w w' := by
  go_enter Try.func18, Try.ntmps18
  go_wp2_with (go_at_call 63; refine (map_cell n 0 i _ (by omega) (by omega)).mono ?_; rintro e w1 ⟨rfl, hb⟩)
  go_ret
  exact ⟨rfl, ((Below.refl _ _).alloc (Nat.le_refl _) _).trans (hb.mono (by simp))⟩


set_option maxHeartbeats 400000 in
theorem map_blocked (n i : Int) (w : World) :
    Calls Try.prog 20 #[.agg #[.int .i64 n], .int .i64 i] w fun e w' => e = .returned (.int .i64 (cellv n 1 i)) ∧ Below w.heap.size w w' := by
  go_enter Try.func20, Try.ntmps20
  go_wp2_with (go_at_call 63; refine (map_cell n 1 i _ (by omega) (by omega)).mono ?_; rintro e w1 ⟨rfl, hb⟩)
  go_ret
  exact ⟨rfl, ((Below.refl _ _).alloc (Nat.le_refl _) _).trans (hb.mono (by simp))⟩

set_option maxHeartbeats 400000 in
theorem map_watch (n i : Int) (w : World) :
    Calls Try.prog 21 #[.agg #[.int .i64 n], .int .i64 i] w fun e w' => e = .returned (.int .i64 (cellv n 2 i)) ∧ Below w.heap.size w w' := by
  go_enter Try.func21, Try.ntmps21
  go_wp2_with (go_at_call 63; refine (map_cell n 2 i _ (by omega) (by omega)).mono ?_; rintro e w1 ⟨rfl, hb⟩)
  go_ret
  exact ⟨rfl, ((Below.refl _ _).alloc (Nat.le_refl _) _).trans (hb.mono (by simp))⟩

set_option maxHeartbeats 400000 in
theorem map_permit (n i : Int) (w : World) :
    Calls Try.prog 22 #[.agg #[.int .i64 n], .int .i64 i] w fun e w' => e = .returned (.int .i64 (cellv n 3 i)) ∧ Below w.heap.size w w' := by
  go_enter Try.func22, Try.ntmps22
  go_wp2_with (go_at_call 63; refine (map_cell n 3 i _ (by omega) (by omega)).mono ?_; rintro e w1 ⟨rfl, hb⟩)
  go_ret
  exact ⟨rfl, ((Below.refl _ _).alloc (Nat.le_refl _) _).trans (hb.mono (by simp))⟩

/-- How many cells there are. -/
def sizev (n : Int) : Int := if 1 ≤ n ∧ n ≤ 64 then 8 + 4 * n else 0

theorem size_f (n : Int) : place_Map_Size.f n = some (sizev n) ∧ stilemanref03_Size.f n = some (sizev n) := by
  unfold place_Map_Size.f place_right.f stilemanref03_Size.f
  by_cases a : n ≥ 1
  · by_cases b : n ≤ 64
    · have e : sizev n = 8 + 4 * n := if_pos ⟨a, b⟩
      rw [e]
      constructor
      · rw [if_pos a]
        simp only [Option.bind_some]
        rw [if_pos (by simpa using b), wrap_small (x := 4 * n) (by omega) (by omega), wrap_small (x := 8 + 4 * n) (by omega) (by omega)]
      · rw [if_neg (by omega), if_neg (by omega), wrap_small (x := 4 * n) (by omega) (by omega), wrap_small (x := 8 + 4 * n) (by omega) (by omega)]
    · have e : sizev n = 0 := if_neg (by omega)
      rw [e]
      constructor
      · rw [if_pos a]
        simp only [Option.bind_some]
        rw [if_neg (by simpa using b)]
      · rw [if_neg (by omega), if_pos (by omega)]
  · have e : sizev n = 0 := if_neg (by omega)
    rw [e]
    constructor
    · rw [if_neg a]
      simp only [Option.bind_some]
      rw [if_neg (by simp)]
    · rw [if_pos (by omega)]

theorem map_size (n : Int) (w : World) :
    Calls Try.prog 23 #[.agg #[.int .i64 n]] w fun e w' => e = .returned (.int .i64 (sizev n)) ∧ Below w.heap.size w w' :=
  place_Map_Size.calls n _ w (size_f n).1
theorem ref_size (n : Int) (w : World) :
    Calls Try.prog 24 #[.int .i64 n] w fun e w' => e = .returned (.int .i64 (sizev n)) ∧ Drawn0 w w' :=
  stilemanref03_Size.calls n _ w (size_f n).2

set_option maxHeartbeats 400000 in
theorem ref_cell (n row i : Int) (w : World) (h2 : 0 ≤ row) (h3 : row ≤ 3) :
    Calls Try.prog 19 #[.int .i64 n, .int .i64 row, .int .i64 i] w fun e w' => e = .returned (.int .i64 (cellv n row i)) ∧ w = w' := by
  by_cases a : 1 ≤ n
  · by_cases b : n ≤ 64
    · by_cases c : 0 ≤ i
      · by_cases d : i < n
        · obtain ⟨m0, m1⟩ := mul_small a b h2 h3
          have e : cellv n row i = 8 + row * n + i := if_pos ⟨a, b, c, d⟩
          rw [e]
          clear e
          go_enter Try.func19, Try.ntmps19
          go_wp2
          go_ret
          refine ⟨?_, rfl⟩
          first | rfl | (rw [wrap_small (x := row * n) (by omega) (by omega), wrap_small (x := 8 + row * n) (by omega) (by omega), wrap_small (x := 8 + row * n + i) (by omega) (by omega)])
        · have e : cellv n row i = -1 := if_neg (by omega)
          rw [e]
          clear e
          go_enter Try.func19, Try.ntmps19
          go_wp2
          go_ret
          exact ⟨rfl, rfl⟩
      · have e : cellv n row i = -1 := if_neg (by omega)
        rw [e]
        clear e
        go_enter Try.func19, Try.ntmps19
        go_wp2
        go_ret
        exact ⟨rfl, rfl⟩
    · have e : cellv n row i = -1 := if_neg (by omega)
      rw [e]
      clear e
      go_enter Try.func19, Try.ntmps19
      go_wp2
      go_ret
      exact ⟨rfl, rfl⟩
  · have e : cellv n row i = -1 := if_neg (by omega)
    rw [e]
    clear e
    go_enter Try.func19, Try.ntmps19
    go_wp2
    go_ret
    exact ⟨rfl, rfl⟩


theorem new_in {n : Int} (h0 : 1 ≤ n) (h1 : n ≤ 64) : place_New.f n = some (n, 0) := by
  unfold place_New.f place_right.f
  rw [if_pos (by omega)]
  simp only [Option.bind_some]
  rw [if_pos (by simpa using h1)]
theorem new_out {n : Int} (h : ¬ (1 ≤ n ∧ n ≤ 64)) : place_New.f n = some (0, 2) := by
  unfold place_New.f place_right.f
  by_cases a : n ≥ 1
  · rw [if_pos a]
    simp only [Option.bind_some]
    rw [if_neg (by simp; omega)]
  · rw [if_neg a]
    simp only [Option.bind_some]
    rw [if_neg (by simp)]
theorem awake_f : stilemanlaw03_awake.f = some true := by
  unfold stilemanlaw03_awake.f
  rw [new_in (by omega) (by omega)]
  simp only [Option.bind_some]
  have h : place_Map_Permit.f 2 1 = some 15 := by
    unfold place_Map_Permit.f
    rw [cell_f 2 3 1 (by omega) (by omega)]
    rfl
  rw [if_pos trivial, h]
  simp only [Option.bind_some]
  rw [if_pos trivial, (size_f 2).1]
  rfl
theorem awake (w : World) : Calls Try.prog 25 #[] w fun e w' => e = .returned (.bool true) ∧ Below w.heap.size w w' := stilemanlaw03_awake.calls true w awake_f

set_option maxRecDepth 100000 in
set_option maxHeartbeats 2000000 in
theorem law_in (n i : Int) (w : World) (h0 : 1 ≤ n) (h1 : n ≤ 64) :
    Calls Try.prog 4 #[.int .i64 n, .int .i64 i] w fun e w' => e = .returned (.bool true) ∧ Below w.heap.size w w' := by
  have hN := Lib.hid (new_in h0 h1)
  go_enter Try.func4, Try.ntmps4
  go_wp2_with (first
    | (go_at_call 17; refine (place_New.calls n n 0 _ hN.out).mono ?_; rintro e w1 ⟨rfl, hb1⟩)
    | (go_at_call 18; refine (map_next n i _).mono ?_; rintro e w2 ⟨rfl, hb2⟩; obtain ⟨hc2, hf2⟩ := bcell hb2; have hz2 : w1.heap.size + 1 < w2.heap.size := by have := hb2.size; (try simp at this); omega)
    | (go_at_call 20; refine (map_blocked n i _).mono ?_; rintro e w3 ⟨rfl, hb3⟩; obtain ⟨hc3, hf3⟩ := bcell hb3; have hz3 : w1.heap.size + 1 < w3.heap.size := by have := hb3.size; (try simp at this); omega)
    | (go_at_call 21; refine (map_watch n i _).mono ?_; rintro e w4 ⟨rfl, hb4⟩; obtain ⟨hc4, hf4⟩ := bcell hb4; have hz4 : w1.heap.size + 1 < w4.heap.size := by have := hb4.size; (try simp at this); omega)
    | (go_at_call 22; refine (map_permit n i _).mono ?_; rintro e w5 ⟨rfl, hb5⟩; obtain ⟨hc5, hf5⟩ := bcell hb5; have hz5 : w1.heap.size + 1 < w5.heap.size := by have := hb5.size; (try simp at this); omega)
    | (go_at_call 23; refine (map_size n _).mono ?_; rintro e w6 ⟨rfl, hb6⟩; obtain ⟨hc6, hf6⟩ := bcell hb6; have hz6 : w1.heap.size + 1 < w6.heap.size := by have := hb6.size; (try simp at this); omega)
    | (go_at_call 24; refine (ref_size n _).mono ?_; rintro e w' ⟨rfl, ⟨nd, rfl⟩⟩)
    | (go_at_call 19; refine (ref_cell n _ i _ (by omega) (by omega)).mono ?_; rintro e w' ⟨rfl, rfl⟩)
    | (go_at_call 25; refine (awake _).mono ?_; rintro e w7 ⟨rfl, hb7⟩))
  go_ret
  refine ⟨rfl, ?_⟩
  have c1 := below_alloc (below_alloc hb1 (.cells #[.int .i64 n] 26)) (.cells #[.int .i64 n] 26)
  have c2 := below_then c1 c1.size hb2
  have c3 := below_then c2 c2.size hb3
  have c4 := below_then c3 c3.size hb4
  have c5 := below_then c4 c4.size hb5
  have c6 := below_then c5 c5.size hb6
  have c7 := pw_below_drewN c6 nd
  exact below_then c7 c7.size hb7


set_option maxRecDepth 100000 in
set_option maxHeartbeats 2000000 in
theorem law_low (n i : Int) (w : World) (h0 : n < 1) :
    Calls Try.prog 4 #[.int .i64 n, .int .i64 i] w fun e w' => e = .returned (.bool true) ∧ Below w.heap.size w w' := by
  have hN := Lib.hid (new_out (n := n) (by omega))
  go_enter Try.func4, Try.ntmps4
  go_wp2_with (first
    | (go_at_call 17; refine (place_New.calls n 0 2 _ hN.out).mono ?_; rintro e w1 ⟨rfl, hb1⟩)
    | (go_at_call 18; refine (map_next n i _).mono ?_; rintro e w2 ⟨rfl, hb2⟩; obtain ⟨hc2, hf2⟩ := bcell hb2; have hz2 : w1.heap.size + 1 < w2.heap.size := by have := hb2.size; (try simp at this); omega)
    | (go_at_call 20; refine (map_blocked n i _).mono ?_; rintro e w3 ⟨rfl, hb3⟩; obtain ⟨hc3, hf3⟩ := bcell hb3; have hz3 : w1.heap.size + 1 < w3.heap.size := by have := hb3.size; (try simp at this); omega)
    | (go_at_call 21; refine (map_watch n i _).mono ?_; rintro e w4 ⟨rfl, hb4⟩; obtain ⟨hc4, hf4⟩ := bcell hb4; have hz4 : w1.heap.size + 1 < w4.heap.size := by have := hb4.size; (try simp at this); omega)
    | (go_at_call 22; refine (map_permit n i _).mono ?_; rintro e w5 ⟨rfl, hb5⟩; obtain ⟨hc5, hf5⟩ := bcell hb5; have hz5 : w1.heap.size + 1 < w5.heap.size := by have := hb5.size; (try simp at this); omega)
    | (go_at_call 23; refine (map_size n _).mono ?_; rintro e w6 ⟨rfl, hb6⟩; obtain ⟨hc6, hf6⟩ := bcell hb6; have hz6 : w1.heap.size + 1 < w6.heap.size := by have := hb6.size; (try simp at this); omega)
    | (go_at_call 24; refine (ref_size n _).mono ?_; rintro e w' ⟨rfl, ⟨nd, rfl⟩⟩)
    | (go_at_call 19; refine (ref_cell n _ i _ (by omega) (by omega)).mono ?_; rintro e w' ⟨rfl, rfl⟩)
    | (go_at_call 25; refine (awake _).mono ?_; rintro e w7 ⟨rfl, hb7⟩))
  go_ret
  refine ⟨rfl, ?_⟩
  have c1 := below_alloc (below_alloc hb1 (.cells #[.int .i64 0] 26)) (.cells #[.int .i64 n] 26)
  have c2 := below_then c1 c1.size hb2
  have c3 := below_then c2 c2.size hb3
  have c4 := below_then c3 c3.size hb4
  have c5 := below_then c4 c4.size hb5
  have c6 := below_then c5 c5.size hb6
  have c7 := pw_below_drewN c6 nd
  exact below_then c7 c7.size hb7


set_option maxRecDepth 100000 in
set_option maxHeartbeats 2000000 in
theorem law_high (n i : Int) (w : World) (h0 : 1 ≤ n) (h1 : 64 < n) :
    Calls Try.prog 4 #[.int .i64 n, .int .i64 i] w fun e w' => e = .returned (.bool true) ∧ Below w.heap.size w w' := by
  have hN := Lib.hid (new_out (n := n) (by omega))
  go_enter Try.func4, Try.ntmps4
  go_wp2_with (first
    | (go_at_call 17; refine (place_New.calls n 0 2 _ hN.out).mono ?_; rintro e w1 ⟨rfl, hb1⟩)
    | (go_at_call 18; refine (map_next n i _).mono ?_; rintro e w2 ⟨rfl, hb2⟩; obtain ⟨hc2, hf2⟩ := bcell hb2; have hz2 : w1.heap.size + 1 < w2.heap.size := by have := hb2.size; (try simp at this); omega)
    | (go_at_call 20; refine (map_blocked n i _).mono ?_; rintro e w3 ⟨rfl, hb3⟩; obtain ⟨hc3, hf3⟩ := bcell hb3; have hz3 : w1.heap.size + 1 < w3.heap.size := by have := hb3.size; (try simp at this); omega)
    | (go_at_call 21; refine (map_watch n i _).mono ?_; rintro e w4 ⟨rfl, hb4⟩; obtain ⟨hc4, hf4⟩ := bcell hb4; have hz4 : w1.heap.size + 1 < w4.heap.size := by have := hb4.size; (try simp at this); omega)
    | (go_at_call 22; refine (map_permit n i _).mono ?_; rintro e w5 ⟨rfl, hb5⟩; obtain ⟨hc5, hf5⟩ := bcell hb5; have hz5 : w1.heap.size + 1 < w5.heap.size := by have := hb5.size; (try simp at this); omega)
    | (go_at_call 23; refine (map_size n _).mono ?_; rintro e w6 ⟨rfl, hb6⟩; obtain ⟨hc6, hf6⟩ := bcell hb6; have hz6 : w1.heap.size + 1 < w6.heap.size := by have := hb6.size; (try simp at this); omega)
    | (go_at_call 24; refine (ref_size n _).mono ?_; rintro e w' ⟨rfl, ⟨nd, rfl⟩⟩)
    | (go_at_call 19; refine (ref_cell n _ i _ (by omega) (by omega)).mono ?_; rintro e w' ⟨rfl, rfl⟩)
    | (go_at_call 25; refine (awake _).mono ?_; rintro e w7 ⟨rfl, hb7⟩))
  go_ret
  refine ⟨rfl, ?_⟩
  have c1 := below_alloc (below_alloc hb1 (.cells #[.int .i64 0] 26)) (.cells #[.int .i64 n] 26)
  have c2 := below_then c1 c1.size hb2
  have c3 := below_then c2 c2.size hb3
  have c4 := below_then c3 c3.size hb4
  have c5 := below_then c4 c4.size hb5
  have c6 := below_then c5 c5.size hb6
  have c7 := pw_below_drewN c6 nd
  exact below_then c7 c7.size hb7


theorem walk (n i : Int) (w : World) :
    Calls Try.prog 4 #[.int .i64 n, .int .i64 i] w fun e w' => e = .returned (.bool true) ∧ Below w.heap.size w w' := by
  by_cases a : n < 1
  · exact law_low n i w a
  · by_cases b : 64 < n
    · exact law_high n i w (by omega) b
    · exact law_in n i w (by omega) (by omega)

end Go.Proofs.Ytgbofijdjgpgeaa.Cells
