/- The reference's names are place's; the law PlaceNames. -/
import Derived.Test.YtgbofijdjgpgeaaDoorName
namespace Go.Proofs.YtgbofijdjgpgeaaDoor.Nam
open Go.RowKit Go.Proofs.YtgbofijdjgpgeaaDoor.PPlaceNames Go.Proofs.YtgbofijdjgpgeaaDoorW.PrintWords Go.Proofs.YtgbofijdjgpgeaaDoorW.PrintLast Go.Proofs.YtgbofijdjgpgeaaDoorW.PrintMore
set_option linter.unusedSimpArgs false
set_option maxRecDepth 100000
abbrev rowsB : List ByteArray := [(⟨#[110, 101, 120, 116, 32]⟩ : ByteArray), (⟨#[98, 108, 111, 99, 107, 101, 100, 32]⟩ : ByteArray), (⟨#[119, 97, 116, 99, 104, 32]⟩ : ByteArray), (⟨#[112, 101, 114, 109, 105, 116, 32]⟩ : ByteArray)]
theorem own_f (kind : Int) : stilemanref03_Own.f kind = some (own kind) := by
  unfold stilemanref03_Own.f own
  repeat' split
  all_goals rfl
theorem rows_at (row : Nat) (h : row < 4) : rdOf ByteArray.empty rowsB (row : Int) = roww row ++ ⟨#[32]⟩ := by
  match row, h with
  | 0, _ => decide
  | 1, _ => decide
  | 2, _ => decide
  | 3, _ => decide
def word (row i : Nat) : ByteArray := roww row ++ ⟨#[32]⟩ ++ txt i
theorem wrap_id {x : Int} (h0 : -1000000000 ≤ x) (h1 : x ≤ 1000000000) : wrap64 x = x := by unfold wrap64; omega
theorem text_f (i : Nat) (hi : i < 64) (k : Nat) : stilemanref03_Text.f (k + 3) i = some (txt i) := by
  have ht := text_all ⟨i, hi⟩
  simp only at ht
  induction k with
  | zero => exact ht
  | succ k ih =>
    unfold stilemanref03_Text.f at ih ⊢
    rw [if_neg (by omega)] at ih ⊢
    exact stilemanref03_Text.mono_l (k + 3) _ _ _ ih
/-- No cell of the rows: nothing is found. -/
theorem none_l1 (n c : Int) (row : Nat) (hrow : row < 4) (hno : ∀ i : Nat, (i : Int) < n → i < 64 → ∃ v, stilemanref03_Cell.f n row i = some v ∧ ¬ (v = c ∧ c ≥ 0)) (k0 : Nat) : ∀ (r i : Nat), i + r = 64 →
    ∀ k, 2 * r + 2 + k0 ≤ k → ∀ res, (∀ k', k0 ≤ k' → stilemanref03_Name.l0 k' n c rowsB ((row + 1 : Nat) : Int) = some res) → stilemanref03_Name.l1 k n c rowsB row i = some res
  | 0, i, hi, k, hk, res, hr => by
    obtain ⟨k, rfl⟩ : ∃ k', k = k' + 2 := ⟨k - 2, by omega⟩
    have hw : wrap64 ((row : Int) + 1) = ((row + 1 : Nat) : Int) := by rw [wrap_id (by omega) (by omega)]; rfl
    have h64 : decide ((i : Int) < 64) = false := by simp; omega
    rw [stilemanref03_Name.l1]
    have h3 : stilemanref03_Name.j3 (k + 1) n c rowsB row i false = some res := by
      rw [stilemanref03_Name.j3, if_neg (by decide), hw]
      exact hr k (by omega)
    rw [h64]
    split <;> exact h3
  | r + 1, i, hi, k, hk, res, hr => by
    obtain ⟨k, rfl⟩ : ∃ k', k = k' + 2 := ⟨k - 2, by omega⟩
    have hw : wrap64 ((row : Int) + 1) = ((row + 1 : Nat) : Int) := by rw [wrap_id (by omega) (by omega)]; rfl
    have hwi : wrap64 ((i : Int) + 1) = ((i + 1 : Nat) : Int) := by rw [wrap_id (by omega) (by omega)]; rfl
    rw [stilemanref03_Name.l1]
    by_cases hin : (i : Int) < n
    · obtain ⟨v, hv, hne⟩ := hno i hin (by omega)
      have h64 : decide ((i : Int) < 64) = true := by simp; omega
      have hnext := none_l1 n c row hrow hno k0 r (i + 1) (by omega) k (by omega) res hr
      rw [if_pos hin, h64, stilemanref03_Name.j3, if_pos rfl, hv, Option.bind_some, hwi]
      by_cases hvc : v = c
      · rw [if_pos hvc, if_neg (fun h => hne ⟨hvc, h⟩)]; exact hnext
      · rw [if_neg hvc]; exact hnext
    · rw [if_neg hin, stilemanref03_Name.j3, if_neg (by decide), hw]
      exact hr (k) (by omega)
/-- The cell lies in this row: it is found. -/
theorem some_l1 (n c row : Nat) (hrow : row < 4) (hn : 1 ≤ n ∧ n ≤ 64) : ∀ (r i : Nat), c = 8 + row * n + i + r → i + r < n → ∀ k, 2 * r + 5 ≤ k → stilemanref03_Name.l1 k n c rowsB row i = some (word row (i + r))
  | r, i, hc, hin, k, hk => by
    obtain ⟨k, rfl⟩ : ∃ k', k = k' + 2 := ⟨k - 2, by omega⟩
    have hwi : wrap64 ((i : Int) + 1) = ((i + 1 : Nat) : Int) := by rw [wrap_id (by omega) (by omega)]; rfl
    have hm : row * n ≤ 192 := Nat.le_trans (Nat.mul_le_mul (show row ≤ 3 by omega) hn.2) (by decide)
    have hcell : stilemanref03_Cell.f n row i = some ((8 + row * n + i : Nat) : Int) := by
      unfold stilemanref03_Cell.f
      rw [if_neg (by omega), if_neg (by omega), if_neg (by omega), if_neg (by omega)]
      have e0 : (row : Int) * n = ((row * n : Nat) : Int) := (Int.natCast_mul row n).symm
      rw [e0]
      generalize row * n = z at hm
      rw [wrap_id (x := ((z : Nat) : Int)) (by omega) (by omega), wrap_id (x := 8 + ((z : Nat) : Int)) (by omega) (by omega), wrap_id (x := 8 + ((z : Nat) : Int) + (i : Int)) (by omega) (by omega)]
      congr 1
    have h64 : decide ((i : Int) < 64) = true := by simp; omega
    rw [stilemanref03_Name.l1, if_pos (by omega), h64, stilemanref03_Name.j3, if_pos rfl, hcell, Option.bind_some]
    match r, hc, hk, hin with
    | 0, hc, hk, hin =>
      obtain ⟨k, rfl⟩ : ∃ k', k = k' + 3 := ⟨k - 3, by omega⟩
      have ht2 := text_f i (by omega) k
      have hz := txt_size ⟨i, by omega⟩
      have hz2 := roww_size row
      simp only at hz
      rw [if_pos (by omega), if_pos (by omega), if_pos (by omega), if_pos (by show (row : Int) < 4; omega), ht2, Option.bind_some, rows_at row hrow, if_pos (by rw [ByteArray.size_append]; show (roww row).size + 1 + (txt i).size ≤ _; omega)]
      rfl
    | r + 1, hc, hk, hin =>
      rw [if_neg (by omega), hwi, some_l1 n c row hrow hn r (i + 1) (by omega) (by omega) k (by omega)]
      have : i + 1 + r = i + (r + 1) := by omega
      rw [this]
/-- A cell of the rows, or none: what the walk over the rows finds from a row on. -/
theorem l0_none (n c : Int) (hno : ∀ row i : Nat, row < 4 → (i : Int) < n → i < 64 → ∃ v, stilemanref03_Cell.f n row i = some v ∧ ¬ (v = c ∧ c ≥ 0)) : ∀ (d row : Nat), row + d = 4 → ∀ k, d * 131 + 1 ≤ k → stilemanref03_Name.l0 k n c rowsB row = some ⟨#[]⟩
  | 0, row, hd, k, hk => by
    obtain ⟨k, rfl⟩ : ∃ k', k = k' + 1 := ⟨k - 1, by omega⟩
    rw [stilemanref03_Name.l0, if_neg (by omega)]
  | d + 1, row, hd, k, hk => by
    obtain ⟨k, rfl⟩ : ∃ k', k = k' + 1 := ⟨k - 1, by omega⟩
    rw [stilemanref03_Name.l0, if_pos (by omega)]
    exact none_l1 n c row (by omega) (fun i h1 h2 => hno row i (by omega) h1 h2) (d * 131 + 1) 64 0 (by omega) k (by omega) _ (fun k' hk' => l0_none n c hno d (row + 1) (by omega) k' hk')
theorem cell_val (n row i : Nat) (hrow : row < 4) (hn : 1 ≤ n ∧ n ≤ 64) (hi : i < n) : stilemanref03_Cell.f n row i = some ((8 + row * n + i : Nat) : Int) := by
  have hm : row * n ≤ 192 := Nat.le_trans (Nat.mul_le_mul (show row ≤ 3 by omega) hn.2) (by decide)
  unfold stilemanref03_Cell.f
  rw [if_neg (by omega), if_neg (by omega), if_neg (by omega), if_neg (by omega)]
  have e0 : (row : Int) * n = ((row * n : Nat) : Int) := (Int.natCast_mul row n).symm
  rw [e0]
  generalize row * n = z at hm
  rw [wrap_id (x := ((z : Nat) : Int)) (by omega) (by omega), wrap_id (x := 8 + ((z : Nat) : Int)) (by omega) (by omega), wrap_id (x := 8 + ((z : Nat) : Int) + (i : Int)) (by omega) (by omega)]
  congr 1
theorem l0_some (n c : Nat) (hn : 1 ≤ n ∧ n ≤ 64) (hc8 : 8 ≤ c) : ∀ (d row : Nat), row + d = 4 → 8 + row * n ≤ c → c < 8 + 4 * n → ∀ k, d * 131 + 1 ≤ k → stilemanref03_Name.l0 k n c rowsB row = some (word ((c - 8) / n) ((c - 8) % n))
  | 0, row, hd, h1, h2, k, hk => by
    have : row = 4 := by omega
    subst this
    omega
  | d + 1, row, hd, h1, h2, k, hk => by
    obtain ⟨k, rfl⟩ : ∃ k', k = k' + 1 := ⟨k - 1, by omega⟩
    rw [stilemanref03_Name.l0, if_pos (by omega)]
    have hs : (row + 1) * n = row * n + n := Nat.succ_mul row n
    by_cases hin : c < 8 + row * n + n
    · obtain ⟨r, hr⟩ : ∃ r, c = 8 + row * n + 0 + r := ⟨c - 8 - row * n, by omega⟩
      rw [show (0 : Int) = ((0 : Nat) : Int) from rfl, some_l1 n c row (by omega) hn r 0 hr (by omega) k (by omega)]
      have hrn : r < n := by omega
      have e1 : c - 8 = r + n * row := by rw [Nat.mul_comm]; omega
      rw [e1, Nat.add_mul_div_left _ _ (by omega), Nat.add_mul_mod_self_left, Nat.div_eq_of_lt hrn, Nat.mod_eq_of_lt hrn, Nat.zero_add, Nat.zero_add]
    · refine none_l1 n c row (by omega) (fun i hi1 hi2 => ⟨_, cell_val n row i (by omega) hn (by omega), fun h => ?_⟩) (d * 131 + 1) 64 0 (by omega) k (by omega) _ (fun k' hk' => l0_some n c hn hc8 d (row + 1) (by omega) (by omega) h2 k' hk')
      omega
theorem name_f (n kind c : Int) : stilemanref03_Name.f 600 n kind c = some (nameL n kind c) := by
  unfold stilemanref03_Name.f
  rw [own_f, Option.bind_some]
  by_cases h0 : own kind = []
  · rw [h0, if_pos (by simp)]
    exact congrArg some (if_pos (.inl h0)).symm
  · have hpos : 0 < (own kind).length := List.length_pos_iff.2 h0
    have hlen := own_len kind
    rw [if_neg (by omega)]
    have hnone : (c < 0 ∨ c ≥ sizev n ∨ (c < 8 ∧ ¬ c < (own kind).length)) → stilemanref03_Name.j0 600 n c (own kind) false = some (nameL n kind c) := by
      intro h
      have hv : nameL n kind c = ⟨#[]⟩ := by
        unfold nameL
        by_cases h1 : own kind = [] ∨ c < 0 ∨ c ≥ sizev n
        · rw [if_pos h1]
        · have h2 : c < 8 ∧ ¬ c < (own kind).length := by
            rcases h with h | h | h
            · exact absurd (.inr (.inl h)) h1
            · exact absurd (.inr (.inr h)) h1
            · exact h
          rw [if_neg h1, if_neg h2.2, if_pos h2.1]
      rw [hv, stilemanref03_Name.j0, if_neg (by decide)]
      refine l0_none n c (fun row i hrow hi hi64 => ?_) 4 0 (by omega) 599 (by decide)
      by_cases hn : 1 ≤ n ∧ n ≤ 64
      · obtain ⟨nn, rfl⟩ := Int.eq_ofNat_of_zero_le (show 0 ≤ n by omega)
        refine ⟨_, cell_val nn row i hrow (by omega) (by omega), fun hh => ?_⟩
        have hs : sizev (nn : Int) = 8 + 4 * nn := if_pos hn
        rw [hs] at h
        have hm : row * nn ≤ 3 * nn := Nat.mul_le_mul_right nn (by omega)
        omega
      · refine ⟨-1, ?_, by omega⟩
        unfold stilemanref03_Cell.f
        by_cases h1 : n < 1
        · rw [if_pos h1]
        · rw [if_neg h1, if_pos (by omega)]
    by_cases hc : c ≥ 0
    · rw [if_pos hc]
      by_cases hl : c < ((own kind).length : Int)
      · rw [if_pos hl, rsize_f, Option.bind_some]
        by_cases hn : 1 ≤ n ∧ n ≤ 64
        · have hs : sizev n = 8 + 4 * n := if_pos hn
          have hb : decide (sizev n > 0) = true := by rw [hs]; simp; omega
          rw [hb, stilemanref03_Name.j0, if_pos rfl, if_pos hc, if_pos hl]
          unfold nameL
          rw [if_neg (by rw [hs]; rintro (h | h | h); exact h0 h; omega; omega), if_pos hl]
        · have hs : sizev n = 0 := if_neg hn
          have hb : decide (sizev n > 0) = false := by rw [hs]; rfl
          rw [hb]
          exact hnone (.inr (.inl (by rw [hs]; exact hc)))
      · rw [if_neg hl]
        by_cases hx : c ≥ sizev n ∨ c < 8
        · rcases hx with hx | hx
          · exact hnone (.inr (.inl hx))
          · exact hnone (.inr (.inr ⟨hx, hl⟩))
        · have hn : 1 ≤ n ∧ n ≤ 64 := by
            by_cases hn : 1 ≤ n ∧ n ≤ 64
            · exact hn
            · have hs : sizev n = 0 := if_neg hn
              rw [hs] at hx
              omega
          have hs : sizev n = 8 + 4 * n := if_pos hn
          obtain ⟨cc, rfl⟩ := Int.eq_ofNat_of_zero_le hc
          obtain ⟨nn, rfl⟩ := Int.eq_ofNat_of_zero_le (show 0 ≤ n by omega)
          rw [hs] at hx
          rw [stilemanref03_Name.j0, if_neg (by decide)]
          have := l0_some nn cc (by omega) (by omega) 4 0 (by omega) (by omega) (by omega) 599 (by decide)
          refine this.trans (congrArg some ?_)
          unfold nameL
          rw [if_neg (by rw [hs]; rintro (h | h | h); exact h0 h; omega; omega), if_neg hl, if_neg (by omega)]
          rfl
    · rw [if_neg hc]
      exact hnone (.inl (by omega))
theorem aw_f : stilemanlaw03_awake.f = some true := by decide +kernel
theorem names_walk (n kind c : Int) (w : World) : Calls Tryd.prog 3 #[.int .i64 n, .int .i64 kind, .int .i64 c] w fun e w' => e = .returned (.bool true) ∧ Below w.heap.size w w' := by
  have h1 := Lib.hid (name_walk n kind c)
  have h2 := Lib.hid (fun w => stilemanref03_Name.calls 600 n kind c (nameL n kind c) w (name_f n kind c))
  obtain ⟨nm, hnm⟩ : ∃ nm, nm = nameL n kind c := ⟨_, rfl⟩
  rw [← hnm] at h1 h2
  clear hnm
  go_enter Tryd.func3, Tryd.ntmps3
  go_wp2_with (first
    | (go_at_call 4; refine (h1.out _).mono ?_; clear h1; rintro e w1 ⟨rfl, hb1⟩; replace hb1 := Lib.hid hb1)
    | (go_at_call 5; refine (h2.out _).mono ?_; clear h2; rintro e w2 ⟨rfl, hb2⟩; replace hb2 := Lib.hid (below_then hb1.out hb1.out.size hb2))
    | (go_at_call 6; refine (stilemanlaw03_awake.calls true _ aw_f).mono ?_; rintro e w3 ⟨rfl, hb3⟩; replace hb3 := Lib.hid (below_then hb2.out hb2.out.size hb3)))
  go_ret
  exact ⟨rfl, hb3.out⟩
end Go.Proofs.YtgbofijdjgpgeaaDoor.Nam
