/- bound.Picks equals the reference at every three integers, grows with each of them where it is not zero and in range, and the example holds. -/
import Derived.Test.YtgbofijdjgpgeaaPBoundPicksx1
namespace Go.Proofs.Ytgbofijdjgpgeaa.Pure
open Go.RowKit Go.Proofs.Ytgbofijdjgpgeaa.PBoundPicks Go.Proofs.YtgbofijdjgpgeaaW.PrintWords Go.Proofs.YtgbofijdjgpgeaaW.PrintLast


theorem wrap_small {x : Int} (h0 : 0 ≤ x) (h1 : x ≤ 1000000000000000000) : wrap64 x = x := by
  unfold wrap64; omega

/-- The bound, without wraps. -/
def pk (n k h : Int) : Int := k * (n + 1) * (2 * h + 8 * n + 24)

theorem pk_bound {n k h : Int} (n0 : 1 ≤ n) (n1 : n ≤ 64) (k0 : 1 ≤ k) (k1 : k ≤ 1048576) (h0 : 1 ≤ h) (h1 : h ≤ 1048576) :
    0 < k * (n + 1) ∧ k * (n + 1) ≤ 70000000 ∧ 0 < 2 * h + 8 * n + 24 ∧ 2 * h + 8 * n + 24 ≤ 2100000 ∧ 0 < pk n k h ∧ pk n k h ≤ 147000000000000 := by
  have a : 0 < k * (n + 1) := Int.mul_pos (by omega) (by omega)
  have b : k * (n + 1) ≤ 1048576 * 65 := Int.mul_le_mul k1 (by omega) (by omega) (by omega)
  refine ⟨a, by omega, by omega, by omega, Int.mul_pos a (by omega), ?_⟩
  have c : k * (n + 1) * (2 * h + 8 * n + 24) ≤ 70000000 * 2100000 := Int.mul_le_mul (by omega) (by omega) (by omega) (by omega)
  unfold pk; omega

theorem picks_in {n k h : Int} (n0 : 1 ≤ n) (n1 : n ≤ 64) (k0 : 1 ≤ k) (k1 : k ≤ 1048576) (h0 : 1 ≤ h) (h1 : h ≤ 1048576) :
    bound_Picks.f n k h = some (pk n k h) := by
  obtain ⟨a, b, c, d, e, f⟩ := pk_bound n0 n1 k0 k1 h0 h1
  unfold bound_Picks.f bound_right.f
  rw [if_pos (by omega)]
  simp only [Option.bind_some]
  rw [if_pos (by simp; omega), if_neg (by omega), if_neg (by omega), if_neg (by omega), if_neg (by omega)]
  rw [wrap_small (x := n + 1) (by omega) (by omega), wrap_small (x := k * (n + 1)) (by omega) (by omega), wrap_small (x := 2 * h) (by omega) (by omega), wrap_small (x := 8 * n) (by omega) (by omega),
    wrap_small (x := 2 * h + 8 * n) (by omega) (by omega), wrap_small (x := 2 * h + 8 * n + 24) (by omega) (by omega)]
  rw [wrap_small (x := k * (n + 1) * (2 * h + 8 * n + 24)) (by unfold pk at e; omega) (by unfold pk at f; omega)]
  rfl

theorem ref_in {n k h : Int} (n0 : 1 ≤ n) (n1 : n ≤ 64) (k0 : 1 ≤ k) (k1 : k ≤ 1048576) (h0 : 1 ≤ h) (h1 : h ≤ 1048576) :
    stilemanref24_Picks.f n k h = some (pk n k h) := by
  obtain ⟨a, b, c, d, e, f⟩ := pk_bound n0 n1 k0 k1 h0 h1
  have x : (n + 1) * k = k * (n + 1) := Int.mul_comm _ _
  have y : 24 + 8 * n + h + h = 2 * h + 8 * n + 24 := by omega
  unfold stilemanref24_Picks.f
  rw [if_neg (by omega), if_neg (by omega), if_neg (by omega), if_neg (by omega), if_neg (by omega), if_neg (by omega)]
  rw [wrap_small (x := n + 1) (by omega) (by omega), x, wrap_small (x := k * (n + 1)) (by omega) (by omega), wrap_small (x := 8 * n) (by omega) (by omega),
    wrap_small (x := 24 + 8 * n) (by omega) (by omega), wrap_small (x := 24 + 8 * n + h) (by omega) (by omega), wrap_small (x := 24 + 8 * n + h + h) (by omega) (by omega), y]
  rw [wrap_small (x := k * (n + 1) * (2 * h + 8 * n + 24)) (by unfold pk at e; omega) (by unfold pk at f; omega)]
  rfl

theorem picks_out {n k h : Int} (o : ¬ (1 ≤ n ∧ n ≤ 64 ∧ 1 ≤ k ∧ k ≤ 1048576 ∧ 1 ≤ h ∧ h ≤ 1048576)) :
    bound_Picks.f n k h = some 0 ∧ stilemanref24_Picks.f n k h = some 0 := by
  unfold bound_Picks.f bound_right.f stilemanref24_Picks.f
  by_cases a : 1 ≤ n
  · by_cases b : n ≤ 64
    · rw [if_pos (by omega)]
      simp only [Option.bind_some]
      rw [if_pos (by simp; omega)]
      by_cases c : k < 1
      · simp only [if_pos c, if_neg (show ¬ n < 1 by omega), if_neg (show ¬ n > 64 by omega), and_self]
      · by_cases d : k > 1048576
        · simp only [if_neg c, if_pos d, if_neg (show ¬ n < 1 by omega), if_neg (show ¬ n > 64 by omega), and_self]
        · by_cases e : h < 1
          · simp only [if_neg c, if_neg d, if_pos e, if_neg (show ¬ n < 1 by omega), if_neg (show ¬ n > 64 by omega), and_self]
          · simp only [if_neg c, if_neg d, if_neg e, if_pos (show h > 1048576 by omega), if_neg (show ¬ n < 1 by omega), if_neg (show ¬ n > 64 by omega), and_self]
    · rw [if_pos (by omega)]
      simp only [Option.bind_some]
      rw [if_neg (by simp; omega), if_neg (by omega), if_pos (by omega)]
      exact ⟨rfl, rfl⟩
  · rw [if_neg (by omega)]
    simp only [Option.bind_some]
    rw [if_neg (by simp), if_pos (by omega)]
    exact ⟨rfl, rfl⟩

theorem awake_true : stilemanlaw24_awake.f = some true := by
  unfold stilemanlaw24_awake.f
  rw [picks_in (by omega) (by omega) (by omega) (by omega) (by omega) (by omega)]
  rfl

theorem pk_n {n k h : Int} (n0 : 1 ≤ n) (k0 : 1 ≤ k) (h0 : 1 ≤ h) : pk n k h < pk (n + 1) k h := by
  unfold pk
  have a : k * (n + 1) * (2 * h + 8 * n + 24) < k * (n + 1) * (2 * h + 8 * (n + 1) + 24) := Int.mul_lt_mul_of_pos_left (by omega) (Int.mul_pos (by omega) (by omega))
  have b : k * (n + 1) * (2 * h + 8 * (n + 1) + 24) ≤ k * (n + 1 + 1) * (2 * h + 8 * (n + 1) + 24) := Int.mul_le_mul_of_nonneg_right (Int.mul_le_mul_of_nonneg_left (by omega) (by omega)) (by omega)
  omega
theorem pk_k {n k h : Int} (n0 : 1 ≤ n) (h0 : 1 ≤ h) : pk n k h < pk n (k + 1) h := by
  unfold pk
  exact Int.mul_lt_mul_of_pos_right (Int.mul_lt_mul_of_pos_right (by omega) (by omega)) (by omega)
theorem pk_h {n k h : Int} (n0 : 1 ≤ n) (k0 : 1 ≤ k) : pk n k h < pk n k (h + 1) := by
  unfold pk
  exact Int.mul_lt_mul_of_pos_left (by omega) (Int.mul_pos (by omega) (by omega))

theorem BoundPicks : stilemanlaw24_BoundPicks.Pure := by
  intro n k h _ _ _
  refine ⟨1, ?_⟩
  unfold stilemanlaw24_BoundPicks.f
  by_cases o : 1 ≤ n ∧ n ≤ 64 ∧ 1 ≤ k ∧ k ≤ 1048576 ∧ 1 ≤ h ∧ h ≤ 1048576
  · obtain ⟨n0, n1, k0, k1, h0, h1⟩ := o
    obtain ⟨_, _, _, _, e, f⟩ := pk_bound n0 n1 k0 k1 h0 h1
    rw [picks_in n0 n1 k0 k1 h0 h1, ref_in n0 n1 k0 k1 h0 h1]
    simp only [Option.bind_some]
    rw [if_pos trivial, if_neg (by omega)]
    by_cases a : n = 64
    · rw [if_pos a]; simp [stilemanlaw24_BoundPicks.j0, awake_true]
    rw [if_neg a]
    by_cases b : k = 1048576
    · rw [if_pos b]; simp [stilemanlaw24_BoundPicks.j0, awake_true]
    rw [if_neg b]
    by_cases c : h = 1048576
    · simp [stilemanlaw24_BoundPicks.j0, awake_true, c]
    have hn := pk_n n0 k0 h0
    have hk := pk_k (k := k) n0 h0
    have hh := pk_h (h := h) n0 k0
    have hc : (h == 1048576) = false := by simp [c]
    rw [hc]
    simp only [stilemanlaw24_BoundPicks.j0, Bool.false_eq_true, if_false]
    rw [wrap_small (x := n + 1) (by omega) (by omega), wrap_small (x := k + 1) (by omega) (by omega), wrap_small (x := h + 1) (by omega) (by omega)]
    rw [picks_in (by omega) (by omega) k0 k1 h0 h1, picks_in n0 n1 (by omega) (by omega) h0 h1, picks_in n0 n1 k0 k1 (by omega) (by omega)]
    simp only [Option.bind_some, awake_true]
    rw [if_pos hn, if_pos hk, if_pos hh]
  · obtain ⟨x, y⟩ := picks_out o
    rw [x, y]
    simp [stilemanlaw24_BoundPicks.j0, awake_true]

end Go.Proofs.Ytgbofijdjgpgeaa.Pure
