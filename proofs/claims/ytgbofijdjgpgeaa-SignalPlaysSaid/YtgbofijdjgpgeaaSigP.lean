/- The reference's boxes and First where a box is full. -/
import Derived.Test.YtgbofijdjgpgeaaSigL
namespace Go.Proofs.Ytgbofijdjgpgeaa.Sig
open Go.RowKit Go.Conc

/-- Reference box: Put at an empty one, a full one; Take likewise. -/
theorem rput_free (g o : Nat) (x v : Int) (w : World) (h0 : w.cell? ⟨g, o, none⟩ = some (.bool false)) (h1 : w.cell? ⟨g, o + 1, none⟩ = some (.int .i64 v)) (f0 : w.frozen? ⟨g, o, none⟩ = false) (f1 : w.frozen? ⟨g, o + 1, none⟩ = false) :
    Calls Try.prog 36 #[.pointer (some ⟨g, o, none⟩), .int .i64 x] w fun e w' => e = .returned (.bool true) ∧ w' = (w.setCell ⟨g, o, none⟩ (.bool true)).setCell ⟨g, o + 1, none⟩ (.int .i64 x) := by
  go_enter Try.func36, Try.ntmps36
  go_wp2
  go_ret
  exact ⟨rfl, rfl⟩
theorem rput_full (g o : Nat) (x : Int) (w : World) (h0 : w.cell? ⟨g, o, none⟩ = some (.bool true)) :
    Calls Try.prog 36 #[.pointer (some ⟨g, o, none⟩), .int .i64 x] w fun e w' => e = .returned (.bool false) ∧ w = w' := by
  go_enter Try.func36, Try.ntmps36
  go_wp2
  go_ret
  exact ⟨rfl, rfl⟩
theorem rtake_free (g o : Nat) (w : World) (h0 : w.cell? ⟨g, o, none⟩ = some (.bool false)) :
    Calls Try.prog 38 #[.pointer (some ⟨g, o, none⟩)] w fun e w' => e = .returned (.tuple #[.int .i64 0, .bool false]) ∧ w = w' := by
  go_enter Try.func38, Try.ntmps38
  go_wp2
  go_ret2
  exact ⟨rfl, rfl⟩
theorem rtake_full (g o : Nat) (v : Int) (w : World) (h0 : w.cell? ⟨g, o, none⟩ = some (.bool true)) (h1 : w.cell? ⟨g, o + 1, none⟩ = some (.int .i64 v)) (f0 : w.frozen? ⟨g, o, none⟩ = false) :
    Calls Try.prog 38 #[.pointer (some ⟨g, o, none⟩)] w fun e w' => e = .returned (.tuple #[.int .i64 v, .bool true]) ∧ w' = w.setCell ⟨g, o, none⟩ (.bool false) := by
  go_enter Try.func38, Try.ntmps38
  go_wp2
  go_ret2
  exact ⟨rfl, rfl⟩

set_option maxHeartbeats 1000000 in
/-- First: the box at j is the first that gives something. -/
theorem first_some (g n cap j : Nat) (L : List Value) (x : Int) (w : World) (R : World → Prop) (hn : n ≤ 1000) (hj : j < n) (hL : ∀ i, i < n → w.cell? ⟨g, i, none⟩ = some (L.getD i undef))
    (hE : ∀ i, i < j → Calls Try.prog 37 #[L.getD i undef] w fun e w' => e = .returned (.tuple #[.int .i64 0, .bool false]) ∧ w = w')
    (hF : Calls Try.prog 37 #[L.getD j undef] w fun e w' => e = .returned (.tuple #[.int .i64 x, .bool true]) ∧ R w') :
    Calls Try.prog 39 #[.slice (some ⟨g, 0, none⟩) n cap] w fun e w' => e = .returned (.tuple #[.int .i64 x, .int .i64 (j : Int), .bool true]) ∧ R w' := by
  have HE := Lib.hid hE
  have HL := Lib.hid hL
  have HF := Lib.hid hF
  clear hE hL hF
  go_enter Try.func39, Try.ntmps39
  go_wp2
  go_loop [9, 2] (fun i v => ∃ k : Nat, k ≤ j ∧ i = .int .i64 k ∧ v = .int .i64 0) (fun i _ => n - (intOf i).toNat)
  case atStart => exact ⟨0, Nat.zero_le _, rfl, rfl⟩
  case round =>
    obtain ⟨k, hk, rfl, rfl⟩ := hrel
    have hkn : k < n := by omega
    obtain ⟨p, hp⟩ : ∃ p, p = L.getD k undef := ⟨_, rfl⟩
    have hc := HL.out k hkn
    rw [← hp] at hc
    by_cases hlt : k < j
    · have he := HE.out k hlt
      rw [← hp] at he
      have He := Lib.hid he
      clear he hp
      go_wp2_with (go_at_call 37; refine He.out.mono ?_; rintro e w' ⟨rfl, rfl⟩)
      go_round
      case rel => exact ⟨k + 1, by omega, by go_num, rfl⟩
      case measure => simp [intOf]; omega
    · obtain rfl : k = j := by omega
      have he := HF.out
      rw [← hp] at he
      have He := Lib.hid he
      clear he hp
      go_wp2_with (go_at_call 37; refine He.out.mono ?_; rintro e w1 ⟨rfl, hR⟩; replace hR := Lib.hid hR)
      go_ret3
      exact ⟨rfl, hR.out⟩

end Go.Proofs.Ytgbofijdjgpgeaa.Sig
