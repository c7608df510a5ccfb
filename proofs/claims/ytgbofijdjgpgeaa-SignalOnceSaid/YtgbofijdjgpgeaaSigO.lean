/- The law SignalOnce: walk. -/
import Derived.Test.YtgbofijdjgpgeaaSigL
import Derived.Test.YtgbofijdjgpgeaaWWords
import Derived.WalkSpells
namespace Go.Proofs.Ytgbofijdjgpgeaa.Sig
open Go.RowKit Go.Conc Go.Proofs.YtgbofijdjgpgeaaW.PrintWords

set_option maxRecDepth 100000 in
set_option maxHeartbeats 4000000 in
theorem once_walk (A : Option Addr) (cap : Nat) (l : List ByteArray) (w : World) (hm : l.length ≤ cap) (hC : Kd.C Kd.string w A l.length l) :
    Calls Try.prog 6 #[.slice A l.length cap] w fun e w' => e = .returned (.bool true) ∧ Below w.heap.size w w' := by
  have hmax := Kd.C_max hC
  by_cases hlen : 100 < l.length
  · clear hC
    generalize l.length = n at *
    go_enter Try.func6, Try.ntmps6
    go_wp2_with (go_at_call 29; refine (awake _).mono ?_; rintro e w9 ⟨rfl, hb9⟩)
    go_ret
    exact ⟨rfl, hb9⟩
  obtain ⟨n, hn⟩ : ∃ n, n = l.length := ⟨_, rfl⟩
  rw [← hn] at hC hlen hmax hm ⊢
  have HN := Lib.hid hn
  have HC := Lib.hid hC
  clear hn hC
  go_enter Try.func6, Try.ntmps6
  go_wp2_with (first
    | (go_at_call 30; refine (new_str _).mono ?_; rintro e w1 ⟨rfl, hB1, hb1⟩))
  obtain ⟨W0, hW0⟩ : ∃ n, n = w.heap.size := ⟨_, rfl⟩
  rw [← hW0] at hB1 hb1 ⊢
  have HW0 := Lib.hid hW0
  clear hW0
  go_loopw [4] (fun i wr => ∃ k : Nat, k ≤ n ∧ i = .int .i64 k ∧ Hid (Box wr 101 (W0 + 1) W0 none) ∧ Hid (Below W0 w wr)) (fun i _ => n - (intOf i).toNat)
  case atStart => exact ⟨0, Nat.zero_le _, rfl, hB1, hb1⟩
  case round =>
    obtain ⟨k, hk, rfl, hB, hb⟩ := hrel
    clear hB1 hb1
    by_cases hlt : k < n
    · have hCr : Kd.C Kd.string wr A n l := Kd.C_below HC.out (by rw [← HW0.out]; exact hb.out)
      obtain ⟨ad, rfl, hc⟩ := Kd.at_string hCr (k : Int) (by omega) (by omega)
      simp only [Int.toNat_natCast] at hc
      generalize rdOf ByteArray.empty l (k : Int) = s at hc
      have h0 := hB
      clear hCr hB
      have hbl := hb
      clear hb
      have hne : Hid ((ad.add k).block ≠ W0) := by
        obtain ⟨ad', e, hcw⟩ := Kd.at_string HC.out (k : Int) (by omega) (by omega)
        cases e
        have := World.block_lt_of_cell? _ _ hcw
        simp only [Int.toNat_natCast] at this
        rw [HW0.out]
        show (ad.add k).block ≠ _
        omega
      have HCS := Lib.hid hc
      go_wp2_with (first
        | (go_at_call 31; refine (put_str s _ _ none _ h0.out).mono ?_; clear h0; rintro e w2 ⟨rfl, h1, o1⟩; replace h1 := Lib.hid h1; replace o1 := Lib.hid o1)
        | (go_at_call 31; refine (put_str _ _ _ (some (.string s)) _ h1.out).mono ?_; clear h1; rintro e w3 ⟨rfl, h2, o2⟩; replace h2 := Lib.hid h2; replace o2 := Lib.hid o2)
        | (go_at_call 32; refine (full_str _ _ _ _ h2.out).mono ?_; rintro e w' ⟨rfl, rfl⟩)
        | (go_at_call 33; refine (take_str_full s _ _ _ h2.out).mono ?_; clear h2; rintro e w4 ⟨rfl, h3, o3⟩; have hc4 : w4.cell? (ad.add k) = some (.string s) := (World.cell?_of_block (o3.other _ hne.out)).trans ((World.cell?_of_block (o2.out.other _ hne.out)).trans ((World.cell?_of_block (o1.out.other _ hne.out)).trans HCS.out)); replace h3 := Lib.hid h3; replace o3 := Lib.hid o3)
        | (go_at_call 33; refine (take_str_empty _ _ _ h3.out).mono ?_; rintro e w' ⟨rfl, rfl⟩)
        | (go_at_call 32; refine (full_str _ _ _ _ h3.out).mono ?_; rintro e w' ⟨rfl, rfl⟩))
      go_roundw
      case rel => exact ⟨k + 1, by omega, by go_num, h3, o3.out.below (Nat.le_refl _) (o2.out.below (Nat.le_refl _) (o1.out.below (Nat.le_refl _) hbl.out))⟩
      case measure => simp [intOf]; omega
    · obtain rfl : k = n := by omega
      clear HC
      go_wp2_with (go_at_call 29; refine (awake _).mono ?_; rintro e w9 ⟨rfl, hb9⟩)
      go_ret
      rw [HW0.out] at hb
      exact ⟨rfl, below_next hb.out hb.out.size hb9⟩
end Go.Proofs.Ytgbofijdjgpgeaa.Sig
