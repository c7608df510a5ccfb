/- Numerals: decimal digits and eight hexadecimal digits tell their numbers apart, and hold no blank. -/
import Derived.Test.YtejmbmhehbcflaaDoorFu
import Derived.Lib.ItoaMem
import Derived.Lib.ItoaLen
namespace Go.Proofs.YtejmbmhehbcflaaDoor.Digs
open Go.Proofs.YtejmbmhehbcflaaDoor.Fu

/-! decimal -/
theorem dec_small {u : Nat} (h : u < 10) : Lib.decDigits u = [UInt8.ofNat (48 + u)] := Lib.decDigits_one h
theorem dec_big {u : Nat} (h : ¬ u < 10) : Lib.decDigits u = Lib.decDigits (u / 10) ++ [UInt8.ofNat (48 + u % 10)] := by rw [Lib.decDigits, dif_neg h]
theorem ofNat_toNat {d : Nat} (h : d < 256) : (UInt8.ofNat d).toNat = d := by simp; omega
/-- The number of decimal digits. -/
def val10 (l : List UInt8) : Nat := l.foldl (fun a d => a * 10 + (d.toNat - 48)) 0
theorem val10_snoc (l : List UInt8) (d : UInt8) : val10 (l ++ [d]) = val10 l * 10 + (d.toNat - 48) := by simp [val10]
theorem val10_dec (u : Nat) : val10 (Lib.decDigits u) = u := by
  induction u using Nat.strongRecOn with
  | ind u ih =>
    by_cases h : u < 10
    · rw [dec_small h]
      simp only [val10, List.foldl]
      rw [ofNat_toNat (by omega)]
      omega
    · rw [dec_big h, val10_snoc, ih (u / 10) (by omega), ofNat_toNat (by omega)]
      omega
theorem dec_range (u : Nat) : ∀ d ∈ Lib.decDigits u, 48 ≤ d.toNat ∧ d.toNat ≤ 57 := by
  induction u using Nat.strongRecOn with
  | ind u ih =>
    by_cases h : u < 10
    · rw [dec_small h]
      intro d hd
      simp only [List.mem_singleton] at hd
      subst hd
      rw [ofNat_toNat (by omega)]
      omega
    · rw [dec_big h]
      intro d hd
      rcases List.mem_append.1 hd with hd | hd
      · exact ih (u / 10) (by omega) d hd
      · simp only [List.mem_singleton] at hd
        subst hd
        rw [ofNat_toNat (by omega)]
        omega
theorem dec_no {u : Nat} : (32 : UInt8) ∉ Lib.decDigits u := fun h => by have := (dec_range u 32 h).1; revert this; decide
theorem dec_inj {u v : Nat} (h : Lib.decDigits u = Lib.decDigits v) : u = v := by rw [← val10_dec u, h, val10_dec]
theorem itoa_dec {c : Int} (h : 0 ≤ c) : Lib.itoa c = Lib.decDigits c.toNat := by
  obtain ⟨n, rfl⟩ : ∃ n : Nat, c = n := ⟨c.toNat, by omega⟩
  rw [Lib.itoa_nonneg, Int.toNat_natCast]
theorem itoa_inj {c d : Int} (h1 : 0 ≤ c) (h2 : 0 ≤ d) (h : Lib.itoa c = Lib.itoa d) : c = d := by
  rw [itoa_dec h1, itoa_dec h2] at h
  have := dec_inj h
  omega
theorem dec_full (u : Nat) : Lib.decDigits u ≠ [] := by
  intro h
  have := Lib.decDigits_length u
  have h2 := Lib.nDigits_pos u
  rw [h] at this
  simp at this
  omega

/-! hexadecimal -/
/-- A digit's worth. -/
def worth (d : UInt8) : Nat := if d.toNat < 58 then d.toNat - 48 else d.toNat - 87
theorem worth_dig : ∀ d : Fin 16, worth (dig d.val) = d.val ∧ ((48 ≤ (dig d.val).toNat ∧ (dig d.val).toNat ≤ 57) ∨ (97 ≤ (dig d.val).toNat ∧ (dig d.val).toNat ≤ 102)) := by decide
def val16 (l : List UInt8) : Nat := l.foldl (fun a d => a * 16 + worth d) 0
theorem val16_snoc (l : List UInt8) (d : UInt8) : val16 (l ++ [d]) = val16 l * 16 + worth d := by simp [val16]
theorem val16_zeros (n : Nat) (l : List UInt8) : val16 (List.replicate n 48 ++ l) = val16 l := by
  induction n with
  | zero => rfl
  | succ n ih =>
    rw [List.replicate_succ, List.cons_append]
    simp only [val16, List.foldl_cons] at ih ⊢
    exact ih
theorem val16_hexs (u : Nat) : val16 (hexs u) = u := by
  induction u using Nat.strongRecOn with
  | ind u ih =>
    by_cases h : u < 16
    · rw [hexs_small h]
      have h1 : worth (dig u) = u := (worth_dig ⟨u, h⟩).1
      simp only [val16, List.foldl]
      omega
    · rw [hexs_big h, val16_snoc, ih (u / 16) (by omega), (worth_dig ⟨u % 16, by omega⟩).1]
      simp only
      omega
theorem val16_hex8 (u : Nat) : val16 (hex8 u) = u := by
  unfold hex8
  rw [val16_zeros, val16_hexs]
theorem hexs_range (u : Nat) : ∀ d ∈ hexs u, (48 ≤ d.toNat ∧ d.toNat ≤ 57) ∨ (97 ≤ d.toNat ∧ d.toNat ≤ 102) := by
  induction u using Nat.strongRecOn with
  | ind u ih =>
    by_cases h : u < 16
    · rw [hexs_small h]
      intro d hd
      simp only [List.mem_singleton] at hd
      subst hd
      exact (worth_dig ⟨u, h⟩).2
    · rw [hexs_big h]
      intro d hd
      rcases List.mem_append.1 hd with hd | hd
      · exact ih (u / 16) (by omega) d hd
      · simp only [List.mem_singleton] at hd
        subst hd
        exact (worth_dig ⟨u % 16, by omega⟩).2
theorem hex8_range (u : Nat) : ∀ d ∈ hex8 u, (48 ≤ d.toNat ∧ d.toNat ≤ 57) ∨ (97 ≤ d.toNat ∧ d.toNat ≤ 102) := by
  intro d hd
  rcases List.mem_append.1 hd with hd | hd
  · have := (List.mem_replicate.1 hd).2
    subst this
    decide
  · exact hexs_range u d hd
theorem hex8_no {u : Nat} : (32 : UInt8) ∉ hex8 u := fun h => by have := hex8_range u 32 h; revert this; decide
theorem hex8_inj {u v : Nat} (h : hex8 u = hex8 v) : u = v := by rw [← val16_hex8 u, h, val16_hex8]
end Go.Proofs.YtejmbmhehbcflaaDoor.Digs
