/- What acc.Parse makes of texts, and what the reference's acc functions answer: plain. -/
import Derived.Test.YtejmbmhehbcflaaDoorAPr
import Derived.Test.YtejmbmhehbcflaaDoorQ4
namespace Go.Proofs.YtejmbmhehbcflaaDoor.Acc
open Go.RowKit Go.Proofs.YtejmbmhehbcflaaDoorW.PrintWords Go.Proofs.YtejmbmhehbcflaaDoor.Pr Go.Proofs.YtejmbmhehbcflaaDoor.Jn Go.Proofs.YtejmbmhehbcflaaDoor.Fu Go.Proofs.YtejmbmhehbcflaaDoor.Digs
set_option linter.unusedSimpArgs false
set_option linter.unusedVariables false

/-! the guess -/
def fold16 (acc : Nat) (l : List UInt8) : Nat := l.foldl (fun a d => a * 16 + worth d) acc
theorem fold_ge : ∀ (l : List UInt8) (acc : Nat), acc ≤ fold16 acc l
  | [], acc => Nat.le_refl _
  | c :: l, acc => by
    have := fold_ge l (acc * 16 + worth c)
    show acc ≤ fold16 (acc * 16 + worth c) l
    omega
theorem dg_worth {c : UInt8} (h : (48 ≤ c.toNat ∧ c.toNat ≤ 57) ∨ (97 ≤ c.toNat ∧ c.toNat ≤ 102)) : dg c.toNat = worth c ∧ worth c ≠ 16 := by
  unfold worth
  rcases h with h | h
  · rw [dg_dig h, if_pos (by omega)]
    exact ⟨rfl, by omega⟩
  · rw [dg_low h, if_neg (by omega)]
    exact ⟨rfl, by omega⟩
theorem pu_fold : ∀ (l : List UInt8) (acc : Nat), (∀ d ∈ l, (48 ≤ d.toNat ∧ d.toNat ≤ 57) ∨ (97 ≤ d.toNat ∧ d.toNat ≤ 102)) → fold16 acc l ≤ 4294967295 → pu acc l = (fold16 acc l, 0)
  | [], acc, _, _ => rfl
  | c :: l, acc, h, hf => by
    obtain ⟨h1, h2⟩ := dg_worth (h c (by simp))
    have h3 := fold_ge l (acc * 16 + worth c)
    have hf' : fold16 (acc * 16 + worth c) l ≤ 4294967295 := hf
    rw [pu_step h1 h2 (by omega)]
    exact pu_fold l _ (fun d hd => h d (by simp [hd])) hf'
theorem hex8_full {v : Nat} (hv : v < 4294967296) : hex8 v ≠ [] := fun h => by have := hex8_len hv; rw [h] at this; exact absurd this (by decide)
theorem numV_hex {v : Nat} (hv : v < 4294967296) : numV ⟨(hex8 v).toArray⟩ = v := by
  have e : puS (hex8 v) = (v, 0) := by
    unfold puS
    rw [if_neg (hex8_full hv)]
    have hf : fold16 0 (hex8 v) = v := val16_hex8 v
    rw [pu_fold _ _ (hex8_range v) (by rw [hf]; omega), hf]
  unfold numV
  simp only [e]
  rfl
theorem atoi_at : ∀ n : Fin 1024, Note.atoiV ⟨(Lib.decDigits n.val).toArray⟩ = (n.val : Int) := by decide +kernel
theorem kf_at : ∀ k : Fin 6, 1 ≤ k.val → kf (wordA (k.val : Int)) 6 = (k.val : Int) := by decide +kernel
theorem itoa_no {c : Int} (h : 0 ≤ c) : (32 : UInt8) ∉ Lib.itoa c := by rw [itoa_dec h]; exact dec_no
theorem parts_no {k c x y o : Int} (h : Right k c x y) : ∀ p ∈ parts k c x y o, (32 : UInt8) ∉ p.data.toList := by
  have h3 := h.2.2.1
  intro p hp
  unfold parts at hp
  simp only [List.mem_append, List.mem_cons, List.not_mem_nil, or_false] at hp
  rcases hp with (((rfl | rfl) | hp) | hp) | (rfl | rfl)
  · exact word_no k
  · exact itoa_no h3
  · split at hp
    · obtain rfl := List.mem_singleton.1 hp
      exact hex8_no
    · exact absurd hp List.not_mem_nil
  · split at hp
    · obtain rfl := List.mem_singleton.1 hp
      exact hex8_no
    · exact absurd hp List.not_mem_nil
  · decide
  · exact hex8_no
theorem joined_eq (ps : List ByteArray) : joined ps = Note.joined ps := rfl
theorem cut_text {k c x y o : Int} (h : Right k c x y) : Note.cut (textB k c x y o) = parts k c x y o := by
  unfold textB
  rw [if_pos h]
  exact Note.cut_joined _ (by rw [parts_split]; simp) (parts_no h)
theorem u32_nat {x : Int} (h : 0 ≤ x ∧ x < 4294967296) : x.toNat < 4294967296 ∧ ((x.toNat : Nat) : Int) = x := by omega
theorem guess {k c x y o : Int} (h : Right k c x y) (hx : 0 ≤ x ∧ x < 4294967296) (hy : 0 ≤ y ∧ y < 4294967296) (ho : 0 ≤ o ∧ o < 4294967296) :
    kG (parts k c x y o) = k ∧ cG (parts k c x y o) = c ∧ xG (parts k c x y o) = x ∧ yG (parts k c x y o) = y ∧ oG (parts k c x y o) = o := by
  obtain ⟨h1, h2, h3, h4, h5, h6⟩ := h
  obtain ⟨ox, ex⟩ := u32_nat hx
  obtain ⟨oy, ey⟩ := u32_nat hy
  obtain ⟨oo, eo⟩ := u32_nat ho
  have hk : kG (parts k c x y o) = k := by
    unfold kG
    rw [parts_split, List.getD_cons_zero]
    have := kf_at ⟨k.toNat, by omega⟩ (by show 1 ≤ k.toNat; omega)
    simp only [Int.toNat_of_nonneg (show 0 ≤ k by omega)] at this
    exact this
  have hc : Note.atoiV ⟨(Lib.itoa c).toArray⟩ = c := by
    rw [itoa_dec h3]
    have := atoi_at ⟨c.toNat, by omega⟩
    simp only [Int.toNat_of_nonneg h3] at this
    exact this
  have nx : ((numV ⟨(hex8 x.toNat).toArray⟩ : Nat) : Int) = x := by rw [numV_hex ox]; exact ex
  have ny : ((numV ⟨(hex8 y.toNat).toArray⟩ : Nat) : Int) = y := by rw [numV_hex oy]; exact ey
  have no : ((numV ⟨(hex8 o.toNat).toArray⟩ : Nat) : Int) = o := by rw [numV_hex oo]; exact eo
  have hlen : 3 < (parts k c x y o).length := by
    unfold parts
    split <;> split <;> simp
  refine ⟨hk, ?_, ?_, ?_, ?_⟩
  · unfold cG
    rw [if_pos hlen, parts_split]
    exact hc
  · unfold xG
    rw [if_pos hlen, hk]
    unfold ux
    split
    · rename_i e
      exact (h5 e).symm
    · rename_i e
      rw [parts_split]
      unfold tailP
      rw [if_pos e]
      exact nx
  · unfold yG
    rw [if_pos hlen, hk]
    unfold uy
    split
    · rename_i e
      rw [parts_split]
      unfold tailP
      rw [if_pos (by omega), if_pos e]
      exact ny
    · rename_i e
      exact (h6 e).symm
  · unfold oG lastS
    rw [if_pos hlen]
    unfold parts
    split <;> split <;> exact no
/-- What acc.Parse gives, told by the accesses. -/
theorem out_of {k c x y o : Int} (h : Right k c x y) (hx : 0 ≤ x ∧ x < 4294967296) (hy : 0 ≤ y ∧ y < 4294967296) (ho : 0 ≤ o ∧ o < 4294967296) : outG (textB k c x y o) = .tuple #[aggV k c x y o, .int .i64 0] := by
  obtain ⟨e1, e2, e3, e4, e5⟩ := guess h hx hy ho
  unfold outG
  rw [cut_text h, e1, e2, e3, e4, e5, if_pos ⟨by have := h.1; omega, rfl⟩]
theorem kf_word : ∀ (i : Nat) (x : ByteArray), i ≤ 6 → kf x i ≠ 0 → ∃ j : Nat, 1 ≤ j ∧ j ≤ 5 ∧ wordA (j : Int) = x
  | 0, x, _, h => absurd rfl h
  | i + 1, x, hi, h => by
    by_cases e : i ≠ 0 ∧ wordA (i : Int) = x
    · exact ⟨i, by omega, by omega, e.2⟩
    · have : kf x (i + 1) = kf x i := if_neg e
      rw [this] at h
      exact kf_word i x (by omega) h
theorem kG_nil : kG (Note.cut ⟨#[]⟩) = 0 := by decide +kernel
theorem out_none {s : ByteArray} (h : ¬ ∃ k c x y o, Right k c x y ∧ (0 ≤ x ∧ x < 4294967296) ∧ (0 ≤ y ∧ y < 4294967296) ∧ (0 ≤ o ∧ o < 4294967296) ∧ textB k c x y o = s) : outG s = .tuple #[aggV 0 0 0 0 0, .int .i64 4] := by
  unfold outG
  rw [if_neg]
  rintro ⟨h1, h2⟩
  by_cases hR : Right (kG (Note.cut s)) (cG (Note.cut s)) (xG (Note.cut s)) (yG (Note.cut s))
  · refine h ⟨_, _, _, _, _, hR, ?_, ?_, ?_, h2⟩
    · unfold xG
      split
      · exact ux_le _ (numV_le _)
      · decide
    · unfold yG
      split
      · exact uy_le _ (numV_le _)
      · decide
    · unfold oG
      split
      · exact numV_le _
      · decide
  · rw [text_none _ hR] at h2
    rw [← h2] at h1
    exact h1 kG_nil

/-! the reference -/
def hx : Nat → Nat → List UInt8
  | 0, _ => []
  | n + 1, v => hx n (v / 16) ++ [dig (v % 16)]
theorem hx_hexs : ∀ (n v : Nat), v < 16 ^ (n + 1) → hx (n + 1) v = List.replicate (n + 1 - (hexs v).length) 48 ++ hexs v
  | 0, v, h => by
    have hv : v < 16 := by simpa using h
    rw [hexs_small hv]
    show [dig (v % 16)] = _
    rw [Nat.mod_eq_of_lt hv]
    rfl
  | n + 1, v, h => by
    have hd : v / 16 < 16 ^ (n + 1) := Nat.div_lt_of_lt_mul (by rw [Nat.mul_comm, ← Nat.pow_succ]; exact h)
    show hx (n + 1) (v / 16) ++ [dig (v % 16)] = _
    rw [hx_hexs n (v / 16) hd]
    by_cases h16 : v < 16
    · have e0 : v / 16 = 0 := by omega
      rw [e0, hexs_small h16, hexs_small (show 0 < 16 by decide), Nat.mod_eq_of_lt h16]
      show (List.replicate (n + 1 - 1) 48 ++ [48]) ++ [dig v] = List.replicate (n + 2 - 1) 48 ++ [dig v]
      rw [show n + 1 - 1 = n from rfl, show n + 2 - 1 = n + 1 from rfl, List.replicate_succ']
    · rw [hexs_big h16, List.length_append, List.append_assoc]
      show _ = List.replicate (n + 2 - ((hexs (v / 16)).length + 1)) 48 ++ _
      rw [show n + 2 - ((hexs (v / 16)).length + 1) = n + 1 - (hexs (v / 16)).length by omega]
theorem hx_8 {v : Nat} (h : v < 4294967296) : hx 8 v = hex8 v := hx_hexs 7 v (by simpa using h)
theorem hex_digit : ∀ d : Fin 16, ((⟨#[48, 49, 50, 51, 52, 53, 54, 55, 56, 57, 97, 98, 99, 100, 101, 102]⟩ : ByteArray).extract d.val (d.val + 1)) = ⟨#[dig d.val]⟩ := by decide +kernel
theorem hex_run : ∀ (d i v K : Nat) (s : ByteArray), i + d = 8 → v < 4294967296 → s.size ≤ i → ∃ t : ByteArray, stilemanref04_Hex.l0 (K + d + 1) (v : Int) s (i : Int) = some t ∧ t.data.toList = hx d v ++ s.data.toList
  | 0, i, v, K, s, h, hv, hs => by
    obtain rfl : i = 8 := by omega
    refine ⟨s, ?_, rfl⟩
    unfold stilemanref04_Hex.l0
    rw [if_neg (by decide)]
  | d + 1, i, v, K, s, h, hv, hs => by
    have e1 : Int.tmod (v : Int) 16 = ((v % 16 : Nat) : Int) := by rw [Int.tmod_eq_emod_of_nonneg (by omega)]; omega
    have e2 : Int.tdiv (v : Int) 16 % 4294967296 = ((v / 16 : Nat) : Int) := by rw [Int.tdiv_eq_ediv_of_nonneg (by omega)]; omega
    have e3 : (((v % 16 : Nat) : Int) + 1) % 4294967296 = ((v % 16 + 1 : Nat) : Int) := by omega
    have hd := hex_digit ⟨v % 16, by omega⟩
    simp only at hd
    unfold stilemanref04_Hex.l0
    rw [if_pos (by omega), e1, e2, e3, if_pos (by omega), if_pos (by omega), if_pos (by omega), Int.toNat_natCast, Int.toNat_natCast, hd, if_pos (by show 1 + s.size ≤ _; omega), show wrap64 ((i : Int) + 1) = ((i + 1 : Nat) : Int) by unfold wrap64; omega]
    obtain ⟨t, h1, h2⟩ := hex_run d (i + 1) (v / 16) K (⟨#[dig (v % 16)]⟩ ++ s) (by omega) (by omega) (by rw [ByteArray.size_append]; show 1 + s.size ≤ _; omega)
    refine ⟨t, h1, ?_⟩
    rw [h2]
    show hx d (v / 16) ++ _ = (hx d (v / 16) ++ [dig (v % 16)]) ++ s.data.toList
    rw [ByteArray.data_append, Array.toList_append, List.append_assoc]
theorem hex_f (v : Nat) (h : v < 4294967296) : stilemanref04_Hex.f 10 (v : Int) = some ⟨(hex8 v).toArray⟩ := by
  obtain ⟨t, h1, h2⟩ := hex_run 8 0 v 1 ⟨#[]⟩ (by decide) h (Nat.le_refl _)
  unfold stilemanref04_Hex.f
  rw [show (0 : Int) = ((0 : Nat) : Int) from rfl, h1]
  congr 1
  rw [hx_8 h] at h2
  exact Note.bytes_eq (by rw [ByteArray.toList_eq, ByteArray.toList_eq, h2]; simp)
theorem hex_k (v : Int) (h : 0 ≤ v ∧ v < 4294967296) (k : Nat) (hk : 10 ≤ k) : stilemanref04_Hex.f k v = some ⟨(hex8 v.toNat).toArray⟩ := by
  obtain ⟨h1, h2⟩ := u32_nat h
  have := Note.mono_le (f := fun k => stilemanref04_Hex.f k v) (fun k => stilemanref04_Hex.mono v k) (by have := hex_f v.toNat h1; rw [h2] at this; exact this) (k - 10)
  rw [show 10 + (k - 10) = k by omega] at this
  exact this
theorem rdec_all : ∀ i : Fin 1024, stilemanref03_Text.f 5 (i.val : Int) = some ⟨(Lib.decDigits i.val).toArray⟩ := by decide +kernel
theorem rdec_c (c : Int) (h0 : 0 ≤ c) (h1 : c ≤ 1023) (k : Nat) (hk : 5 ≤ k) : stilemanref03_Text.f k c = some ⟨(Lib.itoa c).toArray⟩ := by
  have h2 := rdec_all ⟨c.toNat, by omega⟩
  simp only [Int.toNat_of_nonneg h0] at h2
  have := Note.mono_le (f := fun k => stilemanref03_Text.f k c) (fun k => stilemanref03_Text.mono c k) h2 (k - 5)
  rw [show 5 + (k - 5) = k by omega] at this
  rw [itoa_dec h0]
  exact this
theorem rword_f (k : Int) : stilemanref04_word.f k = some (wordA k) := by
  unfold stilemanref04_word.f wordA
  repeat' split
  all_goals rfl
theorem word_nil (k : Int) : (wordA k).toList = [] ↔ ¬ (1 ≤ k ∧ k ≤ 5) := by
  by_cases h : 1 ≤ k ∧ k ≤ 5
  · have : k = 1 ∨ k = 2 ∨ k = 3 ∨ k = 4 ∨ k = 5 := by omega
    rcases this with rfl | rfl | rfl | rfl | rfl <;> decide +kernel
  · have : wordA k = ⟨#[]⟩ := by
      unfold wordA
      rw [if_neg (by omega), if_neg (by omega), if_neg (by omega), if_neg (by omega), if_neg (by omega)]
    rw [this]
    exact ⟨fun _ => h, fun _ => by decide +kernel⟩
theorem rright_f (k c x y o : Int) : stilemanref04_Right.f k c x y o = some (decide (Right k c x y)) := by
  unfold stilemanref04_Right.f
  rw [rword_f, Option.bind_some]
  by_cases hk : 1 ≤ k ∧ k ≤ 5
  · rw [if_neg (by rw [word_nil]; exact fun h => h hk)]
    by_cases c0 : c ≥ 0
    · rw [if_pos c0]
      by_cases c1 : c ≤ 1023
      · rw [if_pos c1]
        have hy : (if k = 5 then some true else some (y == 0)) = some (decide (k ≠ 5 → y = 0)) := by
          by_cases k5 : k = 5
          · rw [if_pos k5, decide_eq_true (fun h => absurd k5 h)]
          · rw [if_neg k5]
            congr 1
            rw [Bool.eq_iff_iff, beq_iff_eq, decide_eq_true_iff]
            exact ⟨fun h _ => h, fun h => h k5⟩
        rw [hy]
        by_cases k1 : k = 1 ∧ x ≠ 0
        · rw [if_pos k1.1, if_neg k1.2, decide_eq_false (fun h => k1.2 (h.2.2.2.2.1 k1.1))]
        · have e : (if k = 1 then if x = 0 then some (decide (k ≠ 5 → y = 0)) else some false else some (decide (k ≠ 5 → y = 0))) = some (decide (k ≠ 5 → y = 0)) := by
            by_cases q : k = 1
            · rw [if_pos q, if_pos (by omega)]
            · rw [if_neg q]
          rw [e]
          congr 1
          rw [Bool.eq_iff_iff, decide_eq_true_iff, decide_eq_true_iff]
          exact ⟨fun h => ⟨hk.1, hk.2, c0, c1, fun q => by omega, h⟩, fun h => h.2.2.2.2.2⟩
      · rw [if_neg c1, decide_eq_false (fun h => c1 h.2.2.2.1)]
    · rw [if_neg c0, decide_eq_false (fun h => c0 h.2.2.1)]
  · rw [if_pos ((word_nil k).2 hk), decide_eq_false (fun h => hk ⟨h.1, h.2.1⟩)]
theorem sz_hex {v : Int} (h : 0 ≤ v ∧ v < 4294967296) : (⟨(hex8 v.toNat).toArray⟩ : ByteArray).size = 8 := by
  have := hex8_len (u32_nat h).1
  show (hex8 v.toNat).toArray.size = 8
  rw [List.size_toArray, this]
theorem sz_word (k : Int) : (wordA k).size ≤ 100 := by
  have := wordA_len k
  rw [Array.length_toList] at this
  exact this
theorem sz_itoa {c : Int} (h0 : 0 ≤ c) (h1 : c ≤ 1023) : (⟨(Lib.itoa c).toArray⟩ : ByteArray).size ≤ 100 := by
  have := itoa_len h0 h1
  show (Lib.itoa c).toArray.size ≤ 100
  rw [List.size_toArray]
  exact this
theorem joined_cons' (x y : ByteArray) (l : List ByteArray) : joined (x :: y :: l) = x ++ ⟨#[32]⟩ ++ joined (y :: l) := Note.joined_cons x y l
theorem joined_one' (x : ByteArray) : joined [x] = x := Note.joined_one x
theorem rtext_f {k c x y o : Int} (h : Right k c x y) (hx : 0 ≤ x ∧ x < 4294967296) (hy : 0 ≤ y ∧ y < 4294967296) (ho : 0 ≤ o ∧ o < 4294967296) : stilemanref04_Text.f 20 k c x y o = some (textB k c x y o) := by
  have z1 := sz_word k
  have z2 := sz_itoa h.2.2.1 h.2.2.2.1
  have z3 := sz_hex hx
  have z4 := sz_hex hy
  have z5 := sz_hex ho
  have n1 : (⟨#[32]⟩ : ByteArray).size = 1 := rfl
  have n5 : (⟨#[32, 119, 97, 115, 32]⟩ : ByteArray).size = 5 := rfl
  unfold stilemanref04_Text.f textB
  rw [if_pos h, rright_f, decide_eq_true h, Option.bind_some, if_pos rfl, rword_f, Option.bind_some, rdec_c c h.2.2.1 h.2.2.2.1 20 (by decide), hex_k x hx 20 (by decide)]
  unfold stilemanref04_Text.j0
  simp only [Option.bind_some, hex_k y hy 19 (by decide), hex_k o ho 19 (by decide), ByteArray.size_append, z3, z4, z5, n1, n5]
  unfold parts
  obtain ⟨W, hW⟩ : ∃ W, W = wordA k := ⟨_, rfl⟩
  obtain ⟨C, hC⟩ : ∃ C : ByteArray, C = ⟨(Lib.itoa c).toArray⟩ := ⟨_, rfl⟩
  obtain ⟨X, hX⟩ : ∃ X : ByteArray, X = ⟨(hex8 x.toNat).toArray⟩ := ⟨_, rfl⟩
  obtain ⟨Y, hY⟩ : ∃ Y : ByteArray, Y = ⟨(hex8 y.toNat).toArray⟩ := ⟨_, rfl⟩
  obtain ⟨O, hO⟩ : ∃ O : ByteArray, O = ⟨(hex8 o.toNat).toArray⟩ := ⟨_, rfl⟩
  rw [← hW] at z1
  rw [← hC] at z2
  rw [← hW, ← hC, ← hX, ← hY, ← hO]
  have e5 : (⟨#[32, 119, 97, 115, 32]⟩ : ByteArray) = ⟨#[32]⟩ ++ ⟨#[119, 97, 115]⟩ ++ ⟨#[32]⟩ := by decide +kernel
  by_cases k1 : k = 1
  · have k5 : ¬ k = 5 := by omega
    simp only [if_pos k1, if_neg k5, if_neg (show ¬ k ≠ 1 from fun h => h k1)]
    rw [if_pos (by omega), if_pos (by omega), if_pos (by omega), if_pos (by omega)]
    congr 1
    simp only [List.append_nil, List.cons_append, List.nil_append, joined_cons', joined_one']
    rw [e5]
    simp only [ByteArray.append_assoc]
  · by_cases k5 : k = 5
    · simp only [if_neg k1, if_pos k5, if_pos (show k ≠ 1 from k1)]
      rw [if_pos (by omega), if_pos (by omega), if_pos (by omega), if_pos (by omega), if_pos (by omega), if_pos (by omega), if_pos (by omega), if_pos (by omega)]
      congr 1
      simp only [List.append_nil, List.cons_append, List.nil_append, joined_cons', joined_one']
      rw [e5]
      simp only [ByteArray.append_assoc]
    · simp only [if_neg k1, if_neg k5, if_pos (show k ≠ 1 from k1)]
      rw [if_pos (by omega), if_pos (by omega), if_pos (by omega), if_pos (by omega), if_pos (by omega), if_pos (by omega)]
      congr 1
      simp only [List.append_nil, List.cons_append, List.nil_append, joined_cons', joined_one']
      rw [e5]
      simp only [ByteArray.append_assoc]
theorem rtext_no {k c x y : Int} (o : Int) (h : ¬ Right k c x y) : stilemanref04_Text.f 20 k c x y o = some (textB k c x y o) := by
  unfold stilemanref04_Text.f textB
  rw [if_neg h, rright_f, decide_eq_false h]
  rfl
theorem rtext_walk (k c x y o : Int) (w : World) (hx : 0 ≤ x ∧ x < 4294967296) (hy : 0 ≤ y ∧ y < 4294967296) (ho : 0 ≤ o ∧ o < 4294967296) :
    Calls Tryd.prog 45 #[.agg #[.int .i64 k, .int .i64 c, .int .u32 x, .int .u32 y, .int .u32 o]] w fun e w' => e = .returned (.string (textB k c x y o)) ∧ Below w.heap.size w w' := by
  by_cases h : Right k c x y
  · exact stilemanref04_Text.calls 20 k c x y o _ w (rtext_f h hx hy ho)
  · exact stilemanref04_Text.calls 20 k c x y o _ w (rtext_no o h)
theorem rright_walk (k c x y o : Int) (w : World) :
    Calls Tryd.prog 44 #[.agg #[.int .i64 k, .int .i64 c, .int .u32 x, .int .u32 y, .int .u32 o]] w fun e w' => e = .returned (.bool (decide (Right k c x y))) ∧ Below w.heap.size w w' :=
  stilemanref04_Right.calls k c x y o _ w (rright_f k c x y o)
end Go.Proofs.YtejmbmhehbcflaaDoor.Acc
