/- The reference's acc.Parse, line by line: plain. -/
import Derived.Test.YtejmbmhehbcflaaDoorARp
namespace Go.Proofs.YtejmbmhehbcflaaDoor.Acc
open Go.RowKit Go.Proofs.YtejmbmhehbcflaaDoorW.PrintWords Go.Proofs.YtejmbmhehbcflaaDoor.Pr Go.Proofs.YtejmbmhehbcflaaDoor.Jn Go.Proofs.YtejmbmhehbcflaaDoor.Fu Go.Proofs.YtejmbmhehbcflaaDoor.Digs
set_option linter.unusedSimpArgs false
set_option linter.unusedVariables false

theorem rd_at (l : List ByteArray) (i : Nat) : rdOf ByteArray.empty l (i : Int) = at_ l i := by
  unfold rdOf at_
  rw [Int.toNat_natCast]
theorem l0_run (l : List ByteArray) (hl : 1 ≤ l.length) (K : Nat) : ∀ (d i : Nat), i + d = 6 → 1 ≤ i → stilemanref04_Parse.l0 (K + d) l (i : Int) (kf (at_ l 0) i) 0 0 0 0 = stilemanref04_Parse.l0 K l 6 (kf (at_ l 0) 6) 0 0 0 0
  | 0, i, h, h1 => by
    obtain rfl : i = 6 := by omega
    rfl
  | d + 1, i, h, h1 => by
    have ew : wrap64 ((i : Int) + 1) = ((i + 1 : Nat) : Int) := by unfold wrap64; omega
    rw [← l0_run l hl K d (i + 1) (by omega) (by omega), show K + (d + 1) = K + d + 1 from rfl]
    conv => lhs; unfold stilemanref04_Parse.l0
    rw [if_pos (by omega), if_pos (by omega), rword_f, Option.bind_some, ew, show rdOf ByteArray.empty l 0 = at_ l 0 from rd_at l 0]
    by_cases e : wordA (i : Int) = at_ l 0
    · have ek : kf (at_ l 0) (i + 1) = (i : Int) := if_pos ⟨by omega, e⟩
      rw [if_pos (by rw [e]), ek]
    · have ek : kf (at_ l 0) (i + 1) = kf (at_ l 0) i := if_neg (fun q => e q.2)
      rw [if_neg (fun q => e (Note.bytes_eq q.symm)), ek]
def isD (c : UInt8) : Prop := 48 ≤ c.toNat ∧ c.toNat ≤ 57
theorem val10_take {l : List UInt8} {i : Nat} (h : i < l.length) : val10 (l.take (i + 1)) = val10 (l.take i) * 10 + (l[i].toNat - 48) := by
  rw [List.take_succ_eq_append_getElem h, val10_snoc]
theorem ev_step {a b : Nat} (ha : a ≤ 10000) (hb : 48 ≤ b ∧ b ≤ 57) : wrap64 (wrap64 (wrap64 ((a : Int) * 10) + wrap64 (b : Int)) - 48) = ((a * 10 + (b - 48) : Nat) : Int) := by
  unfold wrap64
  omega
theorem dig_run (l : List ByteArray) (hl : 1 < l.length) (hs : (at_ l 1).size ≤ 4) (k : Int) (K : Nat) : ∀ (d i : Nat), i + d = (at_ l 1).size → val10 ((at_ l 1).data.toList.take i) < 10 ^ i →
    (stilemanref04_Parse.l1 (K + d + 1) l (i : Int) k (val10 ((at_ l 1).data.toList.take i) : Int) 0 0 0 = some (0, 0, 0, 0, 0, 4) ∧ ∃ c ∈ (at_ l 1).data.toList, ¬ isD c) ∨
    stilemanref04_Parse.l1 (K + d + 1) l (i : Int) k (val10 ((at_ l 1).data.toList.take i) : Int) 0 0 0 = stilemanref04_Parse.l1 (K + 1) l ((at_ l 1).size : Int) k (val10 (at_ l 1).data.toList : Int) 0 0 0 ∧ val10 (at_ l 1).data.toList < 10000
  | 0, i, h, hv => by
    obtain rfl : i = (at_ l 1).size := by omega
    have e : (at_ l 1).data.toList.take (at_ l 1).size = (at_ l 1).data.toList := List.take_of_length_le (by rw [Array.length_toList]; exact Nat.le_refl _)
    rw [e] at hv ⊢
    refine .inr ⟨rfl, ?_⟩
    have : 10 ^ (at_ l 1).size ≤ 10 ^ 4 := Nat.pow_le_pow_right (by decide) hs
    have e4 : 10 ^ 4 = 10000 := by decide
    omega
  | d + 1, i, h, hv => by
    have hi : i < (at_ l 1).size := by omega
    have hil : i < (at_ l 1).data.toList.length := by rw [Array.length_toList]; exact hi
    have ew : wrap64 ((i : Int) + 1) = ((i + 1 : Nat) : Int) := by unfold wrap64; omega
    have hp : 10 ^ i ≤ 10 ^ 4 := Nat.pow_le_pow_right (by decide) (by omega)
    have e4 : 10 ^ 4 = 10000 := by decide
    have hc256 := ((at_ l 1).data.toList[i]'hil).toNat_lt
    rw [show K + (d + 1) + 1 = (K + d + 1) + 1 from rfl]
    unfold stilemanref04_Parse.l1
    rw [if_pos (by omega), show rdOf ByteArray.empty l 1 = at_ l 1 from rd_at l 1, if_pos (by omega), if_pos (by omega), bt_get hi, ew]
    by_cases h1 : ((at_ l 1).data.toList[i]'hil).toNat < 48
    · rw [if_pos (by omega)]
      exact .inl ⟨rfl, _, List.getElem_mem hil, fun q => by have := q.1; omega⟩
    · rw [if_neg (by omega)]
      by_cases h2 : ((at_ l 1).data.toList[i]'hil).toNat > 57
      · rw [if_pos (by omega)]
        exact .inl ⟨rfl, _, List.getElem_mem hil, fun q => by have := q.2; omega⟩
      · rw [if_neg (by omega)]
        have hn := val10_take hil
        have ev : wrap64 (wrap64 (wrap64 ((val10 ((at_ l 1).data.toList.take i) : Int) * 10) + wrap64 (((at_ l 1).data.toList[i]'hil).toNat : Int)) - 48) = ((val10 ((at_ l 1).data.toList.take (i + 1)) : Nat) : Int) := by
          rw [hn]
          exact ev_step (by omega) (by omega)
        rw [ev]
        have hp2 : val10 ((at_ l 1).data.toList.take (i + 1)) < 10 ^ (i + 1) := by
          rw [hn, Nat.pow_succ]
          generalize val10 ((at_ l 1).data.toList.take i) = a at hv
          generalize ((at_ l 1).data.toList[i]'hil).toNat = b at h1 h2
          generalize 10 ^ i = p at hv
          omega
        exact dig_run l hl hs k K d (i + 1) (by omega) hp2
theorem one_digit {d : Int} (h : 0 ≤ d ∧ d ≤ 9) : strOfNums [(wrap64 (48 + d)) % 256] = ⟨#[UInt8.ofNat (48 + d.toNat)]⟩ := by
  have : d = 0 ∨ d = 1 ∨ d = 2 ∨ d = 3 ∨ d = 4 ∨ d = 5 ∨ d = 6 ∨ d = 7 ∨ d = 8 ∨ d = 9 := by omega
  rcases this with rfl | rfl | rfl | rfl | rfl | rfl | rfl | rfl | rfl | rfl <;> decide +kernel
theorem rdec_run : ∀ (j n K : Nat) (t : ByteArray), n < 10 ^ (j + 1) → j ≤ 8 → t.size + j ≤ 100 → ∃ r : ByteArray, stilemanref03_Text.l0 (K + j + 1) (n : Int) t = some r ∧ r.data.toList = Lib.decDigits n ++ t.data.toList
  | 0, n, K, t, h, hj, hs => by
    have hn : n < 10 := by simpa using h
    unfold stilemanref03_Text.l0
    rw [if_neg (by omega), Option.bind_some, one_digit (by omega), Int.toNat_natCast, if_pos (by show 1 + t.size ≤ _; omega), dec_small hn]
    refine ⟨_, rfl, ?_⟩
    rw [ByteArray.data_append, Array.toList_append]
  | j + 1, n, K, t, h, hj, hs => by
    by_cases hn : n < 10
    · unfold stilemanref03_Text.l0
      rw [if_neg (by omega), Option.bind_some, one_digit (by omega), Int.toNat_natCast, if_pos (by show 1 + t.size ≤ _; omega), dec_small hn]
      refine ⟨_, rfl, ?_⟩
      rw [ByteArray.data_append, Array.toList_append]
    · have e1 : Int.tmod (n : Int) 10 = ((n % 10 : Nat) : Int) := by rw [Int.tmod_eq_emod_of_nonneg (by omega)]; omega
      have hb : n < 10 ^ 10 := Nat.lt_of_lt_of_le h (Nat.pow_le_pow_right (by decide) (by omega))
      have e10 : (10 : Nat) ^ 10 = 10000000000 := by decide
      have e2 : wrap64 (Int.tdiv (n : Int) 10) = ((n / 10 : Nat) : Int) := by rw [Int.tdiv_eq_ediv_of_nonneg (by omega)]; unfold wrap64; omega
      have hd : n / 10 < 10 ^ (j + 1) := Nat.div_lt_of_lt_mul (by rw [Nat.mul_comm, ← Nat.pow_succ]; exact h)
      rw [show K + (j + 1) + 1 = (K + j + 1) + 1 from rfl]
      unfold stilemanref03_Text.l0
      rw [if_pos (by omega), Option.bind_some, e1, one_digit (by omega), Int.toNat_natCast, if_pos (by show 1 + t.size ≤ _; omega), e2]
      obtain ⟨r, h1, h2⟩ := rdec_run j (n / 10) K (⟨#[UInt8.ofNat (48 + n % 10)]⟩ ++ t) hd (by omega) (by rw [ByteArray.size_append]; show 1 + t.size + j ≤ 100; omega)
      refine ⟨r, h1, ?_⟩
      rw [h2, dec_big hn, ByteArray.data_append, Array.toList_append, List.append_assoc]
theorem rdec_n (n : Nat) (h : n < 10000) (k : Nat) (hk : 6 ≤ k) : stilemanref03_Text.f k (n : Int) = some ⟨(Lib.decDigits n).toArray⟩ := by
  obtain ⟨r, h1, h2⟩ := rdec_run 3 n (k - 4) ⟨#[]⟩ (by simpa using h) (by decide) (by decide)
  rw [show k - 4 + 3 + 1 = k by omega] at h1
  unfold stilemanref03_Text.f
  rw [if_neg (by omega), h1]
  congr 1
  exact Note.bytes_eq (by rw [ByteArray.toList_eq, ByteArray.toList_eq, h2]; simp)
theorem j3_f (K : Nat) (l : List ByteArray) (k c x y o : Int) : stilemanref04_Parse.j3 (K + 1) l false k c x y o = (if 0 ≤ (wrap64 ((l.length : Int) - 1)) then (if (wrap64 ((l.length : Int) - 1)) < (l.length : Int) then ((stilemanref04_hex.f K (rdOf ByteArray.empty l (wrap64 ((l.length : Int) - 1)))).bind fun bt187 => (if bt187.2 = true then (if k = 1 then (stilemanref04_Parse.j4 K l k c x y bt187.1) else (if 2 < (l.length : Int) then ((stilemanref04_hex.f K (rdOf ByteArray.empty l 2)).bind fun bt190 => (if bt190.2 = true then (stilemanref04_Parse.j4 K l k c bt190.1 y bt187.1) else (some (0, 0, 0, 0, 0, 4)))) else (none))) else (some (0, 0, 0, 0, 0, 4)))) else (none)) else (none)) := rfl
theorem j4_f (K : Nat) (l : List ByteArray) (k c x y o : Int) : stilemanref04_Parse.j4 (K + 1) l k c x y o = (if k = 5 then (if 3 < (l.length : Int) then ((stilemanref04_hex.f K (rdOf ByteArray.empty l 3)).bind fun bt193 => (if bt193.2 = true then (some (k, c, x, bt193.1, o, 0)) else (some (0, 0, 0, 0, 0, 4)))) else (none)) else (some (k, c, x, y, o, 0))) := rfl
theorem toNat_U {v : Nat} (h : v < 4294967296) : U (v : Int) ∧ hexB (v : Int) = ⟨(hex8 v).toArray⟩ := by
  refine ⟨by unfold U; omega, ?_⟩
  unfold hexB
  rw [Int.toNat_natCast]
theorem is_old {s : ByteArray} {k c x y o : Int} (h : Is s k c x y o) {t : ByteArray} (e : t = hexB o) (hn : ¬ ∃ v : Nat, v < 4294967296 ∧ t = ⟨(hex8 v).toArray⟩) : False := by
  obtain ⟨_, _, _, ho, _⟩ := h
  exact hn ⟨o.toNat, (u32_nat ho).1, e⟩
set_option maxHeartbeats 1000000 in
theorem end_run (s : ByteArray) (hs : s.size ≤ 1000) (K : Nat) (hK : 1190 ≤ K) : ∃ r, stilemanref04_Parse.l0 (K + 1) (Note.cut s) 6 (kG (Note.cut s)) 0 0 0 0 = some r ∧ FoundA s r := by
  obtain ⟨l, hl⟩ : ∃ l, l = Note.cut s := ⟨_, rfl⟩
  obtain ⟨k, hk⟩ : ∃ k, k = kG l := ⟨_, rfl⟩
  have hsz : ∀ i, (at_ l i).size ≤ 1000 := by
    intro i
    unfold at_
    refine Note.size_at fun x hx => ?_
    rw [hl] at hx
    have := Note.cut_le s x hx
    omega
  have hll : l.length ≤ 1001 := by
    rw [hl, Note.cut_len]
    have := Lib.countB_le ⟨#[32]⟩ (by decide) _ s (Nat.le_refl _)
    omega
  rw [← hl, ← hk]
  have bad0 : (∀ k' c x y o, Is s k' c x y o → Fits l k' c x y o → k' = k → False) → FoundA s (0, 0, 0, 0, 0, 4) := fun h => bad fun k' c x y o h1 h2 => h k' c x y o h1 (by rw [hl]; exact h2) (by rw [hk, hl]; exact h2.kind.symm)
  obtain ⟨M, hM⟩ : ∃ M, M = K - 1 := ⟨_, rfl⟩
  have eM : K = M + 1 := by omega
  have jt : ∀ k', stilemanref04_Parse.j1 K l true k' 0 0 0 0 = some (0, 0, 0, 0, 0, 4) := by
    intro k'
    rw [eM]
    rfl
  unfold stilemanref04_Parse.l0
  rw [if_neg (by decide), Option.bind_some]
  by_cases k0 : k = 0
  · rw [if_pos k0, jt]
    refine ⟨_, rfl, bad0 fun k' c x y o h1 h2 e => ?_⟩
    have := h1.1.1
    omega
  have hkf : kf (at_ l 0) 6 = k := hk.symm
  obtain ⟨k1, k5, _⟩ := kf_spec 6 (at_ l 0) (Nat.le_refl _) (by rw [hkf]; exact k0)
  rw [hkf] at k1 k5
  have hm4 : 4 ≤ many k ∧ many k ≤ 6 := by unfold many; split <;> (try split) <;> omega
  rw [if_neg k0, if_pos (by omega), if_pos (by show k < 6; omega), rd_many k1 k5]
  by_cases hlen : l.length = many k
  · have e2 : wrap64 ((l.length : Int) - 2) = ((l.length - 2 : Nat) : Int) := by unfold wrap64; omega
    have e1 : wrap64 ((l.length : Int) - 1) = ((l.length - 1 : Nat) : Int) := by unfold wrap64; omega
    rw [if_pos (by omega), e2, if_pos (by omega), if_pos (by omega), rd_at]
    by_cases hw : at_ l (l.length - 2) = wasB
    · rw [if_pos (by rw [hw]; decide +kernel), if_pos (by omega), show rdOf ByteArray.empty l 1 = at_ l 1 from rd_at l 1]
      by_cases h4 : (at_ l 1).size ≤ 4
      · rw [decide_eq_false (by omega)]
        have jf : stilemanref04_Parse.j1 K l false k 0 0 0 0 = stilemanref04_Parse.l1 M l 0 k 0 0 0 0 := by
          rw [eM]
          rfl
        rw [jf]
        obtain ⟨N, hN⟩ : ∃ N, N = M - (at_ l 1).size - 1 := ⟨_, rfl⟩
        have eN : M = N + (at_ l 1).size + 1 := by omega
        have hd := dig_run l (by omega) h4 k N (at_ l 1).size 0 (by omega) (by show (0 : Nat) < 1; decide)
        rw [← eN] at hd
        have z0 : val10 ((at_ l 1).data.toList.take 0) = 0 := rfl
        rw [z0] at hd
        rcases hd with ⟨hd, c, hc, hnd⟩ | ⟨hd, hv⟩
        · rw [show ((0 : Nat) : Int) = 0 from rfl] at hd
          rw [hd]
          refine ⟨_, rfl, bad0 fun k' c' x y o h1 h2 e => hnd ?_⟩
          rw [h2.cell] at hc
          have h0 := h1.1.2.2.1
          have hc' : c ∈ Lib.decDigits c'.toNat := by rw [← itoa_dec h0]; simpa using hc
          exact dec_range c'.toNat c hc'
        · rw [show ((0 : Nat) : Int) = 0 from rfl] at hd
          rw [hd]
          obtain ⟨n, hn⟩ : ∃ n, n = val10 (at_ l 1).data.toList := ⟨_, rfl⟩
          rw [← hn] at hv ⊢
          unfold stilemanref04_Parse.l1
          rw [if_pos (by omega), show rdOf ByteArray.empty l 1 = at_ l 1 from rd_at l 1, if_neg (by omega), rdec_n n hv N (by omega), Option.bind_some]
          have j3t : stilemanref04_Parse.j3 N l true k n 0 0 0 = some (0, 0, 0, 0, 0, 4) := by
            obtain ⟨N', hN'⟩ : ∃ N', N = N' + 1 := ⟨N - 1, by omega⟩
            rw [hN']
            rfl
          by_cases ht : (⟨(Lib.decDigits n).toArray⟩ : ByteArray) = at_ l 1
          · rw [if_pos (by rw [ht])]
            by_cases hc1 : n ≤ 1023
            · rw [decide_eq_false (by omega)]
              obtain ⟨P, hP⟩ : ∃ P, N = P + 1 := ⟨N - 1, by omega⟩
              rw [hP, j3_f, e1, if_pos (by omega), if_pos (by omega), rd_at]
              have cell : at_ l 1 = ⟨(Lib.itoa (n : Int)).toArray⟩ := by rw [itoa_dec (by omega), Int.toNat_natCast]; exact ht.symm
              rcases hex_word (at_ l (l.length - 1)) (hsz _) P (by omega) with ⟨o, ho, eo, fo⟩ | ⟨no, vo, fo⟩
              · rw [fo, Option.bind_some, if_pos rfl]
                have old : at_ l (l.length - 1) = hexB (o : Int) := by rw [(toNat_U ho).2]; exact eo
                obtain ⟨Q, hQ⟩ : ∃ Q, P = Q + 1 := ⟨P - 1, by omega⟩
                by_cases q1 : k = 1
                · rw [if_pos q1, hQ]
                  dsimp only
                  rw [j4_f, if_neg (by omega)]
                  refine ⟨_, rfl, .inl ⟨k, n, 0, 0, o, is_of ⟨by rw [← hl]; exact hk.symm, by rw [← hl]; exact hlen, by rw [← hl]; exact hw, by rw [← hl]; exact cell, by rw [← hl]; exact old, fun q => absurd q1 q, fun q => by omega⟩ k0 (by omega) (by unfold U; omega) (by unfold U; omega) (toNat_U ho).1 (fun _ => rfl) (fun _ => rfl), rfl⟩⟩
                · rw [if_neg q1, if_pos (by omega), show rdOf ByteArray.empty l 2 = at_ l 2 from rd_at l 2]
                  rcases hex_word (at_ l 2) (hsz _) P (by omega) with ⟨x, hx, ex, fx⟩ | ⟨nx, vx, fx⟩
                  · rw [fx, Option.bind_some, if_pos rfl, hQ]
                    have hx2 : at_ l 2 = hexB (x : Int) := by rw [(toNat_U hx).2]; exact ex
                    dsimp only
                    rw [j4_f]
                    by_cases q5 : k = 5
                    · have hm : many k = 6 := by unfold many; rw [if_neg q1, if_pos q5]
                      rw [if_pos q5, if_pos (by omega), show rdOf ByteArray.empty l 3 = at_ l 3 from rd_at l 3]
                      rcases hex_word (at_ l 3) (hsz _) Q (by omega) with ⟨y, hy, ey, fy⟩ | ⟨ny, vy, fy⟩
                      · rw [fy, Option.bind_some, if_pos rfl]
                        have hy3 : at_ l 3 = hexB (y : Int) := by rw [(toNat_U hy).2]; exact ey
                        refine ⟨_, rfl, .inl ⟨k, n, x, y, o, is_of ⟨by rw [← hl]; exact hk.symm, by rw [← hl]; exact hlen, by rw [← hl]; exact hw, by rw [← hl]; exact cell, by rw [← hl]; exact old, fun _ => by rw [← hl]; exact hx2, fun _ => by rw [← hl]; exact hy3⟩ k0 (by omega) (toNat_U hx).1 (toNat_U hy).1 (toNat_U ho).1 (fun q => absurd q q1) (fun q => absurd q5 q), rfl⟩⟩
                      · rw [fy, Option.bind_some, if_neg Bool.false_ne_true]
                        refine ⟨_, rfl, bad0 fun k' c' x' y' o' h1 h2 e => ny ?_⟩
                        have := h2.hy3 (by omega)
                        exact ⟨y'.toNat, (u32_nat h1.2.2.1).1, this⟩
                    · rw [if_neg q5]
                      refine ⟨_, rfl, .inl ⟨k, n, x, 0, o, is_of ⟨by rw [← hl]; exact hk.symm, by rw [← hl]; exact hlen, by rw [← hl]; exact hw, by rw [← hl]; exact cell, by rw [← hl]; exact old, fun _ => by rw [← hl]; exact hx2, fun q => absurd q q5⟩ k0 (by omega) (toNat_U hx).1 (by unfold U; omega) (toNat_U ho).1 (fun q => absurd q q1) (fun _ => rfl), rfl⟩⟩
                  · rw [fx, Option.bind_some, if_neg Bool.false_ne_true]
                    refine ⟨_, rfl, bad0 fun k' c' x' y' o' h1 h2 e => nx ?_⟩
                    have := h2.hx2 (by omega)
                    exact ⟨x'.toNat, (u32_nat h1.2.1).1, this⟩
              · rw [fo, Option.bind_some, if_neg Bool.false_ne_true]
                exact ⟨_, rfl, bad0 fun k' c' x y o h1 h2 e => is_old h1 h2.old no⟩
            · rw [decide_eq_true (by omega), j3t]
              refine ⟨_, rfl, bad0 fun k' c' x y o h1 h2 e => hc1 ?_⟩
              have h0 := h1.1.2.2.1
              have h3 := h1.1.2.2.2.1
              rw [h2.cell, itoa_dec h0] at ht
              have : Lib.decDigits n = Lib.decDigits c'.toNat := by simpa using ht
              have := dec_inj this
              omega
          · rw [if_neg (fun q => ht (Note.bytes_eq q)), j3t]
            refine ⟨_, rfl, bad0 fun k' c' x y o h1 h2 e => ht ?_⟩
            have h0 := h1.1.2.2.1
            rw [hn, h2.cell, itoa_dec h0]
            show (⟨(Lib.decDigits (val10 (Lib.decDigits c'.toNat).toArray.toList)).toArray⟩ : ByteArray) = _
            rw [show (Lib.decDigits c'.toNat).toArray.toList = Lib.decDigits c'.toNat from by simp, val10_dec]
      · rw [decide_eq_true (by omega), jt]
        refine ⟨_, rfl, bad0 fun k' c x y o h1 h2 e => h4 ?_⟩
        rw [h2.cell]
        have h0 := h1.1.2.2.1
        have h3 := h1.1.2.2.2.1
        have : ∀ i : Fin 1024, (Lib.decDigits i.val).length ≤ 4 := by decide +kernel
        have := this ⟨c.toNat, by omega⟩
        rw [itoa_dec h0]
        show (Lib.decDigits c.toNat).toArray.size ≤ 4
        rw [List.size_toArray]
        exact this
    · rw [if_neg (fun q => hw (Note.bytes_eq (by rw [q]; decide +kernel))), jt]
      exact ⟨_, rfl, bad0 fun k' c x y o h1 h2 e => hw h2.was⟩
  · rw [if_neg (by omega), jt]
    exact ⟨_, rfl, bad0 fun k' c x y o h1 h2 e => hlen (by rw [← e]; exact h2.len)⟩
theorem rparse_f (s : ByteArray) (hs : s.size ≤ 1000) : ∃ r, stilemanref04_Parse.f 1200 s = some r ∧ FoundA s r := by
  obtain ⟨r, h1, h2⟩ := end_run s hs 1194 (by decide)
  refine ⟨r, ?_, h2⟩
  unfold stilemanref04_Parse.f
  rw [words_f s hs 1200 (by decide), Option.bind_some]
  have h := l0_run (Note.cut s) (by rw [Note.cut_len]; omega) 1195 5 1 (by decide) (by decide)
  have e : kf (at_ (Note.cut s) 0) 1 = 0 := if_neg (fun q => q.1 rfl)
  rw [e] at h
  exact h.trans h1
/-- The reference's Parse gives what acc.Parse gives. -/
theorem rparse_walk (s : ByteArray) (hs : s.size ≤ 1000) (w : World) : Calls Tryd.prog 47 #[.string s] w fun e w' => e = .returned (outG s) ∧ Below w.heap.size w w' := by
  obtain ⟨⟨r1, r2, r3, r4, r5, r6⟩, h1, h2⟩ := rparse_f s hs
  refine (stilemanref04_Parse.calls 1200 s r1 r2 r3 r4 r5 r6 w h1).mono ?_
  rintro e w' ⟨rfl, hb⟩
  refine ⟨?_, hb⟩
  rcases h2 with ⟨k, c, x, y, o, ⟨hR, hx, hy, ho, rfl⟩, e⟩ | ⟨e, h2⟩
  · simp only [Prod.mk.injEq] at e
    obtain ⟨rfl, rfl, rfl, rfl, rfl, rfl⟩ := e
    rw [out_of hR hx hy ho]
    rfl
  · simp only [Prod.mk.injEq] at e
    obtain ⟨rfl, rfl, rfl, rfl, rfl, rfl⟩ := e
    rw [out_none (by rintro ⟨k, c, x, y, o, q⟩; exact h2 ⟨k, c, x, y, o, q⟩)]
    rfl
end Go.Proofs.YtejmbmhehbcflaaDoor.Acc
