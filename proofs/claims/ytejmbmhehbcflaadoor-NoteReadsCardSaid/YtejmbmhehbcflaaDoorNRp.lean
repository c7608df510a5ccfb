/- The reference's note.Parse finds the note of a text, or none: plain. -/
import Derived.Test.YtejmbmhehbcflaaDoorNRt
import Derived.Test.YtejmbmhehbcflaaDoorR7
namespace Go.Proofs.YtejmbmhehbcflaaDoor.Note
open Go.RowKit Go.Proofs.YtejmbmhehbcflaaDoor.Pr Go.Proofs.YtejmbmhehbcflaaDoorW.PrintWords
set_option linter.unusedSimpArgs false
set_option linter.unusedVariables false

/-! pieces of a text -/
theorem splitK_le (sep : List UInt8) : ∀ (k : Nat) (s : List UInt8), ∀ p ∈ Lib.splitK sep 0 k s, p.length ≤ s.length
  | 0, s, p, hp => by
    unfold Lib.splitK at hp
    rw [List.mem_singleton.1 hp]
    exact Nat.le_refl _
  | k + 1, s, p, hp => by
    unfold Lib.splitK at hp
    split at hp
    · rw [List.mem_singleton.1 hp]
      exact Nat.le_refl _
    · rcases List.mem_cons.1 hp with rfl | hp
      · rw [List.length_take]
        omega
      · have := splitK_le sep k _ p hp
        rw [List.length_drop] at this
        omega
theorem cut_le (s : ByteArray) : ∀ x ∈ cut s, x.size ≤ s.size := by
  intro x hx
  have h : x.data.toList ∈ (cut s).map (·.data.toList) := List.mem_map_of_mem hx
  unfold cut at h
  rw [Lib.splitB_data] at h
  have := splitK_le _ _ _ _ h
  rw [Array.length_toList, Array.length_toList] at this
  exact this

/-! the reference's Number -/
theorem known_ops : opsL = [⟨#[]⟩, atv opsL 1, atv opsL 2, atv opsL 3, atv opsL 4, atv opsL 5, atv opsL 6, atv opsL 7, atv opsL 8] := by decide +kernel
theorem rnum_run (s : ByteArray) : ∀ (d o K : Nat), o + d = 9 → 1 ≤ o → stilemanref05_Number.l0 (K + d + 1) s (o : Int) = some (if idxD s.data.toList (opsL.drop o) o = -1 then 0 else idxD s.data.toList (opsL.drop o) o)
  | 0, o, K, h, h1 => by
    obtain rfl : o = 9 := by omega
    unfold stilemanref05_Number.l0
    rw [if_neg (by decide), show opsL.drop 9 = [] from by decide +kernel]
    rfl
  | d + 1, o, K, h, h1 => by
    have hlt : o < opsL.length := by have : opsL.length = 9 := by decide
                                     omega
    unfold stilemanref05_Number.l0
    rw [if_pos (by omega), rop_f, Option.bind_some]
    have e : opsL.drop o = opsL[o] :: opsL.drop (o + 1) := List.drop_eq_getElem_cons hlt
    have e1 : atv opsL (o : Int) = opsL[o] := by
      unfold atv
      rw [if_pos (by omega)]
      simp [rdOf, hlt]
    rw [e]
    unfold idxD
    rw [e1, ByteArray.toList_eq, ByteArray.toList_eq]
    by_cases hx : opsL[o].data.toList = s.data.toList
    · rw [if_pos hx, if_pos hx.symm, if_neg (by omega)]
    · rw [if_neg hx, if_neg (Ne.symm hx), show wrap64 ((o : Int) + 1) = ((o + 1 : Nat) : Int) by unfold wrap64; omega, show K + (d + 1) = K + d + 1 from rfl, rnum_run s d (o + 1) K (by omega) (by omega)]
      rfl
theorem idxD_ge (x : List UInt8) : ∀ (l : List ByteArray) (i : Int), 0 ≤ i → idxD x l i = -1 ∨ i ≤ idxD x l i
  | [], _, _ => .inl rfl
  | y :: l, i, h => by
    unfold idxD
    split
    · exact .inr (Int.le_refl _)
    · rcases idxD_ge x l (i + 1) (by omega) with e | e
      · exact .inl e
      · exact .inr (by omega)
theorem rnumber_any (s : ByteArray) : stilemanref05_Number.f 20 s = some (mx (idxv opsL s) 0) := by
  unfold stilemanref05_Number.f
  have h := rnum_run s 8 1 11 (by decide) (by decide)
  rw [show ((1 : Nat) : Int) = 1 from rfl] at h
  rw [h, idxv_D opsL s (by decide)]
  congr 1
  have e : opsL = ⟨#[]⟩ :: opsL.drop 1 := by decide +kernel
  by_cases h0 : s.data.toList = []
  · have e1 : idxD s.data.toList opsL 0 = 0 := by
      rw [e]
      unfold idxD
      rw [if_pos h0]
    have e2 : idxD s.data.toList (opsL.drop 1) 1 = -1 := by
      rw [h0]
      decide +kernel
    rw [e1, e2]
    rfl
  · have e1 : idxD s.data.toList opsL 0 = idxD s.data.toList (opsL.drop 1) 1 := by
      rw [e]
      conv => lhs; unfold idxD
      rw [if_neg h0]
      rfl
    rw [e1]
    have := idxD_ge s.data.toList (opsL.drop 1) 1 (by decide)
    unfold mx
    repeat' split
    all_goals omega

/-! the reference's Parse -/
theorem l_data {t wh o a : Int} (h : Right t wh o a) : (textB t wh o a).data.toList = Lib.decDigits t.toNat ++ 32 :: tailL wh o a := by
  unfold textB
  rw [if_pos h]
  exact joined_data _ _ _ _
theorem right_0 {t wh o a : Int} (h : Right t wh o a) : Right 0 wh o a := ⟨by decide, by decide, h.2.2⟩
theorem right_of {t wh o a : Int} (h : Right 0 wh o a) (h0 : 0 ≤ t) (h1 : t < 64) : Right t wh o a := ⟨by omega, by omega, h.2.2⟩
/-- What the search gives: the note of the text; or none, and there is none from a place on. -/
def Found (s : ByteArray) (p : Int → Int → Int → Prop) (r : Int × Int × Int × Int × Int) : Prop :=
  (∃ t wh o a, Right t wh o a ∧ textB t wh o a = s ∧ r = (t, wh, o, a, 0)) ∨ (r = (0, 0, 0, 0, 4) ∧ ∀ t wh o a, Right t wh o a → p wh o a → textB t wh o a ≠ s)
theorem Found.mono {s : ByteArray} {p q : Int → Int → Int → Prop} {r : Int × Int × Int × Int × Int} (h : Found s p r) (hq : ∀ t wh o a, Right t wh o a → q wh o a → textB t wh o a = s → p wh o a) : Found s q r := by
  rcases h with h | ⟨h1, h2⟩
  · exact .inl h
  · exact .inr ⟨h1, fun t wh o a hr hp e => h2 t wh o a hr (hq t wh o a hr hp e) e⟩
theorem mono_le {α : Type} {f : Nat → Option α} (hm : ∀ k, LeO (f k) (f (k + 1))) {k : Nat} {r : α} (h : f k = some r) : ∀ d, f (k + d) = some r
  | 0 => h
  | d + 1 => hm (k + d) r (mono_le hm h d)
theorem rright_k (t wh o a : Int) (k : Nat) (hk : 5 ≤ k) : stilemanref05_Right.f k t wh o a = some (decide (Right t wh o a)) := by
  have := mono_le (f := fun k => stilemanref05_Right.f k t wh o a) (fun k => stilemanref05_Right.mono t wh o a k) (rright_f t wh o a) (k - 5)
  rw [show 5 + (k - 5) = k by omega] at this
  exact this
theorem rdec_k (i : Nat) (hi : i < 64) (k : Nat) (hk : 3 ≤ k) : stilemanref03_Text.f k (i : Int) = some ⟨(Lib.decDigits i).toArray⟩ := by
  have := mono_le (f := fun k => stilemanref03_Text.f k (i : Int)) (fun k => stilemanref03_Text.mono (i : Int) k) (rdec_known ⟨i, hi⟩) (k - 3)
  rw [show 3 + (k - 3) = k by omega] at this
  exact this
theorem take_data (s : ByteArray) (k : Nat) : (s.extract 0 k).toList = s.data.toList.take k := by
  rw [ByteArray.toList_eq, ByteArray.data_extract, Array.toList_extract]
  simp
theorem drop_data (s : ByteArray) (k : Nat) : (s.extract k s.size).toList = s.data.toList.drop k := by
  rw [ByteArray.toList_eq, ByteArray.data_extract, Array.toList_extract, List.extract_eq_take_drop]
  have : (s.data.toList.drop k).length ≤ s.size - k := by rw [List.length_drop, Array.length_toList]; exact Nat.le_refl _
  exact List.take_of_length_le this
theorem l3_run (s : ByteArray) (wh o a n0 : Int) (k K : Nat) (r : Int × Int × Int × Int × Int) (hk : k ≤ s.size) (ha : 0 ≤ a ∧ a ≤ 3) (hK : 3 ≤ K) (hn : stilemanref05_Parse.l2 K s wh o (a + 1) = some r) :
    ∀ (d i : Nat), i + d = 64 → ∃ r', stilemanref05_Parse.l3 (K + d + 1) s wh o a (k : Int) (i : Int) n0 wh o a = some r' ∧
      ((∃ j : Nat, j < 64 ∧ Lib.decDigits j = s.data.toList.take k ∧ r' = ((j : Int), wh, o, a, 0)) ∨ (r' = r ∧ ∀ j : Nat, i ≤ j → j < 64 → Lib.decDigits j ≠ s.data.toList.take k))
  | 0, i, h => by
    obtain rfl : i = 64 := by omega
    refine ⟨r, ?_, .inr ⟨rfl, fun j h1 h2 => by omega⟩⟩
    unfold stilemanref05_Parse.l3
    rw [if_neg (by decide), show wrap64 (a + 1) = a + 1 by unfold wrap64; omega]
    exact hn
  | d + 1, i, h => by
    unfold stilemanref05_Parse.l3
    rw [if_pos (by omega), rdec_k i (by omega) _ (by omega), Option.bind_some, if_pos (by omega), if_pos (by omega), Int.toNat_natCast, take_data, ByteArray.toList_eq]
    by_cases e : Lib.decDigits i = s.data.toList.take k
    · rw [if_pos (by simpa using e)]
      exact ⟨_, rfl, .inl ⟨i, by omega, e, rfl⟩⟩
    · rw [if_neg (by simpa using e), show wrap64 ((i : Int) + 1) = ((i + 1 : Nat) : Int) by unfold wrap64; omega]
      obtain ⟨r', h1, h2⟩ := l3_run s wh o a n0 k K r hk ha hK hn d (i + 1) (by omega)
      refine ⟨r', h1, ?_⟩
      rcases h2 with h2 | ⟨h2, h3⟩
      · exact .inl h2
      · refine .inr ⟨h2, fun j hj => ?_⟩
        by_cases ej : j = i
        · subst ej
          exact fun _ => e
        · exact h3 j (by omega)
def P2 (wh o a : Int) (wh' o' a' : Int) : Prop := wh < wh' ∨ (wh = wh' ∧ (o < o' ∨ (o = o' ∧ a ≤ a')))
theorem digs_len : ∀ i : Fin 64, 1 ≤ (Lib.decDigits i.val).length ∧ (Lib.decDigits i.val).length ≤ 2 := by decide +kernel
theorem tail_small : ∀ x ∈ all, (tailL x.1 x.2.1 x.2.2).length ≤ 100 := by decide +kernel
theorem append_of {x y z : List UInt8} (h : x = y ++ z) : x.take y.length = y ∧ x.drop y.length = z := by subst h; simp
theorem l2_mono (s : ByteArray) (wh o a : Int) {k : Nat} {r} (h : stilemanref05_Parse.l2 k s wh o a = some r) (d : Nat) : stilemanref05_Parse.l2 (k + d) s wh o a = some r :=
  mono_le (f := fun k => stilemanref05_Parse.l2 k s wh o a) (fun k => (stilemanref05_Parse.mono_l k).2.2.1 s wh o a) h d
/-- How a note's text lies in s. -/
theorem text_in {t wh o a : Int} {s : ByteArray} (h : Right t wh o a) (e : textB t wh o a = s) : ∃ j : Nat, j < 64 ∧ (s.size : Int) = (Lib.decDigits j).length + 1 + (tailL wh o a).length ∧ s.data.toList.take (Lib.decDigits j).length = Lib.decDigits j ∧ s.data.toList.drop (Lib.decDigits j).length = 32 :: tailL wh o a := by
  have k1 := h.1; have k2 := h.2.1
  have hd := l_data h
  rw [e] at hd
  refine ⟨t.toNat, by omega, ?_, append_of hd⟩
  have : s.data.toList.length = (Lib.decDigits t.toNat).length + (1 + (tailL wh o a).length) := by rw [hd]; simp; omega
  rw [Array.length_toList] at this
  show ((s.data.size : Nat) : Int) = _
  omega
theorem P2_next {t wh o a wh' o' a' : Int} (h : P2 wh o a wh' o' a') (hr : ¬ (wh = wh' ∧ o = o' ∧ a = a')) : P2 wh o (a + 1) wh' o' a' := by
  unfold P2 at h ⊢
  omega
theorem l2_run (s : ByteArray) (hs : s.size ≤ 1000) (wh o a : Int) (K : Nat) (r : Int × Int × Int × Int × Int) (ha : 0 ≤ a ∧ a ≤ 3) (hn : stilemanref05_Parse.l2 K s wh o (a + 1) = some r) (hF : Found s (P2 wh o (a + 1)) r) :
    ∃ r', stilemanref05_Parse.l2 (K + 70) s wh o a = some r' ∧ Found s (P2 wh o a) r' := by
  have ew : wrap64 (a + 1) = a + 1 := by unfold wrap64; omega
  have keep : (∀ t, Right t wh o a → textB t wh o a ≠ s) → Found s (P2 wh o a) r := fun h => hF.mono fun t wh' o' a' hr hp e => by
    by_cases q : wh = wh' ∧ o = o' ∧ a = a'
    · obtain ⟨rfl, rfl, rfl⟩ := q
      exact absurd e (h t hr)
    · exact P2_next (t := t) hp q
  conv => enter [1, r', 1, 1]; rw [show K + 70 = (K + 69) + 1 from rfl]; unfold stilemanref05_Parse.l2
  rw [if_pos ha.2, rright_k _ _ _ _ _ (by omega), Option.bind_some]
  by_cases hR : Right 0 wh o a
  · rw [if_pos (decide_eq_true hR)]
    unfold stilemanref05_Text.f
    rw [Option.bind_some]
    have hd := l_data hR
    have e0 : Lib.decDigits (0 : Int).toNat = [48] := by decide +kernel
    rw [e0] at hd
    have hsz : (textB 0 wh o a).size = 2 + (tailL wh o a).length := by
      show (textB 0 wh o a).data.size = _
      rw [← Array.length_toList, hd]
      simp
      omega
    have ht := tail_small (wh, o, a) (mem_all hR)
    simp only at ht
    have hdr := drop_data (textB 0 wh o a) 1
    rw [hd, show List.drop 1 (([48] : List UInt8) ++ 32 :: tailL wh o a) = 32 :: tailL wh o a from rfl] at hdr
    rw [hdr, hsz]
    obtain ⟨k, hk⟩ : ∃ k : Int, k = (s.size : Int) - (1 + (tailL wh o a).length) := ⟨_, rfl⟩
    have ek : wrap64 (wrap64 ((s.size : Int) - ((2 + (tailL wh o a).length : Nat) : Int)) + 1) = k := by unfold wrap64; omega
    rw [ek]
    have len : ∀ t, Right t wh o a → textB t wh o a = s → ∃ j : Nat, j < 64 ∧ k = (Lib.decDigits j).length ∧ s.data.toList.take (Lib.decDigits j).length = Lib.decDigits j ∧ s.data.toList.drop (Lib.decDigits j).length = 32 :: tailL wh o a := by
      intro t hr e
      obtain ⟨j, h1, h2, h3, h4⟩ := text_in hr e
      exact ⟨j, h1, by omega, h3, h4⟩
    have skip : ∀ k' n0, stilemanref05_Parse.j3 (K + 69) s wh o a k' true n0 wh o a = some r := by
      intro k' n0
      rw [show K + 69 = (K + 68) + 1 from rfl]
      unfold stilemanref05_Parse.j3
      rw [if_pos rfl, ew]
      exact l2_mono s wh o (a + 1) hn 68
    by_cases c1 : k < 1
    · rw [if_pos c1, skip]
      refine ⟨r, rfl, keep fun t hr e => ?_⟩
      obtain ⟨j, h1, h2, _⟩ := len t hr e
      have := digs_len ⟨j, h1⟩
      simp only at this
      omega
    rw [if_neg c1]
    by_cases c2 : k > 2
    · rw [if_pos c2, skip]
      refine ⟨r, rfl, keep fun t hr e => ?_⟩
      obtain ⟨j, h1, h2, _⟩ := len t hr e
      have := digs_len ⟨j, h1⟩
      simp only at this
      omega
    rw [if_neg c2, if_pos (by omega), if_pos (by omega), if_pos (by omega)]
    obtain ⟨n, rfl⟩ : ∃ n : Nat, k = n := ⟨k.toNat, by omega⟩
    rw [Int.toNat_natCast, drop_data]
    by_cases c3 : s.data.toList.drop n = 32 :: tailL wh o a
    · rw [c3, show ((32 :: tailL wh o a) != (32 :: tailL wh o a)) = false by simp]
      rw [show K + 69 = (K + 68) + 1 from rfl]
      unfold stilemanref05_Parse.j3
      rw [if_neg (by decide)]
      obtain ⟨r', h1, h2⟩ := l3_run s wh o a 0 n (K + 3) r (by omega) ha (by omega) (l2_mono s wh o (a + 1) hn 3) 64 0 (by decide)
      rw [show K + 68 = K + 3 + 64 + 1 from rfl]
      refine ⟨r', h1, ?_⟩
      rcases h2 with ⟨j, j1, j2, rfl⟩ | ⟨rfl, h3⟩
      · refine .inl ⟨j, wh, o, a, right_of hR (by omega) (by omega), ?_, rfl⟩
        have := l_data (right_of (t := j) hR (by omega) (by omega))
        rw [Int.toNat_natCast, j2, ← c3, List.take_append_drop] at this
        exact bytes_eq (by rw [ByteArray.toList_eq, ByteArray.toList_eq]; exact this)
      · refine keep fun t hr e => ?_
        obtain ⟨j, j1, j2, j3, _⟩ := len t hr e
        have e2 : n = (Lib.decDigits j).length := by omega
        exact h3 j (Nat.zero_le _) j1 (by rw [e2]; exact j3.symm)
    · rw [show (s.data.toList.drop n != (32 :: tailL wh o a)) = true by rw [bne_iff_ne]; exact c3, skip]
      refine ⟨r, rfl, keep fun t hr e => ?_⟩
      obtain ⟨j, _, h2, _, h4⟩ := len t hr e
      have e2 : n = (Lib.decDigits j).length := by omega
      exact c3 (by rw [e2]; exact h4)
  · rw [if_neg (by simpa using hR), ew]
    exact ⟨r, l2_mono s wh o (a + 1) hn 69, keep fun t hr _ => hR (right_0 hr)⟩
theorem right_arg3 {t wh o a : Int} (h : Right t wh o a) : 0 ≤ a ∧ a ≤ 3 := by
  have := h.2.2.2.2.2
  split at this
  · omega
  · split at this <;> omega
theorem right_op8 {t wh o a : Int} (h : Right t wh o a) : 0 ≤ o ∧ o ≤ 8 := by
  have := h.2.2.2.2.1
  split at this <;> omega
theorem l1_run (s : ByteArray) (hs : s.size ≤ 1000) (wh o : Int) (K : Nat) (r : Int × Int × Int × Int × Int) (ho : 0 ≤ o ∧ o ≤ 8) (hn : stilemanref05_Parse.l1 K s wh (o + 1) = some r) (hF : Found s (P2 wh (o + 1) 0) r) :
    ∃ r', stilemanref05_Parse.l1 (K + 282) s wh o = some r' ∧ Found s (P2 wh o 0) r' := by
  have h4 : stilemanref05_Parse.l2 (K + 1) s wh o (3 + 1) = some r := by
    unfold stilemanref05_Parse.l2
    rw [if_neg (by decide), show wrap64 (o + 1) = o + 1 by unfold wrap64; omega]
    exact hn
  have f4 : Found s (P2 wh o (3 + 1)) r := hF.mono fun t wh' o' a' hr hp _ => by
    have := right_arg3 hr
    unfold P2 at hp ⊢
    omega
  obtain ⟨r3, h3, f3⟩ := l2_run s hs wh o 3 _ _ (by decide) h4 f4
  obtain ⟨r2, h2, f2⟩ := l2_run s hs wh o 2 _ _ (by decide) h3 f3
  obtain ⟨r1, h1, f1⟩ := l2_run s hs wh o 1 _ _ (by decide) h2 f2
  obtain ⟨r0, h0, f0⟩ := l2_run s hs wh o 0 _ _ (by decide) h1 f1
  refine ⟨r0, ?_, f0⟩
  rw [show K + 282 = (K + 281) + 1 from rfl]
  unfold stilemanref05_Parse.l1
  rw [if_pos ho.2]
  exact h0
theorem l1_all (s : ByteArray) (hs : s.size ≤ 1000) (wh : Int) (K : Nat) (r : Int × Int × Int × Int × Int) (hn : stilemanref05_Parse.l1 K s wh 9 = some r) (hF : Found s (P2 wh 9 0) r) :
    ∀ (d : Nat), d ≤ 9 → ∃ K' r', stilemanref05_Parse.l1 K' s wh ((9 - d : Nat) : Int) = some r' ∧ Found s (P2 wh ((9 - d : Nat) : Int) 0) r'
  | 0, _ => ⟨K, r, hn, hF⟩
  | d + 1, h => by
    obtain ⟨K1, r1, h1, f1⟩ := l1_all s hs wh K r hn hF d (by omega)
    have e : ((9 - d : Nat) : Int) = ((9 - (d + 1) : Nat) : Int) + 1 := by omega
    rw [e] at h1 f1
    obtain ⟨r2, h2, f2⟩ := l1_run s hs wh _ K1 r1 (by omega) h1 f1
    exact ⟨_, r2, h2, f2⟩
theorem l0_all (s : ByteArray) (hs : s.size ≤ 1000) : ∀ (d : Nat), d ≤ 11 → ∃ K r, stilemanref05_Parse.l0 K s ((12 - d : Nat) : Int) = some r ∧ Found s (P2 ((12 - d : Nat) : Int) 0 0) r
  | 0, _ => ⟨1, (0, 0, 0, 0, 4), by unfold stilemanref05_Parse.l0; rw [if_neg (by decide)], .inr ⟨rfl, fun t wh o a hr hp => by
      have := hr.2.2.1; have := hr.2.2.2.1
      unfold P2 at hp
      omega⟩⟩
  | d + 1, h => by
    obtain ⟨K1, r1, h1, f1⟩ := l0_all s hs d (by omega)
    have e : ((12 - d : Nat) : Int) = ((12 - (d + 1) : Nat) : Int) + 1 := by omega
    rw [e] at h1 f1
    obtain ⟨w, hw⟩ : ∃ w : Int, w = ((12 - (d + 1) : Nat) : Int) := ⟨_, rfl⟩
    have hw2 : 1 ≤ w ∧ w ≤ 11 := by omega
    rw [← hw] at h1 f1 ⊢
    have h9 : stilemanref05_Parse.l1 (K1 + 1) s w 9 = some r1 := by
      unfold stilemanref05_Parse.l1
      rw [if_neg (by decide), show wrap64 (w + 1) = w + 1 by unfold wrap64; omega]
      exact h1
    have f9 : Found s (P2 w 9 0) r1 := f1.mono fun t wh' o' a' hr hp _ => by
      have := right_op8 hr
      have := right_arg3 hr
      unfold P2 at hp ⊢
      omega
    obtain ⟨K2, r2, h2, f2⟩ := l1_all s hs w _ r1 h9 f9 9 (by decide)
    refine ⟨K2 + 1, r2, ?_, f2⟩
    unfold stilemanref05_Parse.l0
    rw [if_pos hw2.2]
    exact h2
theorem rparse_f (s : ByteArray) (hs : s.size ≤ 1000) : ∃ K r, stilemanref05_Parse.f K s = some r ∧ Found s (fun _ _ _ => True) r := by
  obtain ⟨K, r, h1, h2⟩ := l0_all s hs 11 (by decide)
  refine ⟨K, r, h1, h2.mono fun t wh o a hr _ _ => ?_⟩
  have := hr.2.2.1
  have := right_op8 hr
  have := right_arg3 hr
  unfold P2
  show (1 : Int) < wh ∨ _
  omega
/-- The reference's Parse gives what note.Parse gives. -/
theorem rparse_walk (s : ByteArray) (hs : s.size ≤ 1000) (w : World) : Calls Tryd.prog 43 #[.string s] w fun e w' => e = .returned (outG s) ∧ Below w.heap.size w w' := by
  obtain ⟨K, ⟨r1, r2, r3, r4, r5⟩, h1, h2⟩ := rparse_f s hs
  refine (stilemanref05_Parse.calls K s r1 r2 r3 r4 r5 w h1).mono ?_
  rintro e w' ⟨rfl, hb⟩
  refine ⟨?_, hb⟩
  rcases h2 with ⟨t, wh, o, a, hr, rfl, e⟩ | ⟨e, h2⟩
  · simp only [Prod.mk.injEq] at e
    obtain ⟨rfl, rfl, rfl, rfl, rfl⟩ := e
    rw [out_of hr]
  · simp only [Prod.mk.injEq] at e
    obtain ⟨rfl, rfl, rfl, rfl, rfl⟩ := e
    rw [out_none (by rintro ⟨t, wh, o, a, hr, e⟩; exact h2 t wh o a hr trivial e)]
end Go.Proofs.YtejmbmhehbcflaaDoor.Note
