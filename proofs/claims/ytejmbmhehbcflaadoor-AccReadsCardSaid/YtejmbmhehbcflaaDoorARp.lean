/- The reference's acc.Parse finds the access of a text, or none: plain. -/
import Derived.Test.YtejmbmhehbcflaaDoorAPt
import Derived.Test.YtejmbmhehbcflaaDoorQ8
namespace Go.Proofs.YtejmbmhehbcflaaDoor.Acc
open Go.RowKit Go.Proofs.YtejmbmhehbcflaaDoorW.PrintWords Go.Proofs.YtejmbmhehbcflaaDoor.Pr Go.Proofs.YtejmbmhehbcflaaDoor.Jn Go.Proofs.YtejmbmhehbcflaaDoor.Fu Go.Proofs.YtejmbmhehbcflaaDoor.Digs
set_option linter.unusedSimpArgs false
set_option linter.unusedVariables false

theorem bt_get {s : ByteArray} {i : Nat} (h : i < s.size) : bt s (i : Int) = ((s.data.toList[i]'(by rw [Array.length_toList]; exact h)).toNat : Int) := by
  unfold bt
  rw [dif_pos (by simpa using h)]
  rfl
theorem drop_get {s : ByteArray} {i : Nat} (h : i < s.size) : s.data.toList.drop i = (s.data.toList[i]'(by rw [Array.length_toList]; exact h)) :: s.data.toList.drop (i + 1) := List.drop_eq_getElem_cons (by rw [Array.length_toList]; exact h)

/-! Words -/
def wl (acc : List UInt8) : List UInt8 → List (List UInt8)
  | [] => [acc]
  | c :: l => if c = 32 then acc :: wl [] l else wl (acc ++ [c]) l
theorem wl_full : ∀ (l acc : List UInt8), wl acc l ≠ []
  | [], _ => by simp [wl]
  | c :: l, acc => by
    unfold wl
    split
    · simp
    · exact wl_full l _
theorem wl_join : ∀ (l acc : List UInt8), Lib.join (wl acc l) [32] = acc ++ l
  | [], acc => by simp [wl, Lib.join]
  | c :: l, acc => by
    unfold wl
    split
    · rename_i h
      subst h
      have := wl_join l []
      cases hw : wl [] l with
      | nil => exact absurd hw (wl_full l [])
      | cons p r =>
        rw [hw] at this
        have e : Lib.join (acc :: p :: r) [32] = acc ++ 32 :: Lib.join (p :: r) [32] := by simp [Lib.join, List.intercalate]
        rw [e, this]
        simp
    · rw [wl_join l (acc ++ [c])]
      simp
theorem wl_no : ∀ (l acc : List UInt8), (32 : UInt8) ∉ acc → ∀ p ∈ wl acc l, (32 : UInt8) ∉ p
  | [], acc, h, p, hp => by rw [List.mem_singleton.1 hp]; exact h
  | c :: l, acc, h, p, hp => by
    unfold wl at hp
    split at hp
    · rcases List.mem_cons.1 hp with rfl | hp
      · exact h
      · exact wl_no l [] (by simp) p hp
    · rename_i hc
      exact wl_no l _ (by simp [h, Ne.symm hc]) p hp
def mkB (l : List UInt8) : ByteArray := ⟨l.toArray⟩
theorem wl_cut (s : ByteArray) : (wl [] s.data.toList).map mkB = Note.cut s := by
  have h1 := wl_join s.data.toList []
  have e : Note.joined ((wl [] s.data.toList).map mkB) = s := by
    unfold Note.joined
    rw [List.map_map]
    have : (wl [] s.data.toList).map ((fun x : ByteArray => x.data.toList) ∘ mkB) = wl [] s.data.toList := by
      conv => rhs; rw [← List.map_id (wl [] s.data.toList)]
      exact List.map_congr_left (fun x _ => rfl)
    rw [this, h1]
    rfl
  have h2 := Note.cut_joined ((wl [] s.data.toList).map mkB) (by simpa using wl_full _ _) (fun p hp => by
    obtain ⟨q, hq, rfl⟩ := List.mem_map.1 hp
    exact wl_no _ [] (by simp) q hq)
  rw [e] at h2
  exact h2.symm
theorem cut_join (s : ByteArray) : Note.joined (Note.cut s) = s := by
  rw [← wl_cut]
  unfold Note.joined
  rw [List.map_map]
  have : (wl [] s.data.toList).map ((fun x : ByteArray => x.data.toList) ∘ mkB) = wl [] s.data.toList := by
    conv => rhs; rw [← List.map_id (wl [] s.data.toList)]
    exact List.map_congr_left (fun x _ => rfl)
  rw [this, wl_join]
  rfl
theorem words_run (s : ByteArray) (hs : s.size ≤ 1000) : ∀ (d i K : Nat) (out : List ByteArray) (w : ByteArray), i + d = s.size → out.length ≤ i → w.size ≤ i →
    stilemanref04_Words.l0 (K + d + 1) s out w (i : Int) = some (out ++ (wl w.data.toList (s.data.toList.drop i)).map mkB)
  | 0, i, K, out, w, h, ho, hw => by
    obtain rfl : i = s.size := by omega
    unfold stilemanref04_Words.l0
    rw [if_neg (by omega), if_pos (by omega), List.drop_eq_nil_of_le (by rw [Array.length_toList]; exact Nat.le_refl _)]
    rfl
  | d + 1, i, K, out, w, h, ho, hw => by
    have hi : i < s.size := by omega
    have ew : wrap64 ((i : Int) + 1) = ((i + 1 : Nat) : Int) := by unfold wrap64; omega
    unfold stilemanref04_Words.l0
    rw [if_pos (by omega), if_pos (by omega), ew, bt_get hi, drop_get hi]
    generalize hc : s.data.toList[i]'(by rw [Array.length_toList]; exact hi) = c
    by_cases e : c = 32
    · subst e
      rw [if_pos (by decide), if_pos (by omega), show K + (d + 1) = K + d + 1 from rfl, words_run s hs d (i + 1) K (out ++ [w]) ⟨#[]⟩ (by omega) (by simp; omega) (by show 0 ≤ _; omega)]
      conv => rhs; unfold wl
      rw [if_pos rfl, List.append_assoc]
      rfl
    · have hn : ¬ ((c.toNat : Int) = 32) := fun q => e (UInt8.toNat.inj (by show c.toNat = 32; omega))
      have hex : s.extract i (i + 1) = ⟨#[c]⟩ := by
        refine Note.bytes_eq ?_
        rw [ByteArray.toList_eq, ByteArray.toList_eq, ByteArray.data_extract, Array.toList_extract, List.extract_eq_take_drop, drop_get hi, hc]
        simp
      rw [if_neg hn, if_pos (by omega), if_pos (by omega), Int.toNat_natCast, Int.toNat_natCast, hex, if_pos (by show w.size + 1 ≤ _; omega), show K + (d + 1) = K + d + 1 from rfl, words_run s hs d (i + 1) K out (w ++ ⟨#[c]⟩) (by omega) (by omega) (by rw [ByteArray.size_append]; show w.size + 1 ≤ _; omega)]
      conv => rhs; unfold wl
      rw [if_neg e, ByteArray.data_append, Array.toList_append]
theorem words_f (s : ByteArray) (hs : s.size ≤ 1000) (k : Nat) (hk : 1100 ≤ k) : stilemanref04_Words.f k s = some (Note.cut s) := by
  have h := words_run s hs s.size 0 (k - s.size - 1) [] ⟨#[]⟩ (by omega) (Nat.zero_le _) (Nat.zero_le _)
  rw [show k - s.size - 1 + s.size + 1 = k by omega] at h
  unfold stilemanref04_Words.f
  rw [show (0 : Int) = ((0 : Nat) : Int) from rfl, h, List.nil_append]
  exact congrArg some (wl_cut s)

/-! hex -/
def okD (c : UInt8) : Prop := (48 ≤ c.toNat ∧ c.toNat ≤ 57) ∨ (97 ≤ c.toNat ∧ c.toNat ≤ 102)
instance (c : UInt8) : Decidable (okD c) := by unfold okD; infer_instance
theorem digit_f (c : UInt8) (k : Nat) : stilemanref04_digit.f (k + 1) (c.toNat : Int) = some (if okD c then (worth c : Int) else 16) := by
  have hc : c.toNat < 256 := c.toNat_lt
  simp only [stilemanref04_digit.f, stilemanref04_digit.j0]
  by_cases h1 : 48 ≤ c.toNat
  · rw [if_pos (show (c.toNat : Int) ≥ 48 by omega)]
    by_cases h2 : c.toNat ≤ 57
    · have hw : worth c = c.toNat - 48 := if_pos (by omega)
      rw [if_pos (by rw [decide_eq_true_iff]; omega), if_pos (show okD c from .inl ⟨h1, h2⟩), hw]
      congr 1
      omega
    · rw [if_neg (by rw [decide_eq_true_iff]; omega)]
      by_cases h3 : 97 ≤ c.toNat ∧ c.toNat ≤ 102
      · have hw : worth c = c.toNat - 87 := if_neg (by omega)
        rw [if_pos (by omega), if_pos (by omega), if_pos (show okD c from .inr h3), hw]
        congr 1
        omega
      · rw [if_neg (show ¬ okD c by unfold okD; omega)]
        by_cases h4 : (c.toNat : Int) ≥ 97
        · rw [if_pos h4, if_neg (by omega)]
        · rw [if_neg h4]
  · rw [if_neg (show ¬ (c.toNat : Int) ≥ 48 by omega), if_neg (by decide), if_neg (by omega), if_neg (show ¬ okD c by unfold okD; omega)]
theorem hex_go (t : ByteArray) (ht : t.size ≤ 1000) : ∀ (d i K v : Nat), i + d = t.size → ∃ v' : Int, stilemanref04_hex.l0 (K + d + 2) t ((v % 4294967296 : Nat) : Int) (i : Int) = some (v', decide ((∀ c ∈ t.data.toList.drop i, okD c) ∧ t.size = 8)) ∧
      ((∀ c ∈ t.data.toList.drop i, okD c) → v' = ((fold16 v (t.data.toList.drop i) % 4294967296 : Nat) : Int))
  | 0, i, K, v, h => by
    obtain rfl : i = t.size := by omega
    have e : t.data.toList.drop t.size = [] := List.drop_eq_nil_of_le (by rw [Array.length_toList]; exact Nat.le_refl _)
    rw [e]
    refine ⟨_, ?_, fun _ => rfl⟩
    unfold stilemanref04_hex.l0
    rw [if_neg (by omega)]
    have : ((t.size : Int) == 8) = decide ((∀ c ∈ ([] : List UInt8), okD c) ∧ t.size = 8) := by
      rw [Bool.eq_iff_iff, beq_iff_eq, decide_eq_true_iff]
      exact ⟨fun h => ⟨by simp, by omega⟩, fun h => by omega⟩
    rw [this]
    rfl
  | d + 1, i, K, v, h => by
    have hi : i < t.size := by omega
    rw [drop_get hi]
    unfold stilemanref04_hex.l0
    rw [if_pos (by omega), if_pos (by omega), bt_get hi]
    generalize t.data.toList[i]'(by rw [Array.length_toList]; exact hi) = c
    rw [show K + (d + 1) + 1 = K + d + 1 + 1 from rfl, digit_f, Option.bind_some]
    by_cases hc : okD c
    · have hw : worth c < 16 := by
        unfold worth okD at *
        split <;> omega
      rw [if_pos hc, if_neg (by omega), Option.bind_some, show wrap64 ((i : Int) + 1) = ((i + 1 : Nat) : Int) by unfold wrap64; omega]
      have ev : ((((v % 4294967296 : Nat) : Int) * 16 % 4294967296) + (worth c : Int)) % 4294967296 = (((v * 16 + worth c) % 4294967296 : Nat) : Int) := by omega
      rw [ev]
      obtain ⟨v', h1, h2⟩ := hex_go t ht d (i + 1) K (v * 16 + worth c) (by omega)
      refine ⟨v', ?_, fun q => h2 (fun x hx => q x (by simp [hx]))⟩
      rw [show K + d + 1 + 1 = K + d + 2 from rfl, h1]
      congr 2
      rw [Bool.eq_iff_iff, decide_eq_true_iff, decide_eq_true_iff]
      exact ⟨fun q => ⟨fun x hx => by rcases List.mem_cons.1 hx with rfl | hx; exact hc; exact q.1 x hx, q.2⟩, fun q => ⟨fun x hx => q.1 x (by simp [hx]), q.2⟩⟩
    · rw [if_neg hc, if_pos rfl]
      refine ⟨0, ?_, fun q => absurd (q c (by simp)) hc⟩
      congr 2
      exact (decide_eq_false (fun q => hc (q.1 c (by simp)))).symm
theorem dig_worth : ∀ c : Fin 256, ((48 ≤ c.val ∧ c.val ≤ 57) ∨ (97 ≤ c.val ∧ c.val ≤ 102)) → dig (if c.val < 58 then c.val - 48 else c.val - 87) = UInt8.ofNat c.val := by decide +kernel
theorem dig_ok {c : UInt8} (h : okD c) : dig (worth c) = c := by
  have := dig_worth ⟨c.toNat, c.toNat_lt⟩ h
  simp only at this
  unfold worth
  rw [this]
  exact UInt8.ofNat_toNat
theorem worth_lt {c : UInt8} (h : okD c) : worth c < 16 := by
  unfold worth okD at *
  split <;> omega
theorem snoc_ind {P : List UInt8 → Prop} (h0 : P []) (h1 : ∀ l d, P l → P (l ++ [d])) : ∀ (n : Nat) (l : List UInt8), l.length = n → P l
  | 0, l, h => by rw [List.eq_nil_of_length_eq_zero h]; exact h0
  | n + 1, l, h => by
    have hne : l ≠ [] := fun e => by rw [e] at h; simp at h
    have e := List.dropLast_concat_getLast hne
    rw [← e]
    exact h1 _ _ (snoc_ind h0 h1 n _ (by rw [List.length_dropLast, h]; rfl))
theorem hx_val (l : List UInt8) (hl : ∀ c ∈ l, okD c) : hx l.length (val16 l) = l := by
  revert hl
  refine snoc_ind (P := fun l => (∀ c ∈ l, okD c) → hx l.length (val16 l) = l) (fun _ => rfl) ?_ l.length l rfl
  intro l d ih hl
  have hd := hl d (by simp)
  rw [List.length_append, val16_snoc]
  show hx (l.length) ((val16 l * 16 + worth d) / 16) ++ [dig ((val16 l * 16 + worth d) % 16)] = l ++ [d]
  have := worth_lt hd
  rw [show (val16 l * 16 + worth d) / 16 = val16 l by omega, show (val16 l * 16 + worth d) % 16 = worth d by omega, dig_ok hd, ih (fun c hc => hl c (by simp [hc]))]
theorem val_lt (l : List UInt8) (hl : ∀ c ∈ l, okD c) : val16 l < 16 ^ l.length := by
  revert hl
  refine snoc_ind (P := fun l => (∀ c ∈ l, okD c) → val16 l < 16 ^ l.length) (fun _ => by decide) ?_ l.length l rfl
  intro l d ih hl
  have := worth_lt (hl d (by simp))
  have h2 := ih (fun c hc => hl c (by simp [hc]))
  rw [List.length_append, val16_snoc, List.length_singleton, Nat.pow_succ]
  omega
/-- Whether a word is eight digits, and their worth. -/
theorem hex_word (t : ByteArray) (ht : t.size ≤ 1000) (k : Nat) (hk : 1100 ≤ k) : (∃ v : Nat, v < 4294967296 ∧ t = ⟨(hex8 v).toArray⟩ ∧ stilemanref04_hex.f k t = some ((v : Int), true)) ∨ ((¬ ∃ v : Nat, v < 4294967296 ∧ t = ⟨(hex8 v).toArray⟩) ∧ ∃ v : Int, stilemanref04_hex.f k t = some (v, false)) := by
  obtain ⟨v', h1, h2⟩ := hex_go t ht t.size 0 (k - t.size - 2) 0 (by omega)
  rw [show k - t.size - 2 + t.size + 2 = k by omega, List.drop_zero] at h1
  rw [List.drop_zero] at h2
  have hf : stilemanref04_hex.f k t = some (v', decide ((∀ c ∈ t.data.toList, okD c) ∧ t.size = 8)) := h1
  by_cases hok : (∀ c ∈ t.data.toList, okD c) ∧ t.size = 8
  · have hlen : t.data.toList.length = 8 := by rw [Array.length_toList]; exact hok.2
    have hv := val_lt _ hok.1
    rw [hlen] at hv
    have hv2 : val16 t.data.toList < 4294967296 := by simpa using hv
    have e8 := hx_val _ hok.1
    rw [hlen, hx_8 hv2] at e8
    refine .inl ⟨val16 t.data.toList, hv2, Note.bytes_eq (by rw [ByteArray.toList_eq, ByteArray.toList_eq]; simpa using e8.symm), ?_⟩
    rw [hf, decide_eq_true hok, h2 hok.1]
    congr 3
    show val16 t.data.toList % 4294967296 = _
    exact Nat.mod_eq_of_lt hv2
  · refine .inr ⟨?_, v', by rw [hf, decide_eq_false hok]⟩
    rintro ⟨v, hv, rfl⟩
    refine hok ⟨fun c hc => hex8_range v c (by simpa using hc), ?_⟩
    have := hex8_len hv
    show (hex8 v).toArray.size = 8
    rw [List.size_toArray, this]

/-! the access of a text -/
abbrev U (x : Int) : Prop := 0 ≤ x ∧ x < 4294967296
def Is (s : ByteArray) (k c x y o : Int) : Prop := Right k c x y ∧ U x ∧ U y ∧ U o ∧ textB k c x y o = s
def many (k : Int) : Nat := if k = 1 then 4 else if k = 5 then 6 else 5
def hexB (v : Int) : ByteArray := ⟨(hex8 v.toNat).toArray⟩
def wasB : ByteArray := ⟨#[119, 97, 115]⟩
def at_ (l : List ByteArray) (i : Nat) : ByteArray := l.getD i ByteArray.empty
structure Fits (l : List ByteArray) (k c x y o : Int) : Prop where
  kind : kG l = k
  len : l.length = many k
  was : at_ l (l.length - 2) = wasB
  cell : at_ l 1 = ⟨(Lib.itoa c).toArray⟩
  old : at_ l (l.length - 1) = hexB o
  hx2 : k ≠ 1 → at_ l 2 = hexB x
  hy3 : k = 5 → at_ l 3 = hexB y
theorem fits_of {s : ByteArray} {k c x y o : Int} (h : Is s k c x y o) : Fits (Note.cut s) k c x y o := by
  obtain ⟨hR, hx, hy, ho, rfl⟩ := h
  have hg := (guess hR hx hy ho).1
  rw [cut_text hR]
  refine ⟨hg, ?_, ?_, ?_, ?_, ?_, ?_⟩
  all_goals unfold parts
  · unfold many
    by_cases k1 : k = 1
    · rw [if_neg (by simpa using k1), if_neg (by omega), if_pos k1]; rfl
    · by_cases k5 : k = 5
      · rw [if_pos k1, if_pos k5, if_neg k1, if_pos k5]; rfl
      · rw [if_pos k1, if_neg k5, if_neg k1, if_neg k5]; rfl
  · split <;> split <;> rfl
  · split <;> split <;> rfl
  · split <;> split <;> rfl
  · intro k1
    rw [if_pos k1]
    split <;> rfl
  · intro k5
    rw [if_pos (by omega), if_pos k5]
    rfl
theorem kf_spec : ∀ (i : Nat) (x : ByteArray), i ≤ 6 → kf x i ≠ 0 → 1 ≤ kf x i ∧ kf x i ≤ 5 ∧ wordA (kf x i) = x
  | 0, x, _, h => absurd rfl h
  | i + 1, x, hi, h => by
    by_cases e : i ≠ 0 ∧ wordA (i : Int) = x
    · have : kf x (i + 1) = (i : Int) := if_pos e
      rw [this]
      exact ⟨by omega, by omega, e.2⟩
    · have : kf x (i + 1) = kf x i := if_neg e
      rw [this] at h ⊢
      exact kf_spec i x (by omega) h
theorem list4 {l : List ByteArray} (h : l.length = 4) : l = [at_ l 0, at_ l 1, at_ l 2, at_ l 3] := by
  match l, h with
  | [a, b, c, d], _ => rfl
theorem list5 {l : List ByteArray} (h : l.length = 5) : l = [at_ l 0, at_ l 1, at_ l 2, at_ l 3, at_ l 4] := by
  match l, h with
  | [a, b, c, d, e], _ => rfl
theorem list6 {l : List ByteArray} (h : l.length = 6) : l = [at_ l 0, at_ l 1, at_ l 2, at_ l 3, at_ l 4, at_ l 5] := by
  match l, h with
  | [a, b, c, d, e, f], _ => rfl
theorem is_of {s : ByteArray} {k c x y o : Int} (h : Fits (Note.cut s) k c x y o) (hk : k ≠ 0) (hc : 0 ≤ c ∧ c ≤ 1023) (hx : U x) (hy : U y) (ho : U o) (h1 : k = 1 → x = 0) (h5 : k ≠ 5 → y = 0) : Is s k c x y o := by
  obtain ⟨f1, f2, f3, f4, f5, f6, f7⟩ := h
  have hs := cut_join s
  generalize Note.cut s = l at *
  have hkf : kf (at_ l 0) 6 = k := f1
  obtain ⟨k1, k2, k3⟩ := kf_spec 6 (at_ l 0) (Nat.le_refl _) (by rw [hkf]; exact hk)
  rw [hkf] at k1 k2 k3
  have hR : Right k c x y := ⟨k1, k2, hc.1, hc.2, h1, h5⟩
  refine ⟨hR, hx, hy, ho, ?_⟩
  have e : parts k c x y o = l := by
    unfold many at f2
    unfold parts
    by_cases e1 : k = 1
    · rw [if_pos e1] at f2
      rw [if_neg (by simpa using e1), if_neg (by omega)]
      rw [f2] at f3 f5
      rw [list4 f2]
      show [wordA k, _, _, _] = _
      rw [k3, ← f4]
      exact congrArg _ (congrArg _ (by rw [show at_ l 2 = wasB from f3, show at_ l 3 = hexB o from f5]; rfl))
    · rw [if_neg e1] at f2
      by_cases e5 : k = 5
      · rw [if_pos e5] at f2
        rw [if_pos e1, if_pos e5]
        rw [f2] at f3 f5
        rw [list6 f2]
        show [wordA k, _, _, _, _, _] = _
        rw [k3, ← f4]
        exact congrArg _ (congrArg _ (by rw [f6 e1, f7 e5, show at_ l 4 = wasB from f3, show at_ l 5 = hexB o from f5]; rfl))
      · rw [if_neg e5] at f2
        rw [if_pos e1, if_neg e5]
        rw [f2] at f3 f5
        rw [list5 f2]
        show [wordA k, _, _, _, _] = _
        rw [k3, ← f4]
        exact congrArg _ (congrArg _ (by rw [f6 e1, show at_ l 3 = wasB from f3, show at_ l 4 = hexB o from f5]; rfl))
  unfold textB
  rw [if_pos hR, e]
  exact hs
def FoundA (s : ByteArray) (r : Int × Int × Int × Int × Int × Int) : Prop :=
  (∃ k c x y o, Is s k c x y o ∧ r = (k, c, x, y, o, 0)) ∨ (r = (0, 0, 0, 0, 0, 4) ∧ ¬ ∃ k c x y o, Is s k c x y o)
theorem bad {s : ByteArray} (h : ∀ k c x y o, Is s k c x y o → Fits (Note.cut s) k c x y o → False) : FoundA s (0, 0, 0, 0, 0, 4) := .inr ⟨rfl, fun ⟨k, c, x, y, o, q⟩ => h k c x y o q (fits_of q)⟩
theorem rd_many {k : Int} (h1 : 1 ≤ k) (h5 : k ≤ 5) : rd [0, 4, 5, 5, 5, 6] k = (many k : Int) := by
  have : k = 1 ∨ k = 2 ∨ k = 3 ∨ k = 4 ∨ k = 5 := by omega
  rcases this with rfl | rfl | rfl | rfl | rfl <;> rfl
end Go.Proofs.YtejmbmhehbcflaaDoor.Acc
