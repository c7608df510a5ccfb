/- The words of a joined text are what was joined. -/
import Derived.Test.YtejmbmhehbcflaaDoorNPr
import Derived.Test.YtejmbmhehbcflaaDoorNAp
namespace Go.Proofs.YtejmbmhehbcflaaDoor.Note
open Go.RowKit Go.Proofs.YtejmbmhehbcflaaDoor.Pr Go.Proofs.YtejmbmhehbcflaaDoorW.PrintWords
set_option linter.unusedSimpArgs false
set_option linter.unusedVariables false

theorem ix_none : ∀ {p : List UInt8}, (32 : UInt8) ∉ p → Lib.index p [32] = -1 := by
  intro p h
  rw [Lib.index_one]
  induction p with
  | nil => rfl
  | cons c p ih =>
    have h1 : ¬ c = 32 := fun e => h (by simp [e])
    have h2 := ih (fun e => h (by simp [e]))
    unfold Lib.indexByte
    simp [h1, h2]
theorem ix_hit : ∀ {p : List UInt8} (r : List UInt8), (32 : UInt8) ∉ p → Lib.index (p ++ 32 :: r) [32] = (p.length : Int) := by
  intro p r h
  rw [Lib.index_one]
  induction p with
  | nil => unfold Lib.indexByte; simp
  | cons c p ih =>
    have h1 : ¬ c = 32 := fun e => h (by simp [e])
    have h2 := ih (fun e => h (by simp [e]))
    rw [List.cons_append]
    unfold Lib.indexByte
    rw [h2]
    simp [h1]
theorem splitK_join : ∀ (ps : List (List UInt8)) (k : Nat), ps ≠ [] → (∀ p ∈ ps, (32 : UInt8) ∉ p) → ps.length ≤ k + 1 → Lib.splitK [32] 0 k (Lib.join ps [32]) = ps := by
  intro ps
  induction ps with
  | nil => intro k h; exact absurd rfl h
  | cons p r ih =>
    intro k _ hp hk
    have h0 := hp p (by simp)
    cases r with
    | nil =>
      rw [Lib.join_one]
      cases k with
      | zero => rfl
      | succ k => unfold Lib.splitK; rw [ix_none h0]; rfl
    | cons q r =>
      have e : Lib.join (p :: q :: r) [32] = p ++ 32 :: Lib.join (q :: r) [32] := by simp [Lib.join, List.intercalate]
      cases k with
      | zero => simp at hk
      | succ k =>
        rw [e]
        unfold Lib.splitK
        rw [ix_hit _ h0]
        have hn : (((p.length : Int)) == -1) = false := by rw [beq_eq_false_iff_ne]; omega
        rw [hn]
        have ih' := ih k (by simp) (fun x hx => hp x (by simp at hx ⊢; exact .inr hx)) (by simpa using hk)
        simp [ih']
theorem count_join : ∀ (ps : List (List UInt8)), ps.length ≤ (Lib.join ps [32]).count 32 + 1 := by
  intro ps
  induction ps with
  | nil => simp
  | cons p r ih =>
    cases r with
    | nil => simp
    | cons q r =>
      have e : Lib.join (p :: q :: r) [32] = p ++ 32 :: Lib.join (q :: r) [32] := by simp [Lib.join, List.intercalate]
      rw [e, List.count_append, List.count_cons_self]
      simp only [List.length_cons] at ih ⊢
      omega
theorem data_inj {l m : List ByteArray} (h : l.map (·.data.toList) = m.map (·.data.toList)) : l = m := by
  have hf : Function.Injective (fun x : ByteArray => x.data.toList) := by
    intro a b e
    obtain ⟨⟨x⟩⟩ := a
    obtain ⟨⟨y⟩⟩ := b
    simpa using e
  exact List.map_inj_right hf |>.1 h
theorem cut_joined (ps : List ByteArray) (h0 : ps ≠ []) (hp : ∀ p ∈ ps, (32 : UInt8) ∉ p.data.toList) : cut (joined ps) = ps := by
  apply data_inj
  unfold cut
  rw [Lib.splitB_data]
  have hc : Lib.countB (joined ps) ⟨#[32]⟩ = (Lib.join (ps.map (·.data.toList)) [32]).count 32 := by
    rw [← Lib.count_one]
    rfl
  rw [hc]
  have := count_join (ps.map (·.data.toList))
  exact splitK_join (ps.map (·.data.toList)) _ (by simpa using h0) (fun p hx => by obtain ⟨q, hq, rfl⟩ := List.mem_map.1 hx; exact hp q hq) this
/-- The words behind the task's. -/
def restP (wh o a : Int) : List ByteArray := (atv whatsL wh :: (if wh = 1 ∨ wh = 11 then [atv opsL o] else [])) ++ (if a ≠ 0 then [atv (argsL wh) a] else [])
theorem parts_eq (n : Nat) (wh o a : Int) : parts n wh o a = ⟨(Lib.decDigits n).toArray⟩ :: restP wh o a := by
  unfold parts restP
  split <;> split <;> simp
theorem task_at : ∀ n : Fin 64, atoiV ⟨(Lib.decDigits n.val).toArray⟩ = (n.val : Int) := by decide +kernel
/-- The first place of a word, by its bytes. -/
def idxD (x : List UInt8) : List ByteArray → Int → Int
  | [], _ => -1
  | y :: l, i => if x = y.data.toList then i else idxD x l (i + 1)
theorem idx_D (l : List ByteArray) (x : ByteArray) (hl : l.length ≤ 12) : ∀ (k i : Nat), i ≤ l.length → l.length + 1 ≤ k + i → slices_Index_string_string.l0 k l x (l.length : Int) (i : Int) = some (idxD x.data.toList (l.drop i) i) := by
  intro k
  induction k with
  | zero => intro i h1 h2; omega
  | succ k ih =>
    intro i h1 h2
    unfold slices_Index_string_string.l0
    by_cases hlt : i < l.length
    · rw [if_pos (by omega), if_pos (by omega), if_pos (by omega)]
      have e : l.drop i = l[i] :: l.drop (i + 1) := (List.drop_eq_getElem_cons hlt)
      rw [e]
      unfold idxD
      have e2 : rdOf ByteArray.empty l (i : Int) = l[i] := by simp [rdOf, hlt]
      rw [e2, ByteArray.toList_eq, ByteArray.toList_eq]
      by_cases hx : x.data.toList = l[i].data.toList
      · rw [if_pos hx, if_pos hx]
      · rw [if_neg hx, if_neg hx, show wrap64 ((i : Int) + 1) = ((i + 1 : Nat) : Int) by unfold wrap64; omega, ih (i + 1) (by omega) (by omega)]
        rfl
    · rw [if_neg (by omega), show l.drop i = [] by rw [List.drop_eq_nil_iff]; omega]
      rfl
theorem idxv_D (l : List ByteArray) (x : ByteArray) (hl : l.length ≤ 12) : idxv l x = idxD x.data.toList l 0 := by
  unfold idxv slices_Index_string_string.f
  have := idx_D l x hl 20 0 (by omega) (by omega)
  rw [show ((0 : Nat) : Int) = 0 from rfl, List.drop_zero] at this
  rw [this]
  rfl
theorem wh_all : ∀ x ∈ all, mx (idxD (atv whatsL x.1).data.toList whatsL 0) 0 = x.1 := by decide +kernel
theorem op_all : ∀ x ∈ all, (x.1 = 1 ∨ x.1 = 11) → mx (idxD (atv opsL x.2.1).data.toList opsL 0) 0 = x.2.1 := by decide +kernel
theorem ag_all : ∀ x ∈ all, x.2.2 ≠ 0 → mx (idxD (atv (argsL x.1) x.2.2).data.toList (argsL x.1) 0) 0 = x.2.2 := by decide +kernel
theorem words_no : ∀ x ∈ all, ∀ p ∈ restP x.1 x.2.1 x.2.2, (32 : UInt8) ∉ p.data.toList := by decide +kernel
theorem cut_text {t wh o a : Int} (h : Right t wh o a) : cut (textB t wh o a) = ⟨(Lib.decDigits t.toNat).toArray⟩ :: restP wh o a := by
  have k1 := h.1; have k2 := h.2.1
  unfold textB
  rw [if_pos h, parts_eq]
  refine cut_joined _ (by simp) ?_
  intro p hp
  rcases List.mem_cons.1 hp with rfl | hp
  · have := digits_no ⟨t.toNat, by omega⟩
    simpa using this
  · exact words_no (wh, o, a) (mem_all h) p hp
theorem hasv_iff (wh : Int) : hasv wh = true ↔ wh = 1 ∨ wh = 11 := by simp [hasv]
set_option maxHeartbeats 2000000 in
theorem guess {t wh o a : Int} (h : Right t wh o a) : taskG (cut (textB t wh o a)) = t ∧ whG (cut (textB t wh o a)) = wh ∧ opG (cut (textB t wh o a)) = o ∧ argG (cut (textB t wh o a)) = a := by
  have k1 := h.1; have k2 := h.2.1
  have hm := mem_all h
  rw [cut_text h]
  have hw : whG (⟨(Lib.decDigits t.toNat).toArray⟩ :: restP wh o a) = wh := by
    unfold whG
    rw [if_pos (by simp [restP]), idxv_D _ _ (by decide)]
    exact wh_all (wh, o, a) hm
  have hlen : ∀ d : ByteArray, (d :: restP wh o a).length = 2 + (if wh = 1 ∨ wh = 11 then 1 else 0) + (if a ≠ 0 then 1 else 0) := by
    intro d
    unfold restP
    split <;> split <;> simp
  refine ⟨?_, hw, ?_, ?_⟩
  · have := task_at ⟨t.toNat, by omega⟩
    show atoiV _ = t
    rw [List.getD_cons_zero, this]
    simp
    omega
  · by_cases hh : wh = 1 ∨ wh = 11
    · rw [op_yes (by rw [hw]; exact (hasv_iff wh).2 hh) (by rw [hlen, if_pos hh]; omega), idxv_D _ _ (by decide)]
      have e : (⟨(Lib.decDigits t.toNat).toArray⟩ :: restP wh o a : List ByteArray).getD 2 ByteArray.empty = atv opsL o := by
        unfold restP
        rw [if_pos hh]
        rfl
      rw [e]
      exact op_all (wh, o, a) hm hh
    · unfold opG
      rw [hw, if_neg (by rw [hasv_iff]; exact fun x => hh x.1)]
      have := h.2.2.2.2.1
      rw [if_neg hh] at this
      exact this.symm
  · by_cases ha : a = 0
    · subst ha
      by_cases hh : wh = 1 ∨ wh = 11
      · exact arg_end (by rw [hw]; exact (hasv_iff wh).2 hh) (by rw [hlen, if_pos hh, if_neg (by simp)]; omega)
      · unfold argG restG
        have hv : hasv wh = false := Bool.eq_false_iff.2 (fun x => hh ((hasv_iff wh).1 x))
        rw [hw, if_neg (by rw [List.length_drop, hlen, if_neg hh, if_neg (by simp), hv]; decide)]
    · by_cases hh : wh = 1 ∨ wh = 11
      · rw [arg_yes (by rw [hw]; exact (hasv_iff wh).2 hh) (by rw [hlen, if_pos hh, if_pos ha]; omega), hw, idxv_D _ _ (argsL_len12 wh)]
        have e : (⟨(Lib.decDigits t.toNat).toArray⟩ :: restP wh o a : List ByteArray).getD 3 ByteArray.empty = atv (argsL wh) a := by
          unfold restP
          rw [if_pos hh, if_pos ha]
          rfl
        rw [e]
        exact ag_all (wh, o, a) hm ha
      · rw [arg_no (by rw [hw]; exact Bool.eq_false_iff.2 (fun x => hh ((hasv_iff wh).1 x))) (by rw [hlen, if_neg hh, if_pos ha]; omega), hw, idxv_D _ _ (argsL_len12 wh)]
        have e : (⟨(Lib.decDigits t.toNat).toArray⟩ :: restP wh o a : List ByteArray).getD 2 ByteArray.empty = atv (argsL wh) a := by
          unfold restP
          rw [if_neg hh, if_pos ha]
          rfl
        rw [e]
        exact ag_all (wh, o, a) hm ha
/-- What note.Parse gives, told by the notes. -/
theorem out_of {t wh o a : Int} (h : Right t wh o a) : outG (textB t wh o a) = .tuple #[.agg #[.int .i64 t, .int .i64 wh, .int .i64 o, .int .i64 a], .int .i64 0] := by
  obtain ⟨e1, e2, e3, e4⟩ := guess h
  unfold outG RightG textG
  rw [e1, e2, e3, e4, if_pos ⟨h, rfl⟩]
theorem out_none {s : ByteArray} (h : ¬ ∃ t wh o a, Right t wh o a ∧ textB t wh o a = s) : outG s = .tuple #[.agg #[.int .i64 0, .int .i64 0, .int .i64 0, .int .i64 0], .int .i64 4] := by
  unfold outG
  rw [if_neg (fun k => h ⟨_, _, _, _, k.1, k.2⟩)]
end Go.Proofs.YtejmbmhehbcflaaDoor.Note
