/- The law PlaceApart: no two cells of tasks are one; each has a name. -/
import Derived.Test.YtejmbmhehbcflaaDoorNme
import Derived.Test.YtejmbmhehbcflaaDoorNAp
namespace Go.Proofs.YtejmbmhehbcflaaDoor.Nam
open Go.RowKit Go.Proofs.YtejmbmhehbcflaaDoor.Pr Go.Proofs.YtejmbmhehbcflaaDoorW.PrintWords Go.Proofs.YtejmbmhehbcflaaDoorW.PrintLast Go.Proofs.YtejmbmhehbcflaaDoorW.PrintMore
set_option linter.unusedSimpArgs false
set_option linter.unusedVariables false
set_option maxRecDepth 100000

/-! plain -/
def mk (n i r c : Nat) : Bool := decide (8 ≤ c ∧ c < 8 + 4 * n ∧ ((c - 8) % n < i ∨ ((c - 8) % n = i ∧ (c - 8) / n < r)))
def seenL (n i r : Nat) : List Bool := (List.range 300).map (mk n i r)
theorem seen_len (n i r : Nat) : (seenL n i r).length = 300 := by simp [seenL]
theorem seen_zero (n : Nat) : seenL n 0 0 = List.replicate 300 false := by
  apply List.ext_getElem
  · simp [seenL]
  · intro j h1 h2
    simp only [seenL, List.getElem_map, List.getElem_range, mk, List.getElem_replicate]
    exact decide_eq_false (by rintro ⟨_, _, h | ⟨_, h⟩⟩ <;> exact absurd h (Nat.not_lt_zero _))
theorem seen_at (n i r c : Nat) (h : c < 300) : rdOf false (seenL n i r) (c : Int) = mk n i r c := by
  simp [rdOf, seenL, h]
theorem cell_div (n i r : Nat) (hi : i < n) : (8 + r * n + i - 8) % n = i ∧ (8 + r * n + i - 8) / n = r := by
  rw [show 8 + r * n + i - 8 = i + n * r by rw [Nat.mul_comm]; omega]
  exact ⟨by rw [Nat.add_mul_mod_self_left, Nat.mod_eq_of_lt hi], by rw [Nat.add_mul_div_left _ _ (by omega), Nat.div_eq_of_lt hi]; omega⟩
theorem cell_lt (n i r : Nat) (hi : i < n) (hr : r < 4) : 8 + r * n + i < 8 + 4 * n := by
  have : r * n + n ≤ 4 * n := by rw [← Nat.succ_mul]; exact Nat.mul_le_mul_right n hr
  omega
theorem mk_here (n i r : Nat) (hi : i < n) : mk n i r (8 + r * n + i) = false := by
  obtain ⟨h1, h2⟩ := cell_div n i r hi
  simp only [mk, h1, h2]
  simp
theorem seen_set (n i r : Nat) (hi : i < n) (hr : r < 4) : (seenL n i r).set (8 + r * n + i) true = seenL n i (r + 1) := by
  apply List.ext_getElem
  · simp [seenL]
  · intro c h1 h2
    rw [List.getElem_set]
    obtain ⟨e1, e2⟩ := cell_div n i r hi
    have hlt := cell_lt n i r hi hr
    by_cases hc : 8 + r * n + i = c
    · rw [if_pos hc]
      subst hc
      simp only [seenL, List.getElem_map, List.getElem_range, mk, e1, e2]
      simp
      omega
    · rw [if_neg hc]
      simp only [seenL, List.getElem_map, List.getElem_range, mk]
      rw [decide_eq_decide]
      constructor
      · rintro ⟨a, b, c⟩
        exact ⟨a, b, by omega⟩
      · rintro ⟨a, b, d⟩
        refine ⟨a, b, ?_⟩
        rcases d with d | ⟨d1, d2⟩
        · exact .inl d
        · refine .inr ⟨d1, ?_⟩
          rcases Nat.lt_succ_iff_lt_or_eq.1 d2 with d | d
          · exact d
          · exfalso
            have := Nat.div_add_mod (c - 8) n
            rw [d1, d, Nat.mul_comm] at this
            omega
theorem seen_next (n i : Nat) (hn : 1 ≤ n) : seenL n i 4 = seenL n (i + 1) 0 := by
  apply List.ext_getElem
  · simp [seenL]
  · intro c h1 h2
    simp only [seenL, List.getElem_map, List.getElem_range, mk]
    rw [decide_eq_decide]
    constructor
    · rintro ⟨a, b, c⟩
      exact ⟨a, b, by omega⟩
    · rintro ⟨a, b, d⟩
      refine ⟨a, b, ?_⟩
      have h4 : (c - 8) / n < 4 := by rw [Nat.div_lt_iff_lt_mul (by omega)]; omega
      rcases d with d | ⟨_, d⟩
      · rcases Nat.lt_succ_iff_lt_or_eq.1 d with d | d
        · exact .inl d
        · exact .inr ⟨d, h4⟩
      · exact absurd d (Nat.not_lt_zero _)
theorem mk_all (n c : Nat) (hn : 1 ≤ n) (h0 : 8 ≤ c) (h1 : c < 8 + 4 * n) : mk n n 0 c = true := by
  have := Nat.mod_lt (c - 8) (show 0 < n by omega)
  simp [mk]
  omega
theorem own_some : own 1 ≠ [] ∧ own 2 ≠ [] := by decide
theorem sizev_n (n : Nat) (h : 1 ≤ n ∧ n ≤ 64) : sizev n = 8 + 4 * n := by unfold sizev; rw [if_pos (by omega)]
theorem name_n (n kind c : Nat) (hk : own kind ≠ []) (h : 1 ≤ n ∧ n ≤ 64) (h0 : 8 ≤ c) (h1 : c < 8 + 4 * n) : nameL n kind c = roww ((c - 8) / n) ++ ⟨#[32]⟩ ++ txt ((c - 8) % n) := by
  unfold nameL
  have := own_len kind
  rw [sizev_n n h, if_neg (by rintro (h | h | h); exact hk h; omega; omega), if_neg (by omega), if_neg (by omega)]
  simp
theorem name_data (q i : Nat) : (roww q ++ ⟨#[32]⟩ ++ txt i).data.toList = (roww q).data.toList ++ 32 :: Lib.decDigits i := by
  simp [txt]
theorem roww_no (q : Nat) : (32 : UInt8) ∉ (roww q).data.toList := by
  match q with
  | 0 => decide
  | 1 => decide
  | 2 => decide
  | _ + 3 => show (32 : UInt8) ∉ ([112, 101, 114, 109, 105, 116] : List UInt8); decide
theorem roww_apart : ∀ q p : Fin 4, (roww q.val).data.toList = (roww p.val).data.toList → q = p := by decide
theorem name_apart (n a b : Nat) (h : 1 ≤ n ∧ n ≤ 64) (a0 : 8 ≤ a) (a1 : a < 8 + 4 * n) (b0 : 8 ≤ b) (b1 : b < 8 + 4 * n) (he : nameL n 2 a = nameL n 2 b) : a = b := by
  have e2 := own_some.2
  have ha := name_n n 2 a e2 h a0 a1
  have hb := name_n n 2 b e2 h b0 b1
  have he' : nameL (n : Int) ((2 : Nat) : Int) (a : Int) = nameL (n : Int) ((2 : Nat) : Int) (b : Int) := he
  rw [ha, hb] at he'
  have h3 := congrArg (fun s : ByteArray => s.data.toList) he'
  simp only [name_data] at h3
  have hn : 0 < n := by omega
  have d1 : (a - 8) / n < 4 := by rw [Nat.div_lt_iff_lt_mul hn]; omega
  have d2 : (b - 8) / n < 4 := by rw [Nat.div_lt_iff_lt_mul hn]; omega
  have m1 := Nat.mod_lt (a - 8) hn
  have m2 := Nat.mod_lt (b - 8) hn
  obtain ⟨k1, k2⟩ := Note.cut_eq (roww_no _) (roww_no _) h3
  have k3 := roww_apart ⟨_, d1⟩ ⟨_, d2⟩ k1
  have k4 := Note.digits_apart ⟨(a - 8) % n, by omega⟩ ⟨(b - 8) % n, by omega⟩ k2
  simp only [Fin.mk.injEq] at k3 k4
  have := Nat.div_add_mod (a - 8) n
  have := Nat.div_add_mod (b - 8) n
  rw [k3, k4] at *
  omega
theorem bytes_ext {a b : ByteArray} (h : a.toList = b.toList) : a = b := by
  rw [ByteArray.toList_eq, ByteArray.toList_eq] at h
  obtain ⟨⟨x⟩⟩ := a
  obtain ⟨⟨y⟩⟩ := b
  simpa using h
theorem name_ne (n a : Nat) (h : 1 ≤ n ∧ n ≤ 64) (a0 : 8 < a) (a1 : a < 8 + 4 * n) : ((nameL n 2 (a : Int)).toList == (nameL n 2 ((a : Int) - 1)).toList) = false := by
  rw [beq_eq_false_iff_ne]
  intro he
  have := bytes_ext he
  rw [show ((a : Int) - 1) = ((a - 1 : Nat) : Int) by omega] at this
  have := name_apart n a (a - 1) h (by omega) a1 (by omega) (by omega) this
  omega
theorem name_full (n c : Nat) (h : 1 ≤ n ∧ n ≤ 64) (h0 : 8 ≤ c) (h1 : c < 8 + 4 * n) : ((nameL n 1 (c : Int)).toList == []) = false ∧ (nameL n 1 (c : Int)).toList.isEmpty = false := by
  have e : nameL n 1 (c : Int) = _ := name_n n 1 c own_some.1 h h0 h1
  have h2 : (nameL n 1 (c : Int)).toList ≠ [] := by
    rw [e, ByteArray.toList_eq, name_data]
    simp
  cases hl : (nameL n 1 (c : Int)).toList with
  | nil => exact absurd hl h2
  | cons x l => simp
theorem wrap_in {x : Int} (h0 : -1000000000 ≤ x) (h1 : x ≤ 1000000000) : wrap64 x = x := by unfold wrap64; omega
theorem cell_f (n i r : Nat) (h : 1 ≤ n ∧ n ≤ 64) (hi : i < n) (hr : r < 4) : place_Map_cell.f n r i = some ((8 + r * n + i : Nat) : Int) := by
  unfold place_Map_cell.f place_right.f
  have hlt := cell_lt n i r hi hr
  have hp : ((r : Int) * (n : Int)) = ((r * n : Nat) : Int) := by push_cast; rfl
  rw [if_pos (by omega), Option.bind_some, if_pos (decide_eq_true (by omega)), if_neg (by omega), if_neg (by omega), hp]
  have e1 : wrap64 ((r * n : Nat) : Int) = ((r * n : Nat) : Int) := wrap_in (by omega) (by omega)
  have e2 : wrap64 (8 + ((r * n : Nat) : Int)) = ((8 + r * n : Nat) : Int) := by rw [wrap_in (by omega) (by omega)]; omega
  have e3 : wrap64 (((8 + r * n : Nat) : Int) + (i : Int)) = ((8 + r * n + i : Nat) : Int) := by rw [wrap_in (by omega) (by omega)]; omega
  rw [e1, e2, e3]
theorem next_f (n i : Nat) (h : 1 ≤ n ∧ n ≤ 64) (hi : i < n) : place_Map_Next.f n i = some ((8 + 0 * n + i : Nat) : Int) := by
  unfold place_Map_Next.f; have := cell_f n i 0 h hi (by omega); rw [show ((0 : Nat) : Int) = 0 from rfl] at this; rw [this]; rfl
theorem blocked_f (n i : Nat) (h : 1 ≤ n ∧ n ≤ 64) (hi : i < n) : place_Map_Blocked.f n i = some ((8 + 1 * n + i : Nat) : Int) := by
  unfold place_Map_Blocked.f; have := cell_f n i 1 h hi (by omega); rw [show ((1 : Nat) : Int) = 1 from rfl] at this; rw [this]; rfl
theorem watch_f (n i : Nat) (h : 1 ≤ n ∧ n ≤ 64) (hi : i < n) : place_Map_Watch.f n i = some ((8 + 2 * n + i : Nat) : Int) := by
  unfold place_Map_Watch.f; have := cell_f n i 2 h hi (by omega); rw [show ((2 : Nat) : Int) = 2 from rfl] at this; rw [this]; rfl
theorem permit_f (n i : Nat) (h : 1 ≤ n ∧ n ≤ 64) (hi : i < n) : place_Map_Permit.f n i = some ((8 + 3 * n + i : Nat) : Int) := by
  unfold place_Map_Permit.f; have := cell_f n i 3 h hi (by omega); rw [show ((3 : Nat) : Int) = 3 from rfl] at this; rw [this]; rfl
theorem new_f (n : Nat) (h : 1 ≤ n ∧ n ≤ 64) : place_New.f n = some ((n : Int), 0) := by
  unfold place_New.f place_right.f
  rw [if_pos (by omega), Option.bind_some, if_pos (decide_eq_true (by omega))]
theorem size_n (n : Nat) (h : 1 ≤ n ∧ n ≤ 64) : place_Map_Size.f n = some ((8 + 4 * n : Nat) : Int) := by
  rw [size_f, sizev_n n h]; congr 1
theorem aw_f3 : stilemanlaw03_awake.f = some true := by decide +kernel
theorem infoB : (Tryd.prog.info? 4).map (fun i => (i.zero, i.size, i.bytes)) = some (some (.bool false), 1, 1) := by kernel_rfl

end Go.Proofs.YtejmbmhehbcflaaDoor.Nam
