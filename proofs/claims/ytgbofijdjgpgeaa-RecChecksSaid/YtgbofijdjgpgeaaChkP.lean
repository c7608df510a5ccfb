/- The reference's check of any notes answers as rec.Check does. -/
import Derived.Test.YtgbofijdjgpgeaaChk
import Derived.Test.YtgbofijdjgpgeaaRecsA
import Derived.Test.YtgbofijdjgpgeaaPRecChecksx2
namespace Go.Proofs.Ytgbofijdjgpgeaa.Recs
open Go.RowKit Go.Proofs.YtgbofijdjgpgeaaW.PrintWords Go.Proofs.YtgbofijdjgpgeaaW.PrintMore Go.Proofs.YtgbofijdjgpgeaaW.PrintLast Go.Proofs.Ytgbofijdjgpgeaa.PRecChecks

set_option linter.unusedSimpArgs false
theorem gget_gput {α : Type} (k : Int) (v : α) (t : Int) : ∀ m : List (Int × α), gget (gput m k v) t = if t = k then some v else gget m t
  | [] => by
    simp only [gput, gget]
    by_cases h : k = t
    · rw [if_pos h, if_pos h.symm]
    · rw [if_neg h, if_neg (Ne.symm h)]
  | (a, x) :: m => by
    simp only [gput]
    by_cases ha : a = k
    · rw [if_pos ha]
      simp only [gget]
      by_cases h : a = t
      · rw [if_pos h, if_pos (by rw [← h, ha])]
      · rw [if_neg h, if_neg (fun e => h (by rw [ha, e])), if_neg h]
    · rw [if_neg ha]
      simp only [gget]
      rw [gget_gput k v t m]
      by_cases h : a = t
      · rw [if_pos h, if_neg (fun e => ha (by rw [h, e])), if_pos h]
      · rw [if_neg h, if_neg h]

/-- The reference's word. -/
theorem word_f (wh : Int) : stilemanref05_word.f wh = some (Note.atv Note.whatsL wh) := by
  unfold stilemanref05_word.f
  rw [Option.bind_some]
  by_cases h0 : wh < 0
  · rw [if_pos h0, Note.atv_none (by omega)]
  · rw [if_neg h0]
    by_cases h1 : wh > 11
    · rw [if_pos h1, Note.atv_none (by show ¬ (0 ≤ wh ∧ wh < 12); omega)]
    · rw [if_neg h1, if_pos (by omega), if_pos (by show wh < 12; omega)]
      unfold Note.atv
      rw [if_pos (by show 0 ≤ wh ∧ wh < 12; omega)]
      rfl
theorem refop_f (o : Int) : stilemanref05_Op.f o = some (Note.atv Note.opsL o) := by
  unfold stilemanref05_Op.f
  rw [Option.bind_some]
  by_cases h0 : o < 0
  · rw [if_pos h0, Note.atv_none (by omega)]
  · rw [if_neg h0]
    by_cases h1 : o > 8
    · rw [if_pos h1, Note.atv_none (by show ¬ (0 ≤ o ∧ o < 9); omega)]
    · rw [if_neg h1, if_pos (by omega), if_pos (by show o < 9; omega)]
      unfold Note.atv
      rw [if_pos (by show 0 ≤ o ∧ o < 9; omega)]
      rfl
theorem j2_f (k : Nat) (b : Bool) (t wh o a : Int) : stilemanref05_Right.j2 (k + 1) b t wh o a = some (!b && decide (if wh = 2 then 1 ≤ a ∧ a ≤ 2 else if wh = 11 then 1 ≤ a ∧ a ≤ 3 else a = 0)) := by
  show (if b = true then some false else (if wh = 2 then (if a = 1 then some true else some (a == 2)) else (if wh = 11 then (if a ≥ 1 then some (decide (a ≤ 3)) else some false) else some (a == 0)))) = _
  cases b
  · rw [if_neg (by simp)]
    by_cases h2 : wh = 2
    · rw [if_pos h2]
      by_cases h1 : a = 1
      · rw [if_pos h1]; simp [h2, h1]
      · rw [if_neg h1]
        congr 1
        rw [Bool.eq_iff_iff]
        simp [h2]
        omega
    · rw [if_neg h2]
      by_cases h11 : wh = 11
      · rw [if_pos h11]
        by_cases h1 : a ≥ 1
        · rw [if_pos h1]
          congr 1
          rw [Bool.eq_iff_iff]
          simp [h11]
          omega
        · rw [if_neg h1]
          congr 1
          rw [Bool.eq_iff_iff]
          simp [h11]
          omega
      · rw [if_neg h11]
        congr 1
        rw [Bool.eq_iff_iff]
        simp [h2, h11]
  · simp
theorem j1_f (k : Nat) (b : Bool) (t wh o a : Int) : stilemanref05_Right.j1 (k + 2) b t wh o a = some (decide (if b = true then 1 ≤ o ∧ o ≤ 8 else o = 0) && decide (if wh = 2 then 1 ≤ a ∧ a ≤ 2 else if wh = 11 then 1 ≤ a ∧ a ≤ 3 else a = 0)) := by
  show (if b = true then ((stilemanref05_Op.f o).bind fun t142 => (if t142.toList = ([] : List UInt8) then (stilemanref05_Right.j2 (k + 1) true t wh o a) else (stilemanref05_Right.j2 (k + 1) false t wh o a))) else (stilemanref05_Right.j2 (k + 1) (o != 0) t wh o a)) = _
  rw [refop_f, Option.bind_some, j2_f, j2_f, j2_f]
  cases b
  · simp only [Bool.false_eq_true, if_false]
    by_cases ho : o = 0 <;> simp [ho]
  · simp only [if_true]
    by_cases ho : 1 ≤ o ∧ o ≤ 8
    · have h := Note.list_full (fun h => (Note.ops_at o).1 h ho)
      rw [if_neg (by intro e; rw [e] at h; cases h)]
      simp [ho]
    · have h := Note.empty_of ((Note.ops_at o).2 ho)
      rw [if_pos (by simpa using h)]
      simp [ho]
theorem refRight (k : Nat) (t wh o a : Int) : stilemanref05_Right.f (k + 3) t wh o a = some (decide (Note.Right t wh o a)) := by
  have j0 : ∀ b, stilemanref05_Right.j0 (k + 3) b t wh o a = some (!b && (decide (if wh = 1 ∨ wh = 11 then 1 ≤ o ∧ o ≤ 8 else o = 0) && decide (if wh = 2 then 1 ≤ a ∧ a ≤ 2 else if wh = 11 then 1 ≤ a ∧ a ≤ 3 else a = 0))) := by
    intro b
    show (if b = true then some false else (if wh = 1 then (stilemanref05_Right.j1 (k + 2) true t wh o a) else (stilemanref05_Right.j1 (k + 2) (wh == 11) t wh o a))) = _
    cases b
    · simp only [Bool.false_eq_true, if_false]
      rw [j1_f, j1_f]
      by_cases h1 : wh = 1
      · rw [if_pos h1]; simp [h1]
      · rw [if_neg h1]
        by_cases h11 : wh = 11 <;> simp [h1, h11]
    · simp
  unfold stilemanref05_Right.f
  rw [j0, word_f, Option.bind_some, j0]
  by_cases h0 : t < 0
  · rw [if_pos h0]
    congr 1
    rw [decide_eq_false (show ¬ Note.Right t wh o a by unfold Note.Right; omega)]
    rfl
  · rw [if_neg h0]
    by_cases h1 : t > 63
    · rw [if_pos h1]
      congr 1
      rw [decide_eq_false (show ¬ Note.Right t wh o a by unfold Note.Right; omega)]
      rfl
    · rw [if_neg h1]
      congr 1
      by_cases hw : 1 ≤ wh ∧ wh ≤ 11
      · have h := Note.list_full (fun h => (Note.whats_at wh).1 h hw)
        have hb : ((Note.atv Note.whatsL wh).toList == ([] : List UInt8)) = false := by
          cases hx : (Note.atv Note.whatsL wh).toList with
          | nil => rw [hx] at h; cases h
          | cons => rfl
        rw [hb, Bool.eq_iff_iff, decide_eq_true_iff (p := Note.Right t wh o a)]
        simp only [Bool.not_false, Bool.true_and, Bool.and_eq_true, decide_eq_true_eq]
        constructor
        · exact fun h => ⟨by omega, by omega, hw.1, hw.2, h.1, h.2⟩
        · exact fun h => ⟨h.2.2.2.2.1, h.2.2.2.2.2⟩
      · have h := Note.empty_of ((Note.whats_at wh).2 hw)
        have hb : ((Note.atv Note.whatsL wh).toList == ([] : List UInt8)) = true := by
          cases hx : (Note.atv Note.whatsL wh).toList with
          | nil => rfl
          | cons => rw [hx] at h; cases h
        rw [hb, decide_eq_false (show ¬ Note.Right t wh o a by unfold Note.Right; omega)]
        rfl

abbrev mkS (n : Nt) : S98 := ⟨n.1, n.2.1, n.2.2.1, n.2.2.2⟩
def stM (l : List Nt) : II := l.foldl turn []
theorem rd_at (l : List Nt) (i : Nat) (n : Nt) (h : l[i]? = some n) : rd_T98 (l.map mkS) (i : Int) = mkS n := by
  unfold rd_T98
  rw [Int.toNat_natCast, List.getD_eq_getElem?_getD, List.getElem?_map, h]
  rfl
theorem stM_next (l : List Nt) (i : Nat) (n : Nt) (h : l[i]? = some n) : stM (l.take (i + 1)) = turn (stM (l.take i)) n := by
  unfold stM
  rw [List.take_add_one, h, List.foldl_append]
  rfl
theorem turn_get (m : II) (n : Nt) (t : Int) : (gget (turn m n) t).getD 0 = if n.1 = t then (if n.2.1 = 11 then 0 else if n.2.1 = 1 then n.2.2.1 else (gget m t).getD 0) else (gget m t).getD 0 := by
  unfold turn
  by_cases h1 : n.2.1 = 1
  · rw [if_pos (by simpa using h1), gget_gput]
    by_cases ht : n.1 = t
    · rw [if_pos ht.symm, if_pos ht, if_neg (by rw [h1]; decide), if_pos h1]; rfl
    · rw [if_neg (Ne.symm ht), if_neg ht]
  · rw [if_neg (by simpa using h1)]
    by_cases h11 : n.2.1 = 11
    · rw [if_pos (by simpa using h11), gget_gput]
      by_cases ht : n.1 = t
      · rw [if_pos ht.symm, if_pos ht, if_pos h11]; rfl
      · rw [if_neg (Ne.symm ht), if_neg ht]
    · rw [if_neg (by simpa using h11)]
      by_cases ht : n.1 = t
      · rw [if_pos ht, if_neg h11, if_neg h1]
      · rw [if_neg ht]
theorem within_l (l : List Nt) (t : Int) (hl : l.length ≤ 100000) : ∀ (i k : Nat), i ≤ l.length → 2 * i + 1 ≤ k → stilemanref20_within.l0 k (l.map mkS) t (wrap64 ((i : Int) - 1)) = some ((gget (stM (l.take i)) t).getD 0)
  | 0, k + 1, _, _ => by
    show (if wrap64 (((0 : Nat) : Int) - 1) ≥ 0 then _ else some 0) = _
    have h0 : wrap64 (((0 : Nat) : Int) - 1) = -1 := by unfold wrap64; omega
    rw [h0]
    rw [if_neg (by decide)]
    rfl
  | i + 1, k + 2, hi, hk => by
    have hw : wrap64 (((i + 1 : Nat) : Int) - 1) = (i : Int) := by unfold wrap64; omega
    obtain ⟨n, hn⟩ : ∃ n, l[i]? = some n := ⟨_, List.getElem?_eq_getElem (by omega)⟩
    have hlen : (i : Int) < ((l.map mkS).length : Int) := by rw [List.length_map]; omega
    have hr := rd_at l i n hn
    have j1 : ∀ b, stilemanref20_within.j1 (k + 1) (l.map mkS) t (i : Int) b = if b = true then some 0 else if n.1 = t ∧ n.2.1 = 1 then some n.2.2.1 else some ((gget (stM (l.take i)) t).getD 0) := by
      intro b
      show (if b = true then some 0 else (if 0 ≤ (i : Int) then (if (i : Int) < ((l.map mkS).length : Int) then (if ((rd_T98 (l.map mkS) i).f0) = t then (if ((rd_T98 (l.map mkS) i).f1) = 1 then some ((rd_T98 (l.map mkS) i).f2) else stilemanref20_within.l0 k (l.map mkS) t (wrap64 ((i : Int) - 1))) else stilemanref20_within.l0 k (l.map mkS) t (wrap64 ((i : Int) - 1))) else none) else none)) = _
      rw [within_l l t hl i k (by omega) (by omega), if_pos (by omega : 0 ≤ (i : Int)), if_pos hlen, hr]
      by_cases h1 : n.1 = t
      · by_cases h2 : n.2.1 = 1
        · simp [h1, h2]
        · simp [h1, h2]
      · simp [h1]
    rw [hw]
    show (if (i : Int) ≥ 0 then (if 0 ≤ (i : Int) then (if (i : Int) < ((l.map mkS).length : Int) then (if ((rd_T98 (l.map mkS) i).f0) = t then (stilemanref20_within.j1 (k + 1) (l.map mkS) t i (((rd_T98 (l.map mkS) i).f1) == 11)) else (stilemanref20_within.j1 (k + 1) (l.map mkS) t i false)) else none) else none) else some 0) = _
    rw [if_pos (by omega), if_pos (by omega), if_pos hlen, hr, j1, j1, stM_next l i n hn, turn_get]
    by_cases h1 : n.1 = t
    · rw [if_pos h1]
      by_cases h11 : n.2.1 = 11
      · simp [h1, h11]
      · by_cases h2 : n.2.1 = 1
        · simp [h1, h2]
        · simp [h1, h11, h2]
    · simp [h1]
theorem within_f (l : List Nt) (t : Int) (hl : l.length ≤ 100000) (i k : Nat) (hi : i ≤ l.length) (hk : 2 * i + 1 ≤ k) : stilemanref20_within.f k (l.map mkS) t (i : Int) = some ((gget (stM (l.take i)) t).getD 0) := within_l l t hl i k hi hk
theorem check_l (tasks : Int) (l : List Nt) (hl : l.length ≤ 100000) : ∀ (j i k : Nat), i + j = l.length → j + 2 * l.length + 5 ≤ k → stilemanref20_Check.l0 k tasks (l.map mkS) (i : Int) = some (chk tasks i (l.drop i) (stM (l.take i)))
  | 0, i, k + 1, hi, hk => by
    show (if (i : Int) < ((l.map mkS).length : Int) then _ else some (0, 0)) = _
    rw [if_neg (by rw [List.length_map]; omega), List.drop_of_length_le (by omega)]
    rfl
  | j + 1, i, k + 1, hi, hk => by
    obtain ⟨n, hn⟩ : ∃ n, l[i]? = some n := ⟨_, List.getElem?_eq_getElem (by omega)⟩
    have hlen : (i : Int) < ((l.map mkS).length : Int) := by rw [List.length_map]; omega
    have hr := rd_at l i n hn
    have hw : wrap64 ((i : Int) + 1) = ((i + 1 : Nat) : Int) := by unfold wrap64; omega
    obtain ⟨k3, rfl⟩ : ∃ k3, k = k3 + 3 := ⟨k - 3, by omega⟩
    have hin := within_f l n.1 hl i (k3 + 3) (by omega) (by omega)
    have hrec := check_l tasks l hl j (i + 1) (k3 + 3) (by omega) (by omega)
    rw [chk_at tasks l i n _ hn]
    rw [stM_next l i n hn] at hrec
    show (if (i : Int) < ((l.map mkS).length : Int) then (if 0 ≤ (i : Int) then ((stilemanref05_Right.f (k3 + 3) ((rd_T98 (l.map mkS) i).f0) ((rd_T98 (l.map mkS) i).f1) ((rd_T98 (l.map mkS) i).f2) ((rd_T98 (l.map mkS) i).f3)).bind fun t149 => (if t149 = true then (if ((rd_T98 (l.map mkS) i).f0) ≥ tasks then (some ((i : Int), 2)) else ((stilemanref20_within.f (k3 + 3) (l.map mkS) ((rd_T98 (l.map mkS) i).f0) i).bind fun t152 => (if ((rd_T98 (l.map mkS) i).f1) = 1 then (if t152 = 0 then (if ((rd_T98 (l.map mkS) i).f1) = 11 then (if ((rd_T98 (l.map mkS) i).f2) = t152 then (stilemanref20_Check.l0 (k3 + 3) tasks (l.map mkS) (wrap64 ((i : Int) + 1))) else (some ((i : Int), 8))) else (stilemanref20_Check.l0 (k3 + 3) tasks (l.map mkS) (wrap64 ((i : Int) + 1)))) else (some ((i : Int), 8))) else (if t152 = 0 then (some ((i : Int), 8)) else (if ((rd_T98 (l.map mkS) i).f1) = 11 then (if ((rd_T98 (l.map mkS) i).f2) = t152 then (stilemanref20_Check.l0 (k3 + 3) tasks (l.map mkS) (wrap64 ((i : Int) + 1))) else (some ((i : Int), 8))) else (stilemanref20_Check.l0 (k3 + 3) tasks (l.map mkS) (wrap64 ((i : Int) + 1)))))))) else (some ((i : Int), 4)))) else none) else (some (0, 0))) = _
    have hr0 : (rd_T98 (l.map mkS) i).f0 = n.1 := by rw [hr]
    have hr1 : (rd_T98 (l.map mkS) i).f1 = n.2.1 := by rw [hr]
    have hr2 : (rd_T98 (l.map mkS) i).f2 = n.2.2.1 := by rw [hr]
    have hr3 : (rd_T98 (l.map mkS) i).f3 = n.2.2.2 := by rw [hr]
    rw [if_pos hlen, if_pos (by omega), hr0, hr1, hr2, hr3, refRight, Option.bind_some, hw, hrec]
    by_cases hR : Note.Right n.1 n.2.1 n.2.2.1 n.2.2.2
    · rw [decide_eq_true hR, if_pos rfl, if_neg (not_not_intro hR)]
      by_cases ht : n.1 ≥ tasks
      · rw [if_pos ht, if_pos ht]
      · rw [if_neg ht, if_neg ht, hin, Option.bind_some]
        unfold bad
        generalize (gget (stM (l.take i)) n.1).getD 0 = op
        by_cases h1 : n.2.1 = 1
        · by_cases h0 : op = 0
          · simp [h1, h0]
          · simp [h1, h0]
        · by_cases h11 : n.2.1 = 11
          · by_cases h0 : op = 0
            · simp [h1, h0]
            · by_cases ho : n.2.2.1 = op
              · simp [h1, h11, h0, ho]
              · simp [h1, h11, h0, ho]
          · by_cases h0 : op = 0
            · simp [h1, h0]
            · have e1 : (n.2.1 == 1) = false := by simpa using h1
              have e0 : (op != 0) = true := by simpa using h0
              simp [e1, e0, h1, h11, h0]
    · rw [decide_eq_false hR, if_neg (by simp), if_pos hR]
theorem check_f (tasks : Int) (l : List Nt) (hl : l.length ≤ 100000) : stilemanref20_Check.f (3 * l.length + 5) tasks (l.map mkS) = some (chk tasks 0 l []) :=
  check_l tasks l hl l.length 0 _ (by omega) (by omega)
theorem C_mkS {w : World} {A : Option Addr} {l : List Nt} (h : Kd.C nk w A l.length l) : Kd.C k98 w A (l.map mkS).length (l.map mkS) := by
  rw [List.length_map]
  refine ⟨List.length_map .., h.2.1, fun hn => ?_⟩
  obtain ⟨ad, e, hc⟩ := h.2.2 hn
  refine ⟨ad, e, fun j p hj => ?_⟩
  rw [List.getElem?_map] at hj
  obtain ⟨q, hq, rfl⟩ := Option.map_eq_some_iff.1 hj
  obtain ⟨c, hs, hr, hcell⟩ := hc j q hq
  exact ⟨c, hs, hr, hcell⟩
theorem refCheck_walk (tasks : Int) (A : Option Addr) (cap : Nat) (l : List Nt) (w : World) (hm : l.length ≤ cap) (hn : l.length ≤ 100000) (hC : Kd.C nk w A l.length l) :
    Calls Try.prog 56 #[.int .i64 tasks, .slice A l.length cap] w fun e w' => e = .returned (.tuple #[.int .i64 (chk tasks 0 l []).1, .int .i64 (chk tasks 0 l []).2]) ∧ Below w.heap.size w w' := by
  have h := stilemanref20_Check.calls (3 * l.length + 5) tasks A cap (l.map mkS) (chk tasks 0 l []).1 (chk tasks 0 l []).2 w (C_mkS hC) (by rw [List.length_map]; exact hm) (check_f tasks l hn)
  rw [List.length_map] at h
  exact h

set_option maxHeartbeats 1000000 in
set_option maxRecDepth 100000 in
/-- The law RecChecks. -/
theorem checks_walk (n : Int) (A : Option Addr) (cap : Nat) (l : List Nt) (w : World) (hm : l.length ≤ cap) (hC : Kd.C nk w A l.length l) :
    Calls Try.prog 12 #[.int .i64 n, .slice A l.length cap] w fun e w' => e = .returned (.bool true) ∧ Below w.heap.size w w' := by
  by_cases hlen : 200 < l.length
  · have hmax := Kd.C_max hC
    clear hC
    generalize l.length = n at *
    go_enter Try.func12, Try.ntmps12
    go_wp2_with (go_at_call 28; refine (awake _).mono ?_; rintro e w9 ⟨rfl, hb9⟩)
    go_ret
    exact ⟨rfl, hb9⟩
  · have hmax := Kd.C_max hC
    have h1 := Lib.hid (check_walk n A cap l.length l w hm rfl (by omega) hC)
    have h2 := Lib.hid (fun (w' : World) (hb : Below w.heap.size w w') => refCheck_walk n A cap l w' hm (by omega) (Kd.C_below hC hb))
    clear hC
    obtain ⟨len, hln⟩ : ∃ n, n = l.length := ⟨_, rfl⟩
    obtain ⟨r, hr⟩ : ∃ r, r = chk n 0 l [] := ⟨_, rfl⟩
    rw [← hln] at h1 h2 hlen hm hmax ⊢
    rw [← hr] at h1 h2
    clear hln hr
    obtain ⟨at_, er⟩ := r
    go_enter Try.func12, Try.ntmps12
    go_wp2_with (first
      | (go_at_call 55; refine h1.out.mono ?_; rintro e w1 ⟨rfl, hb1⟩; replace hb1 := Lib.hid hb1)
      | (go_at_call 56; refine (h2.out _ hb1.out).mono ?_; rintro e w2 ⟨rfl, hb2⟩; replace hb2 := Lib.hid (below_then hb1.out hb1.out.size hb2))
      | (go_at_call 28; refine (awake _).mono ?_; rintro e w9 ⟨rfl, hb9⟩; replace hb9 := Lib.hid (below_then hb2.out hb2.out.size hb9)))
    go_ret
    exact ⟨rfl, hb9.out⟩
end Go.Proofs.Ytgbofijdjgpgeaa.Recs
