/- strconv.ParseUint to the base 16, and acc.number: walks. -/
import Derived.Test.YtejmbmhehbcflaaDoorAtoA
import Derived.Test.YtejmbmhehbcflaaDoorAAp
import Derived.Lib.ConvBytes
import Derived.Lib.Hide
import Derived.Laws.Strings3
import Derived.Laws.Closers25
import Derived.Laws.Closers25b
import Derived.BigCall
import Derived.BigGuard
import Derived.Shelf.Strconv.ToErrorRange
import Derived.Shelf.Strconv.ToError
namespace Go.Proofs.YtejmbmhehbcflaaDoor.Acc
open Go.RowKit Go.Shelf Go.Proofs.YtejmbmhehbcflaaDoorW.PrintWords Go.Proofs.YtejmbmhehbcflaaDoorW.PrintMore Go.Proofs.YtejmbmhehbcflaaDoorW.PrintLast Go.Proofs.YtejmbmhehbcflaaDoor.Pr Go.Proofs.YtejmbmhehbcflaaDoor.Jn Go.Proofs.YtejmbmhehbcflaaDoor.Fu
set_option linter.unusedSimpArgs false
set_option linter.unusedVariables false
set_option maxRecDepth 100000

/-- A digit's worth; 16: it is none. -/
def dg (c : Nat) : Nat := if 48 ≤ c ∧ c ≤ 57 then c - 48 else if 97 ≤ c ∧ c ≤ 102 then c - 87 else if 65 ≤ c ∧ c ≤ 70 then c - 55 else 16
/-- The number, and 0; or what stands beside an error: 1, too great; 2, no number. -/
def pu (acc : Nat) : List UInt8 → Nat × Nat
  | [] => (acc, 0)
  | c :: l => if dg c.toNat = 16 then (0, 2) else if 4294967295 < acc * 16 + dg c.toNat then (4294967295, 1) else pu (acc * 16 + dg c.toNat) l
def puS (l : List UInt8) : Nat × Nat := if l = [] then (0, 2) else pu 0 l
def puV (r : Nat × Nat) : Value := .tuple #[.int .u64 (r.1 : Int), if r.2 = 0 then .nilIface else .iface 143 (.int .i64 (r.2 : Int))]
theorem pu_le : ∀ (l : List UInt8) (acc : Nat), acc ≤ 4294967295 → (pu acc l).1 ≤ 4294967295 ∧ (pu acc l).2 ≤ 2
  | [], acc, h => ⟨h, Nat.zero_le _⟩
  | c :: l, acc, h => by
    unfold pu
    split
    · exact ⟨Nat.zero_le _, Nat.le_refl _⟩
    · split
      · exact ⟨Nat.le_refl _, by decide⟩
      · exact pu_le l _ (by omega)
theorem lower_walk (c : Int) (w : World) : Calls Tryd.prog 142 #[.int .u8 c] w fun e w' => e = .returned (.int .u8 (Go.bits .or .u8 c 32)) ∧ w' = w := by
  go_enter Tryd.func142, Tryd.ntmps142
  go_wp2
  go_ret
  exact ⟨rfl, rfl⟩
theorem low_tab : ∀ c : Fin 256, (97 ≤ c.val ∧ c.val ≤ 102 → Go.bits .or .u8 (c.val : Int) 32 = c.val) ∧ (65 ≤ c.val ∧ c.val ≤ 70 → Go.bits .or .u8 (c.val : Int) 32 = c.val + 32) ∧
    (dg c.val = 16 → Go.bits .or .u8 (c.val : Int) 32 < 97 ∨ (103 ≤ Go.bits .or .u8 (c.val : Int) 32 ∧ Go.bits .or .u8 (c.val : Int) 32 ≤ 122) ∨ 122 < Go.bits .or .u8 (c.val : Int) 32) ∧ 0 ≤ Go.bits .or .u8 (c.val : Int) 32 ∧ Go.bits .or .u8 (c.val : Int) 32 ≤ 255 := by decide +kernel
theorem dg_dig {c : Nat} (h : 48 ≤ c ∧ c ≤ 57) : dg c = c - 48 := if_pos h
theorem dg_low {c : Nat} (h : 97 ≤ c ∧ c ≤ 102) : dg c = c - 87 := by unfold dg; rw [if_neg (by omega), if_pos h]
theorem dg_up {c : Nat} (h : 65 ≤ c ∧ c ≤ 70) : dg c = c - 55 := by unfold dg; rw [if_neg (by omega), if_neg (by omega), if_pos h]
theorem dg_no {c : Nat} (h1 : ¬ (48 ≤ c ∧ c ≤ 57)) (h2 : ¬ (97 ≤ c ∧ c ≤ 102)) (h3 : ¬ (65 ≤ c ∧ c ≤ 70)) : dg c = 16 := by unfold dg; rw [if_neg h1, if_neg h2, if_neg h3]
theorem pu_step {acc : Nat} {c : UInt8} {l : List UInt8} {d : Nat} (hd : dg c.toNat = d) (h16 : d ≠ 16) (h : ¬ 4294967295 < acc * 16 + d) : pu acc (c :: l) = pu (acc * 16 + d) l := by
  conv => lhs; unfold pu
  rw [hd, if_neg h16, if_neg h]
theorem pu_over {acc : Nat} {c : UInt8} {l : List UInt8} {d : Nat} (hd : dg c.toNat = d) (h16 : d ≠ 16) (h : 4294967295 < acc * 16 + d) : pu acc (c :: l) = (4294967295, 1) := by
  unfold pu
  rw [hd, if_neg h16, if_pos h]
theorem pu_no {acc : Nat} {c : UInt8} {l : List UInt8} (hd : dg c.toNat = 16) : pu acc (c :: l) = (0, 2) := by
  unfold pu
  rw [if_pos hd]
set_option maxHeartbeats 8000000 in
theorem inner16_walk (t : ByteArray) (hmax : t.size ≤ 1000) (w : World) :
    Calls Tryd.prog 124 #[.string t, .int .i64 16, .int .i64 32] w fun e w' => e = .returned (puV (puS t.data.toList)) ∧ Below w.heap.size w w' := by
  by_cases hne : t.size = 0
  · have hnil : t.data.toList = [] := List.eq_nil_of_length_eq_zero (by rw [Array.length_toList]; exact hne)
    have hemp : t.toList.isEmpty = true := by rw [ByteArray.toList_eq, hnil]; rfl
    rw [hnil]
    go_enter Tryd.func124, Tryd.ntmps124
    go_wp2
    go_ret2
    exact ⟨rfl, Below.refl _ _⟩
  have hemp : t.toList.isEmpty = false := by
    rw [← decide_eq_emptyBytes]
    exact decide_eq_false (fun h => hne (by rw [h]; rfl))
  have hcv := Lib.run_convert_string_bytes (P := Tryd.prog) w 9 74 5 t (u := .string) Tryd.underlying9 Tryd.underlying74 Tryd.underlying5
  have hB : ∀ j, j < t.size → (Lib.bytesWorld w 5 t).cell? ⟨w.heap.size, j, none⟩ = some (.int .u8 (t.data.toList.getD j 0).toNat) := fun j hj => Lib.bytesWorld_cell w 5 t j hj
  have hbe := Lib.bytesWorld_below w 5 t
  obtain ⟨W1, hW1⟩ : ∃ W1, W1 = Lib.bytesWorld w 5 t := ⟨_, rfl⟩
  rw [← hW1] at hcv hB hbe
  clear hW1
  have hS : puS t.data.toList = pu 0 t.data.toList := if_neg (fun h => hne (by have := congrArg List.length h; rw [Array.length_toList] at this; exact this))
  rw [hS]
  obtain ⟨bs, hL⟩ : ∃ bs, bs = t.data.toList := ⟨_, rfl⟩
  have hLn : bs.length = t.size := by rw [hL, Array.length_toList]; rfl
  rw [← hL] at hB ⊢
  clear hL hS
  have hmv : IntKind.u64.wrap (IntKind.u64.wrap 4294967296 - 1) = 4294967295 := by
    rw [IntKind.wrap_u64, IntKind.wrap_u64]
    decide
  replace hbe := Lib.hid hbe
  go_enter Tryd.func124, Tryd.ntmps124
  go_wp2
  go_loop [12, 13, 101] (fun vu vn vi => ∃ (k acc : Nat) (a : Int), vu = .bool false ∧ vn = .int .u64 a ∧ vi = .int .i64 k ∧ k ≤ t.size ∧ Hid (a = (acc : Int) ∧ acc ≤ 4294967295 ∧ pu 0 bs = pu acc (bs.drop k)))
    (fun _ _ vi => t.size - (intOf vi).toNat)
  case atStart => exact ⟨0, 0, 0, rfl, rfl, rfl, by omega, rfl, by omega, rfl⟩
  case round =>
    obtain ⟨k, acc, a, rfl, rfl, rfl, hk, hh⟩ := hrel
    obtain ⟨ha, hacc, hdec⟩ := hh.out
    clear hh
    have a0 : 0 ≤ a := by omega
    have a1 : a ≤ 4294967295 := by omega
    by_cases hkn : k < t.size
    · have hc := hB k hkn
      have hdrop : bs.drop k = bs[k]'(by omega) :: bs.drop (k + 1) := List.drop_eq_getElem_cons (by omega)
      have hget : bs.getD k 0 = bs[k]'(by omega) := by simp [List.getD, List.getElem?_eq_getElem (show k < bs.length by omega)]
      rw [hdrop] at hdec
      rw [hget] at hc
      generalize bs[k]'(by omega) = c at hc hdec
      have hc256 : c.toNat < 256 := c.toNat_lt
      clear hB hdrop hget
      obtain ⟨t1, t2, t3, t4, t5⟩ := low_tab ⟨c.toNat, hc256⟩
      simp only at t1 t2 t3 t4 t5
      by_cases hdig : 48 ≤ c.toNat ∧ c.toNat ≤ 57
      · obtain ⟨hd0, hd1⟩ := hdig
        by_cases hov : 4294967295 < acc * 16 + (c.toNat - 48)
        · rw [pu_over (dg_dig ⟨hd0, hd1⟩) (by omega) hov] at hdec
          have iov : 4294967295 < a * 16 + ((c.toNat : Int) - 48) := by omega
          clear hacc hov ha t1 t2 t3 t4 t5
          replace hdec := Lib.hid hdec
          go_wp2
          go_ret2
          exact ⟨by rw [hdec.out]; rfl, hbe.out⟩
        · have HN : Hid (a * 16 + ((c.toNat : Int) - 48) = ((acc * 16 + (c.toNat - 48) : Nat) : Int) ∧ acc * 16 + (c.toNat - 48) ≤ 4294967295 ∧ pu 0 bs = pu (acc * 16 + (c.toNat - 48)) (bs.drop (k + 1))) := Lib.hid ⟨by omega, by omega, hdec.trans (pu_step (dg_dig ⟨hd0, hd1⟩) (by omega) hov)⟩
          have iov : a * 16 + ((c.toNat : Int) - 48) ≤ 4294967295 := by omega
          clear hacc hov hdec ha t1 t2 t3 t4 t5
          go_wp2
          refine ⟨⟨k + 1, acc * 16 + (c.toNat - 48), a * 16 + ((c.toNat : Int) - 48), rfl, (by first | rfl | (congr 1; omega)), (by first | rfl | (congr 1; omega)), by omega, HN⟩, by simp [intOf]; omega⟩
      · by_cases hlow : 97 ≤ c.toNat ∧ c.toNat ≤ 102
        · obtain ⟨hd0, hd1⟩ := hlow
          have hL : Go.bits .or .u8 (c.toNat : Int) 32 = (c.toNat : Int) := t1 ⟨hd0, hd1⟩
          have hdg : dg c.toNat = c.toNat - 87 := dg_low ⟨hd0, hd1⟩
          by_cases hov : 4294967295 < acc * 16 + (c.toNat - 87)
          · rw [pu_over hdg (by omega) hov] at hdec
            have iov : 4294967295 < a * 16 + ((c.toNat : Int) - 87) := by omega
            clear hacc hov ha t1 t2 t3 t4 t5 hdg
            replace hdec := Lib.hid hdec
            go_wp2_with (go_at_call 142; refine (lower_walk _ _).mono ?_; rintro e w' ⟨rfl, rfl⟩; try simp only [hL])
            go_ret2
            exact ⟨by rw [hdec.out]; rfl, hbe.out⟩
          · have HN : Hid (a * 16 + ((c.toNat : Int) - 87) = ((acc * 16 + (c.toNat - 87) : Nat) : Int) ∧ acc * 16 + (c.toNat - 87) ≤ 4294967295 ∧ pu 0 bs = pu (acc * 16 + (c.toNat - 87)) (bs.drop (k + 1))) := Lib.hid ⟨by omega, by omega, hdec.trans (pu_step hdg (by omega) hov)⟩
            have iov : a * 16 + ((c.toNat : Int) - 87) ≤ 4294967295 := by omega
            clear hacc hov hdec ha t1 t2 t3 t4 t5 hdg
            go_wp2_with (go_at_call 142; refine (lower_walk _ _).mono ?_; rintro e w' ⟨rfl, rfl⟩; try simp only [hL])
            refine ⟨⟨k + 1, acc * 16 + (c.toNat - 87), a * 16 + ((c.toNat : Int) - 87), rfl, (by first | rfl | (congr 1; omega)), (by first | rfl | (congr 1; omega)), by omega, HN⟩, by simp [intOf]; omega⟩
        · by_cases hup : 65 ≤ c.toNat ∧ c.toNat ≤ 70
          · obtain ⟨hd0, hd1⟩ := hup
            have hL : Go.bits .or .u8 (c.toNat : Int) 32 = (c.toNat : Int) + 32 := t2 ⟨hd0, hd1⟩
            have hdg : dg c.toNat = c.toNat - 55 := dg_up ⟨hd0, hd1⟩
            by_cases hov : 4294967295 < acc * 16 + (c.toNat - 55)
            · rw [pu_over hdg (by omega) hov] at hdec
              have iov : 4294967295 < a * 16 + ((c.toNat : Int) - 55) := by omega
              clear hacc hov ha t1 t2 t3 t4 t5 hdg
              replace hdec := Lib.hid hdec
              go_wp2_with (go_at_call 142; refine (lower_walk _ _).mono ?_; rintro e w' ⟨rfl, rfl⟩; try simp only [hL])
              go_ret2
              exact ⟨by rw [hdec.out]; rfl, hbe.out⟩
            · have HN : Hid (a * 16 + ((c.toNat : Int) - 55) = ((acc * 16 + (c.toNat - 55) : Nat) : Int) ∧ acc * 16 + (c.toNat - 55) ≤ 4294967295 ∧ pu 0 bs = pu (acc * 16 + (c.toNat - 55)) (bs.drop (k + 1))) := Lib.hid ⟨by omega, by omega, hdec.trans (pu_step hdg (by omega) hov)⟩
              have iov : a * 16 + ((c.toNat : Int) - 55) ≤ 4294967295 := by omega
              clear hacc hov hdec ha t1 t2 t3 t4 t5 hdg
              go_wp2_with (go_at_call 142; refine (lower_walk _ _).mono ?_; rintro e w' ⟨rfl, rfl⟩; try simp only [hL])
              refine ⟨⟨k + 1, acc * 16 + (c.toNat - 55), a * 16 + ((c.toNat : Int) - 55), rfl, (by first | rfl | (congr 1; omega)), (by first | rfl | (congr 1; omega)), by omega, HN⟩, by simp [intOf]; omega⟩
          · have h16 := dg_no hdig hlow hup
            rw [pu_no h16] at hdec
            have t6 := t3 h16
            clear t1 t2 t3 hacc ha h16 hlow hup
            obtain ⟨L, hL⟩ : ∃ L, L = Go.bits .or .u8 (c.toNat : Int) 32 := ⟨_, rfl⟩
            rw [← hL] at t4 t5 t6
            replace hdec := Lib.hid hdec
            have hu0 : (Go.bits .or .u8 95 32) = 127 := by decide
            rcases t6 with t6 | t6 | t6
            all_goals go_wp2_with (go_at_call 142; refine (lower_walk _ _).mono ?_; rintro e w' ⟨rfl, rfl⟩; try simp only [hu0]; try simp only [← hL])
            all_goals go_ret2
            all_goals exact ⟨by rw [hdec.out]; rfl, hbe.out⟩
    · have hkk : k = t.size := by omega
      subst hkk
      have hF : pu acc (bs.drop t.size) = (acc, 0) := by rw [List.drop_eq_nil_of_le (by omega)]; rfl
      rw [hF] at hdec
      subst ha
      clear hacc hF a0 a1
      replace hdec := Lib.hid hdec
      go_wp2
      go_ret2
      exact ⟨by rw [hdec.out]; rfl, hbe.out⟩

theorem syn_cell {w : World} (hV : Note.Vars w) : ∃ tp p, w.cell? ⟨Tryd.laysC172_ren.g 15, 0, none⟩ = some (.iface tp p) := by
  obtain ⟨_, ⟨tp, p, h⟩, _⟩ := hV
  exact ⟨tp, p, by have h0 := World.var?_cell Tryd.laysC172.m15 h 0; simpa using h0⟩
theorem rng_cell {w : World} (hV : Note.Vars w) : ∃ tp p, w.cell? ⟨Tryd.laysC172_ren.g 16, 0, none⟩ = some (.iface tp p) := by
  obtain ⟨_, _, ⟨tp, p, h⟩⟩ := hV
  exact ⟨tp, p, by have h0 := World.var?_cell Tryd.laysC172.m16 h 0; simpa using h0⟩
theorem err_walk (fn s : ByteArray) (hs : s.size ≤ 1000) (k : Nat) (hk : k = 1 ∨ k = 2) (w : World) (hV : Note.Vars w) :
    Calls Tryd.prog 101 #[.string fn, .string s, .int .i64 16, .int .i64 32, .iface 143 (.int .i64 (k : Int))] w fun e w' => ∃ tp p, e = .returned (.iface tp p) ∧ Below w.heap.size w w' := by
  rcases hk with rfl | rfl
  · obtain ⟨tp, p, h⟩ := rng_cell hV
    refine (Any.strconv_toError_range (P := Tryd.prog) (ρ := Tryd.laysC172_ren) { Tryd.laysC172 with } fn s 16 32 _ w (by omega) h (.inr ⟨tp, p, rfl⟩)).mono ?_
    rintro e w' ⟨N, rfl, _, _, hb⟩
    exact ⟨_, _, rfl, hb⟩
  · obtain ⟨tp, p, h⟩ := syn_cell hV
    refine (Any.strconv_toError_syntax (P := Tryd.prog) (ρ := Tryd.laysC172_ren) { Tryd.laysC172 with } fn s 16 32 _ w (by omega) h (.inr ⟨tp, p, rfl⟩)).mono ?_
    rintro e w' ⟨N, rfl, _, _, hb⟩
    exact ⟨_, _, rfl, hb⟩
/-- The word of digits. -/
def numV (s : ByteArray) : Nat := if (puS s.data.toList).2 = 0 then (puS s.data.toList).1 else 0
theorem puS_le (l : List UInt8) : (puS l).1 ≤ 4294967295 ∧ (puS l).2 ≤ 2 := by
  unfold puS
  split
  · exact ⟨Nat.zero_le _, Nat.le_refl _⟩
  · exact pu_le l 0 (by decide)
set_option maxHeartbeats 2000000 in
theorem uint_walk (s : ByteArray) (hs : s.size ≤ 1000) (w : World) (hV : Note.Vars w) :
    Calls Tryd.prog 102 #[.string s, .int .i64 16, .int .i64 32] w fun e w' => ∃ x, e = .returned (.tuple #[.int .u64 ((puS s.data.toList).1 : Int), x]) ∧ (((puS s.data.toList).2 = 0 ∧ x = .nilIface) ∨ ((puS s.data.toList).2 ≠ 0 ∧ ∃ tp p, x = .iface tp p)) ∧ Below w.heap.size w w' := by
  have h := inner16_walk s hs w
  obtain ⟨r, hr⟩ : ∃ r, r = puS s.data.toList := ⟨_, rfl⟩
  have hl := (puS_le s.data.toList).2
  rw [← hr] at h hl ⊢
  obtain ⟨v, k⟩ := r
  clear hr
  simp only at hl ⊢
  by_cases hk : k = 0
  · subst hk
    have e1 : puV (v, 0) = .tuple #[.int .u64 (v : Int), .nilIface] := rfl
    rw [e1] at h
    replace h := Lib.hid h
    go_enter Tryd.func102, Tryd.ntmps102
    go_wp2_with (go_at_call 124; refine h.out.mono ?_; rintro e w1 ⟨rfl, hb1⟩)
    go_ret2
    exact ⟨_, rfl, .inl ⟨by first | trivial | rfl, rfl⟩, hb1⟩
  · have e1 : puV (v, k) = .tuple #[.int .u64 (v : Int), .iface 143 (.int .i64 (k : Int))] := by unfold puV; rw [if_neg hk]
    rw [e1] at h
    replace h := Lib.hid h
    have herr := Lib.hid (fun fn W hW => err_walk fn s hs k (by omega) W hW)
    replace hV := Lib.hid hV
    go_enter Tryd.func102, Tryd.ntmps102
    go_wp2_with (first
      | (go_at_call 124; refine h.out.mono ?_; rintro e w1 ⟨rfl, hb1⟩)
      | (go_at_call 101; refine (herr.out _ _ (hV.out.below hb1)).mono ?_; rintro e w2 ⟨tp, p, rfl, hb2⟩))
    go_ret2
    exact ⟨_, rfl, .inr ⟨hk, _, _, rfl⟩, below_then hb1 hb1.size hb2⟩
set_option maxHeartbeats 2000000 in
theorem number_walk (s : ByteArray) (hs : s.size ≤ 1000) (w : World) (hV : Note.Vars w) :
    Calls Tryd.prog 82 #[.string s] w fun e w' => e = .returned (.int .u32 (numV s : Int)) ∧ Below w.heap.size w w' := by
  have h := uint_walk s hs w hV
  have hl := (puS_le s.data.toList).1
  unfold numV
  obtain ⟨v, hv⟩ : ∃ v, v = (puS s.data.toList).1 := ⟨_, rfl⟩
  by_cases hk : (puS s.data.toList).2 = 0
  · rw [if_pos hk]
    rw [← hv] at h hl ⊢
    have hl2 : ((v : Int)) ≤ 4294967295 := by omega
    have hl0 : 0 ≤ (v : Int) := by omega
    replace h := Lib.hid h
    replace hv := Lib.hid hv
    replace hk := Lib.hid hk
    go_enter Tryd.func82, Tryd.ntmps82
    go_wp2_with (go_at_call 102; refine h.out.mono ?_; rintro e w1 ⟨x, rfl, hx, hb1⟩; obtain rfl : x = .nilIface := (hx.elim (fun q => q.2) (fun q => absurd hk.out q.1)); clear hx)
    go_ret
    exact ⟨rfl, hb1⟩
  · rw [if_neg hk]
    replace h := Lib.hid h
    replace hk := Lib.hid hk
    go_enter Tryd.func82, Tryd.ntmps82
    go_wp2_with (go_at_call 102; refine h.out.mono ?_; rintro e w1 ⟨x, rfl, hx, hb1⟩; obtain ⟨tp, p, rfl⟩ : ∃ tp p, x = .iface tp p := (hx.elim (fun q => absurd q.1 hk.out) (fun q => q.2)); clear hx)
    go_ret
    exact ⟨rfl, hb1⟩
end Go.Proofs.YtejmbmhehbcflaaDoor.Acc
