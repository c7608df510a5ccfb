/- Who holds what, by notes: package excl, walked. -/
import Derived.Test.YtkmlefbdhdlfmaaGreatLw
import Derived.Test.YtkmlefbdhdlfmaaGreatTog
namespace Go.Proofs.YtkmlefbdhdlfmaaGreat.Wo
open Go.RowKit Go.Proofs.YtkmlefbdhdlfmaaGreatW.PrintWords Go.Proofs.YtkmlefbdhdlfmaaGreatW.PrintMore Go.Proofs.YtkmlefbdhdlfmaaGreatW.PrintLast
open Stile
set_option linter.unusedSimpArgs false
set_option linter.unusedVariables false
set_option maxRecDepth 100000
variable {w w1 w2 w0 V V1 : World} {a pm g t kf n b B p cap gc gt mb : Nat} {W : Stile.W} {l : List Int} {ok : Nat → Prop}

/-- A row of ints. -/
structure Ir (w : World) (g : Nat) (l : List Int) : Prop where
  row : ∃ cells : Array Value, w.heap[g]? = some (.cells cells 3 (0, 0)) ∧ ∀ i, i < l.length → cells[i]? = some (.int .i64 (l.getD i 0))
theorem Ir.lt (h : Ir w g l) : g < w.heap.size := by
  obtain ⟨c, hc, _⟩ := h.row
  exact blk_lt hc
theorem Ir.of_block (h : Ir w g l) (e : w1.heap[g]? = w.heap[g]?) : Ir w1 g l := by
  obtain ⟨c, hc, hr⟩ := h.row
  exact ⟨c, e.trans hc, hr⟩
theorem Ir.below (h : Ir w g l) (hb : Below w.heap.size w w1) : Ir w1 g l := h.of_block (hb.block g h.lt)
theorem Ir.cell (h : Ir w g l) {i : Nat} (hi : i < l.length) : w.cell? ⟨g, i, none⟩ = some (.int .i64 (l.getD i 0)) := by
  obtain ⟨c, hc, hr⟩ := h.row
  exact cell_of_heap hc (hr i hi)
theorem Ir.frozen (h : Ir w g l) (j : Nat) : w.frozen? ⟨g, j, none⟩ = false := by
  obtain ⟨cells, hc, _⟩ := h.row
  exact blk_frozen hc j
theorem Ir.set (h : Ir w g l) (i : Nat) (hi : i < l.length) (x : Int) : Ir (w.setCell ⟨g, i, none⟩ (.int .i64 x)) g (l.set i x) := by
  obtain ⟨cells, hc, hr⟩ := h.row
  have hsz : i < cells.size := (Array.getElem?_eq_some_iff.1 (hr i hi)).1
  refine ⟨_, blk_set hc i _, fun j hj => ?_⟩
  rw [List.length_set] at hj
  by_cases e : j = i
  · subst e
    rw [Array.getElem?_setIfInBounds_self_of_lt hsz]
    simp [List.getD_eq_getElem?_getD, hj]
  · rw [Array.getElem?_setIfInBounds_ne (by omega), hr j hj]
    simp [List.getD_eq_getElem?_getD, List.getElem?_set_ne (by omega : i ≠ j)]
theorem R_Ir {c : Nat} {xs : List Int} (h : (Kd.int .i64).R 3 w B ok (.slice (some ⟨g, 0, none⟩) n c) xs) : Ir w g xs := by
  obtain ⟨_, inner, ho, hr⟩ := h
  obtain ⟨ho1, ho2⟩ := ho
  rcases ho2 with ⟨hv, _⟩ | ⟨g', cap', cur, hv, hb, hh, hnc, hcm, hcs, ht⟩
  · cases hv
  injection hv with ha _ _
  injection ha with ha
  injection ha with hg
  subst hg
  refine ⟨cur, hh, fun i hi => ?_⟩
  have hx : xs[i]? = some (xs.getD i 0) := by simp [List.getD_eq_getElem?_getD, hi]
  have h1 : (inner.drop (i * 1)).take 1 = [.int .i64 (xs.getD i 0)] := hr.2 i _ hx
  have h2 : ((inner.drop (i * 1)).take 1)[0]? = some (.int .i64 (xs.getD i 0)) := by rw [h1]; rfl
  rw [List.getElem?_take, if_pos (by decide), List.getElem?_drop, ← ht, List.getElem?_take] at h2
  split at h2
  · rw [← Array.getElem?_toList]
    simpa using h2
  · cases h2
theorem info_int : (Tryz.prog.info? 3).map (fun i => (i.zero, i.size, i.bytes)) = some (some (.int .i64 0), 1, 8) := by kernel_rfl
theorem exright_walk (n : Int) (hn : 1 ≤ n ∧ n ≤ 64) (w : World) : Calls Tryz.prog 50 #[.int .i64 n] w fun e w' => e = .returned (.bool true) ∧ w' = w := by
  have h1 : decide (n ≥ 1) = true := decide_eq_true hn.1
  have h2 : decide (n ≤ 64) = true := decide_eq_true hn.2
  go_enter Tryz.func50, Tryz.ntmps50
  go_wp2
  go_ret
  exact ⟨rfl, rfl⟩
theorem filt_take {l : List Int} {k : Nat} (h : k < l.length) (v : Int) : ((l.take (k + 1)).filter (fun x => decide (x = v))).length = ((l.take k).filter (fun x => decide (x = v))).length + if l.getD k 0 = v then 1 else 0 := by
  have e : l[k]? = some (l.getD k 0) := by simp [List.getD_eq_getElem?_getD, h]
  rw [take_next e, List.filter_append, List.length_append]
  congr 1
  by_cases q : l.getD k 0 = v
  · rw [if_pos q]; simp only [List.filter_cons, q, decide_true, if_true]; rfl
  · rw [if_neg q]; simp only [List.filter_cons, q, decide_false]; rfl
set_option maxHeartbeats 2000000 in
theorem count_walk (h : Ir w g l) (hl : l.length ≤ 64) (c : Nat) (v : Int) : Calls Tryz.prog 53 #[.slice (some ⟨g, 0, none⟩) l.length c, .int .i64 v] w fun e w' => e = .returned (.int .i64 (exCount l v)) ∧ w' = w := by
  obtain ⟨m, hm⟩ : ∃ m, m = l.length := ⟨_, rfl⟩
  rw [← hm] at hl ⊢
  replace h := Lib.hid h
  go_enter Tryz.func53, Tryz.ntmps53
  go_wp2
  go_loopw [10, 5] (fun i c wr => ∃ k cn : Nat, k ≤ m ∧ cn ≤ k ∧ i = .int .i64 k ∧ c = .int .i64 cn ∧ Hid (cn = ((l.take k).filter (fun x => decide (x = v))).length) ∧ wr = w) (fun i _ _ => m - (intOf i).toNat)
  case atStart => exact ⟨0, 0, Nat.zero_le _, Nat.le_refl _, rfl, rfl, Lib.hid rfl, rfl⟩
  case round =>
    obtain ⟨k, cn, hk, hck, rfl, rfl, hcn, rfl⟩ := hrel
    by_cases hkm : k < m
    · have hkl : k < l.length := by omega
      have c0 := h.out.cell hkl
      have hf := filt_take hkl v
      rw [← hcn.out] at hf
      by_cases hv : l.getD k 0 = v
      · rw [if_pos hv] at hf
        rw [hv] at c0
        replace hv := Lib.hid hv
        replace hf := Lib.hid hf
        replace hkl := Lib.hid hkl
        go_wp2
        go_roundw
        case rel => exact ⟨k + 1, cn + 1, by omega, by omega, by go_num, by go_num, Lib.hid hf.out.symm, trivial⟩
        case measure => simp [intOf]; omega
      · rw [if_neg hv] at hf
        generalize l.getD k 0 = x at c0 hv
        have hvb : (x == v) = false := beq_eq_false_iff_ne.mpr hv
        replace hv := Lib.hid hv
        replace hf := Lib.hid hf
        replace hkl := Lib.hid hkl
        go_wp2
        go_roundw
        case rel => exact ⟨k + 1, cn, by omega, by omega, by go_num, rfl, Lib.hid hf.out.symm, trivial⟩
        case measure => simp [intOf]; omega
    · obtain rfl : m = k := by omega
      have hall : l.take m = l := by rw [hm, List.take_length]
      have hcn' := hcn.out
      rw [hall] at hcn'
      replace hcn' := Lib.hid hcn'
      go_wp2
      go_ret
      exact ⟨by rw [hcn'.out]; rfl, rfl⟩
theorem max_if (m c : Int) : (if m < c then c else m) = max m c := by split <;> omega
set_option maxHeartbeats 2000000 in
theorem most1_walk (h : Ir w g l) (hl : l.length ≤ 64) (c : Nat) (at_ m : Int) (hb : w.heap[mb]? = some (.cells #[.int .i64 m] 3 (0, 0))) : Calls Tryz.prog 52 #[.int .i64 at_, .slice (some ⟨g, 0, none⟩) l.length c, .pointer (some ⟨mb, 0, none⟩)] w fun e w' => e = .returned (.bool true) ∧ w'.heap[mb]? = some (.cells #[.int .i64 (max m (exCount l 1))] 3 (0, 0)) ∧ But mb w w' := by
  have hcnt := Lib.hid (count_walk (w := w.drew) (h.of_block rfl) hl c 1)
  have c0 := cell_of_heap (j := 0) hb rfl
  have f0 := blk_frozen hb 0
  obtain ⟨n, hn⟩ : ∃ n, n = l.length := ⟨_, rfl⟩
  rw [← hn] at hcnt ⊢
  obtain ⟨x, hx⟩ : ∃ x, x = exCount l 1 := ⟨_, rfl⟩
  rw [← hx] at hcnt ⊢
  replace hx := Lib.hid hx
  replace hn := Lib.hid hn
  replace h := Lib.hid h
  replace hb := Lib.hid hb
  clear hl
  go_enter Tryz.func52, Tryz.ntmps52
  go_upto_region 1 with (fail)
  refine start_ (n := 5) (S := fun w' => w'.cell? ⟨mb, 0, none⟩ = some (.int .i64 m)) (ds := [4]) #[false, false, false, false, false] (by kernel_rfl) rfl rfl (c0) (fun hHeld => ?_)
  refine pu_ 1 7 (mk 5 2) rfl rfl ?_
  refine take_ (i := 0) (N := some 6) (v := ?_) (a' := ?_) (mk 5 3) rfl rfl (by kernel_rfl) (fun _ _ _ h => h) (Or.inl ⟨by rfl, ?_⟩) hHeld ?_ ?_
  rotate_left
  · intro w' s0
    go_simp
    with_reducible rfl
  rotate_left
  · simp only [Act.put, List.setIfInBounds_toArray, List.set_cons_zero, List.set_cons_succ, i64_w, i32_w]
    rfl
  refine one_ (i := 2) (N := some 8) (mk 5 7) rfl rfl (by kernel_rfl) (by decide) (fun K hK => ?_)
  refine goes_ Tryz.func53 (by kernel_rfl) rfl #[.slice (some ⟨g, 0, none⟩) n c, .int .i64 1] (by rfl) rfl rfl (by simp only [List.map_toArray, List.map_cons, List.map_nil]; rfl) ?_
  with_reducible refine (hcnt.out).mono ?_
  rintro e w1 ⟨rfl, rfl⟩
  refine ⟨_, rfl, ?_⟩
  refine hK.out _ _ (c0) (fun hHeld => ?_)
  clear hK K
  refine nm_ ?_
  refine one_ (i := 3) (N := some 9) (mk 5 15) rfl rfl (by kernel_rfl) (by decide) (fun K hK => ?_)
  refine value_ (w1 := ?_) (v := ?_) (by rfl) rfl ?_ ?_
  rotate_left 2
  · go_simp
    constructor
    · rfl
    · rfl
  refine hK.out _ _ (c0) (fun hHeld => ?_)
  clear hK K
  refine nm_ ?_
  refine last_ (i := 4) (N := none) (mk 5 31) rfl rfl (by kernel_rfl) (by decide) (fun K hK => ?_)
  refine skip_ (w1 := ?_) (by rfl) rfl ?_ ?_
  rotate_left
  · go_simp
    rfl
  refine hK.out _ _ ?_
  clear hK K
  refine done_ (by kernel_rfl) ?_
  rw [max_if]
  have k1 := blk_drew (blk_set hb.out 0 (.int .i64 (max m x)))
  have k2 := ((But.refl mb w).set ⟨mb, 0, none⟩ (.inl rfl) (.int .i64 (max m x))).drew
  replace k1 := Lib.hid k1
  replace k2 := Lib.hid k2
  go_wp2
  go_ret
  exact ⟨rfl, k1.out, k2.out⟩

set_option maxHeartbeats 4000000 in
theorem walk_most {A : Option Addr} {len : Nat} {xs : List Note} (n : Nat) (hn : 1 ≤ n ∧ n ≤ 64) (c : Nat) (hlen : len = xs.length) (hmb : mb < w.heap.size) (hC : ∀ w', But mb w w' → nk.C w' A len xs) (m0 : Int) (hb : w.heap[mb]? = some (.cells #[.int .i64 m0] 3 (0, 0))) :
    Calls Tryz.prog 51 #[.int .i64 n, .slice A len c, .func (.func 52) #[] #[.pointer (some ⟨mb, 0, none⟩)]] w fun e w' => (∃ v, e = .returned v) ∧ w'.heap[mb]? = some (.cells #[.int .i64 (exMost n xs (List.replicate n 0) m0)] 3 (0, 0)) ∧ But mb w w' := by
  have hmax := Kd.C_max (hC _ (But.refl _ _))
  obtain ⟨R, hR⟩ : ∃ R, R = exMost n xs (List.replicate n 0) m0 := ⟨_, rfl⟩
  rw [← hR]
  have h64 : n ≤ 64 := hn.2
  have h1n : 1 ≤ n := hn.1
  replace hR := Lib.hid hR
  replace hC := Lib.hid hC
  replace hb := Lib.hid hb
  replace hlen := Lib.hid hlen
  clear hn
  go_enter Tryz.func51, Tryz.ntmps51
  go_upto_region 2 with (at_make; go_must (refine Kd.R_make (Kd.int .i64) (w0 := w) (W := w) w.heap.size 3 rfl (N := 12) rfl 65 (.tmp 11) (.tmp 11) rfl (n : Int) rfl rfl Tryz.underlying65 (.int .i64 0) 8 info_int rfl (by decide) (by decide) (0 : Int) (ok := fun _ => True) (okp := fun _ => False) rfl (fun _ hk => hk.elim) trivial (by omega) (by omega) (Below.refl _ _) (Nat.le_refl _) ?_; intro v1 w1 hR1 hB1 _ _; obtain ⟨hb_, cap, hv, hg0, hg1, _, _⟩ := Kd.R_form hR1 (by simp; omega); simp only [List.length_replicate, Int.toNat_natCast] at hv hR1; subst hv; have hI1 := Lib.hid (R_Ir hR1); have hbt1 := Lib.hid (But.of_below (g := mb) hB1); have hb1 := Lib.hid ((hB1.block mb hmb).trans hb.out); replace hg0 := Lib.hid hg0; clear hR1 hB1 hg1))
  go_upto_region 3 with (fail)
  go_loopw [15] (fun i wr => ∃ (k : Nat) (hs : List Int) (m : Int), k ≤ len ∧ i = .int .i64 k ∧ Hid (hs.length = n) ∧ Hid (exMost n (xs.drop k) hs m = R) ∧ Hid (Ir wr hb_ hs) ∧ Hid (wr.heap[mb]? = some (.cells #[.int .i64 m] 3 (0, 0))) ∧ Hid (But mb w wr)) (fun i _ => len - (intOf i).toNat)
  case atStart => exact ⟨0, List.replicate n 0, m0, Nat.zero_le _, rfl, Lib.hid (by simp), Lib.hid hR.out.symm, hI1, hb1, hbt1⟩
  case round =>
    clear hI1 hb1 hbt1
    obtain ⟨k, hs, m, hk, rfl, hsl, hM, hI, hbx, hbt⟩ := hrel
    by_cases hkl : k < len
    · obtain ⟨ad, rfl, s0, s1, s2, s3⟩ := at_nk (hC.out _ hbt.out) k hkl
      obtain ⟨x, hx⟩ : ∃ x, x = xs.getD k ⟨0, 0, 0, 0⟩ := ⟨_, rfl⟩
      rw [← hx] at s0 s1 s2 s3
      have hdrop : xs.drop k = x :: xs.drop (k + 1) := by
        rw [hx, List.drop_eq_getElem_cons (by rw [← hlen.out]; exact hkl), List.getD_eq_getElem?_getD, List.getElem?_eq_getElem (by rw [← hlen.out]; exact hkl)]
        rfl
      have hM2 := hM.out
      rw [hdrop] at hM2
      unfold exMost at hM2
      obtain ⟨xt, xw, xo, xa⟩ := x
      replace s0 : wr.cell? (ad.add (k * 4)) = some (.int .i64 xt) := s0
      replace s1 : wr.cell? ⟨(ad.add (k * 4)).block, (ad.add (k * 4)).off + 1, none⟩ = some (.int .i64 xw) := s1
      replace s2 : wr.cell? ⟨(ad.add (k * 4)).block, (ad.add (k * 4)).off + 2, none⟩ = some (.int .i64 xo) := s2
      replace s3 : wr.cell? ⟨(ad.add (k * 4)).block, (ad.add (k * 4)).off + 3, none⟩ = some (.int .i64 xa) := s3
      replace hx := Lib.hid hx
      replace hM2 := Lib.hid hM2
      clear hM hdrop
      go_upto_region 5 with (fail)
      have hz : Below wr.heap.size wr (wr.alloc (.cells #[.int .i64 xt, .int .i64 xw, .int .i64 xo, .int .i64 xa] 44)) := below_alloc (Below.refl _ wr) _
      have hxx1 := heap_alloc_new wr (.cells #[.int .i64 xt, .int .i64 xw, .int .i64 xo, .int .i64 xa] 44)
      have hI1 := Lib.hid (hI.out.below hz)
      have hx1 := Lib.hid ((hz.block mb (blk_lt hbx.out)).trans hbx.out)
      have hbt1 := Lib.hid (hbt.out.trans (But.of_below hz))
      have e0 := cell_of_heap (j := 0) hxx1 rfl
      have e1 := cell_of_heap (j := 1) hxx1 rfl
      have e2 := cell_of_heap (j := 2) hxx1 rfl
      have e3 := cell_of_heap (j := 3) hxx1 rfl
      replace hxx1 := Lib.hid hxx1
      clear hz s0 s1 s2 s3 hI hbx hbt
      generalize wr.alloc (.cells #[.int .i64 xt, .int .i64 xw, .int .i64 xo, .int .i64 xa] 44) = V1 at hI1 hx1 hbt1 hxx1 e0 e1 e2 e3 ⊢
      generalize wr.heap.size = xb at hxx1 e0 e1 e2 e3 ⊢
      by_cases hin : 0 ≤ xt ∧ xt < (n : Int)
      · obtain ⟨i, rfl⟩ := Int.eq_ofNat_of_zero_le hin.1
        have hi : i < n := by omega
        have hil : i < hs.length := by rw [hsl.out]; exact hi
        obtain ⟨h, hh⟩ : ∃ h, h = hs.getD i 0 := ⟨_, rfl⟩
        replace hh := Lib.hid hh
        have c0 := hI1.out.cell hil
        rw [← hh.out] at c0
        have d1 : decide ((i : Int) ≥ 0) = true := decide_eq_true (by omega)
        have d2 : decide ((i : Int) < (n : Int)) = true := decide_eq_true (by omega)
        have hil' := Lib.hid hil
        clear hil
        have hil := hil'.out
        have hst0 : exStep n hs ⟨i, xw, xo, xa⟩ = if xw = 1 ∧ may xo h = true then hs.set i (atHold xo h) else if xw = 11 then hs.set i (behind xo xa h) else hs := by
          unfold exStep
          simp only [Int.toNat_natCast]
          rw [if_pos ⟨by omega, by omega⟩, ← hh.out]
        replace hst0 := Lib.hid hst0
        clear hin
        by_cases hw1 : xw = 1 ∧ may xo h = true
        · obtain ⟨rfl, hmay⟩ := hw1
          have hst := Lib.hid (hst0.out.trans (if_pos ⟨rfl, hmay⟩))
          clear hst0
          go_upto_region 7 with (fail)
          go_quiet (first | (go_at_call 85; refine Calls.quiet_of_same (may_walk xo h _)))
          have hq : Below V1.heap.size V1 (V1.drewN nq) := pw_below_drewN (Below.refl _ _) nq
          have hI2 := Lib.hid (hI1.out.below hq)
          have hx2 := Lib.hid ((hq.block mb (blk_lt hx1.out)).trans hx1.out)
          have hbt2 := Lib.hid (hbt1.out.trans (But.of_below hq))
          have hxx2 := blk_below hxx1.out hq
          have c0 := hI2.out.cell hil
          rw [← hh.out] at c0
          clear hq hI1 hx1 hbt1 hxx1 e0 e1 e2 e3
          generalize V1.drewN nq = V2 at hI2 hx2 hbt2 hxx2 c0 ⊢
          have e1 := cell_of_heap (j := 1) hxx2 rfl
          have e2 := cell_of_heap (j := 2) hxx2 rfl
          have e3 := cell_of_heap (j := 3) hxx2 rfl
          replace hxx2 := Lib.hid hxx2
          have z0 := hI2.out.frozen i
          go_upto_region 8 with (fail)
          refine start_ (n := 9) (S := fun w' => w'.cell? ⟨xb, 2, none⟩ = some (.int .i64 xo) ∧ w'.cell? ⟨hb_, i, none⟩ = some (.int .i64 h)) (ds := [8]) #[false, false, false, false, false, false, false, false, false] (by kernel_rfl) rfl rfl ⟨e2, c0⟩ (fun hHeld => ?_)
          refine pu_ 0 45 (mk 9 1) rfl rfl ?_
          refine pu_ 1 46 (mk 9 3) rfl rfl ?_
          refine pu_ 3 48 (mk 9 11) rfl rfl ?_
          refine pu_ 4 49 (mk 9 27) rfl rfl ?_
          refine tk2_ 2 47 (mk 9 31) rfl rfl hHeld ?_
          refine tk2_ 5 50 (mk 9 63) rfl rfl hHeld ?_
          refine one_ (i := 6) (N := some 51) (mk 9 127) rfl rfl (by kernel_rfl) (by decide) (fun K hK => ?_)
          refine goes_ Tryz.func86 (by kernel_rfl) rfl #[.int .i64 xo, .int .i64 h] (by rfl) rfl rfl (by simp only [List.map_toArray, List.map_cons, List.map_nil]; rfl) ?_
          with_reducible refine (atHold_walk xo h _).mono ?_
          rintro e w3 ⟨rfl, rfl⟩
          refine ⟨_, rfl, ?_⟩
          refine hK.out _ _ ⟨e2, c0⟩ (fun hHeld => ?_)
          clear hK K
          refine nm_ ?_
          refine pu_ 7 52 (mk 9 255) rfl rfl ?_
          refine last_ (i := 8) (N := none) (mk 9 511) rfl rfl (by kernel_rfl) (by decide) (fun K hK => ?_)
          refine skip_ (w1 := ?_) (by rfl) rfl ?_ ?_
          rotate_left
          · go_simp
            rfl
          refine hK.out _ _ ?_
          clear hK K
          refine done_ (by kernel_rfl) ?_
          have hI3 := Lib.hid ((hI2.out.set i hil (atHold xo h)).of_block (w1 := (V2.setCell ⟨hb_, i, none⟩ (.int .i64 (atHold xo h))).drew) rfl)
          have hx3 := Lib.hid (blk_drew (blk_far hx2.out (p := ⟨hb_, i, none⟩) (by have := hg0.out; show mb ≠ hb_; omega) (.int .i64 (atHold xo h))))
          have hbt3 := Lib.hid ((hbt2.out.set ⟨hb_, i, none⟩ (.inr hg0.out) (.int .i64 (atHold xo h))).drew)
          have hsl3 : Hid ((hs.set i (atHold xo h)).length = n) := Lib.hid (List.length_set.trans hsl.out)
          clear e1 e2 e3 c0 z0
          generalize (V2.setCell ⟨hb_, i, none⟩ (.int .i64 (atHold xo h))).drew = V3 at hI3 hx3 hbt3 ⊢
          have hms := most1_walk hI3.out (by rw [hsl3.out]; exact h64) cap (k : Int) m hx3.out
          rw [hsl3.out] at hms
          replace hms := Lib.hid hms
          go_wp2_with ((with_reducible refine gate_dst (N := 70) rfl ?_); go_must (refine goesV_ (some 70) rfl rfl (kf := 52) (caps := #[.pointer (some ⟨mb, 0, none⟩)]) rfl ⟨Tryz.f52, Tryz.func52, by kernel_rfl, by kernel_rfl⟩ #[.int .i64 (k : Int), .slice (some ⟨hb_, 0, none⟩) n cap] rfl (by simp only [List.map_toArray, List.map_cons, List.map_nil]; rfl) ?_; refine hms.out.mono ?_; rintro e w9 ⟨rfl, hx9, hb9⟩; refine ⟨_, rfl, ?_⟩; have hI9 := Lib.hid (hI3.out.of_block (hb9.block hb_ hI3.out.lt (by have := hg0.out; omega))); have hbt9 := Lib.hid (hbt3.out.trans hb9); replace hx9 := Lib.hid hx9; clear hb9))
          go_roundw
          case rel => exact ⟨k + 1, _, _, by omega, by go_num, hsl3, Lib.hid (by rw [← hM2.out, hst.out]), hI9, hx9, hbt9⟩
          case measure => simp [intOf]; omega
        · by_cases hw11 : xw = 11
          · subst hw11
            have hst := Lib.hid (hst0.out.trans ((if_neg hw1).trans (if_pos rfl)))
            clear hst0 hw1
            go_upto_region 7 with (fail)
            go_quiet (first | (go_at_call 85; refine Calls.quiet_of_same (may_walk xo h _)))
            have hq : Below V1.heap.size V1 (V1.drewN nq) := pw_below_drewN (Below.refl _ _) nq
            have hI2 := Lib.hid (hI1.out.below hq)
            have hx2 := Lib.hid ((hq.block mb (blk_lt hx1.out)).trans hx1.out)
            have hbt2 := Lib.hid (hbt1.out.trans (But.of_below hq))
            have hxx2 := blk_below hxx1.out hq
            have c0 := hI2.out.cell hil
            rw [← hh.out] at c0
            clear hq hI1 hx1 hbt1 hxx1 e0 e1 e2 e3
            generalize V1.drewN nq = V2 at hI2 hx2 hbt2 hxx2 c0 ⊢
            have e1 := cell_of_heap (j := 1) hxx2 rfl
            have e2 := cell_of_heap (j := 2) hxx2 rfl
            have e3 := cell_of_heap (j := 3) hxx2 rfl
            replace hxx2 := Lib.hid hxx2
            have z0 := hI2.out.frozen i
            go_upto_region 10 with (fail)
            refine start_ (n := 11) (S := fun w' => w'.cell? ⟨xb, 2, none⟩ = some (.int .i64 xo) ∧ w'.cell? ⟨xb, 3, none⟩ = some (.int .i64 xa) ∧ w'.cell? ⟨hb_, i, none⟩ = some (.int .i64 h)) (ds := [10]) #[false, false, false, false, false, false, false, false, false, false, false] (by kernel_rfl) rfl rfl ⟨e2, e3, c0⟩ (fun hHeld => ?_)
            refine pu_ 0 57 (mk 11 1) rfl rfl ?_
            refine pu_ 1 58 (mk 11 3) rfl rfl ?_
            refine pu_ 3 60 (mk 11 11) rfl rfl ?_
            refine pu_ 5 62 (mk 11 43) rfl rfl ?_
            refine pu_ 6 63 (mk 11 107) rfl rfl ?_
            refine tk3_ 2 59 (mk 11 111) rfl rfl hHeld ?_
            refine tk3_ 4 61 (mk 11 127) rfl rfl hHeld ?_
            refine tk3_ 7 64 (mk 11 255) rfl rfl hHeld ?_
            refine one_ (i := 8) (N := some 65) (mk 11 511) rfl rfl (by kernel_rfl) (by decide) (fun K hK => ?_)
            refine goes_ Tryz.func89 (by kernel_rfl) rfl #[.int .i64 xo, .int .i64 xa, .int .i64 h] (by rfl) rfl rfl (by simp only [List.map_toArray, List.map_cons, List.map_nil]; rfl) ?_
            with_reducible refine (behind_walk xo xa h _).mono ?_
            rintro e w3 ⟨rfl, rfl⟩
            refine ⟨_, rfl, ?_⟩
            refine hK.out _ _ ⟨e2, e3, c0⟩ (fun hHeld => ?_)
            clear hK K
            refine nm_ ?_
            refine pu_ 9 66 (mk 11 1023) rfl rfl ?_
            refine last_ (i := 10) (N := none) (mk 11 2047) rfl rfl (by kernel_rfl) (by decide) (fun K hK => ?_)
            refine skip_ (w1 := ?_) (by rfl) rfl ?_ ?_
            rotate_left
            · go_simp
              rfl
            refine hK.out _ _ ?_
            clear hK K
            refine done_ (by kernel_rfl) ?_
            have hI3 := Lib.hid ((hI2.out.set i hil (behind xo xa h)).of_block (w1 := (V2.setCell ⟨hb_, i, none⟩ (.int .i64 (behind xo xa h))).drew) rfl)
            have hx3 := Lib.hid (blk_drew (blk_far hx2.out (p := ⟨hb_, i, none⟩) (by have := hg0.out; show mb ≠ hb_; omega) (.int .i64 (behind xo xa h))))
            have hbt3 := Lib.hid ((hbt2.out.set ⟨hb_, i, none⟩ (.inr hg0.out) (.int .i64 (behind xo xa h))).drew)
            have hsl3 : Hid ((hs.set i (behind xo xa h)).length = n) := Lib.hid (List.length_set.trans hsl.out)
            clear e1 e2 e3 c0 z0
            generalize (V2.setCell ⟨hb_, i, none⟩ (.int .i64 (behind xo xa h))).drew = V3 at hI3 hx3 hbt3 ⊢
            have hms := most1_walk hI3.out (by rw [hsl3.out]; exact h64) cap (k : Int) m hx3.out
            rw [hsl3.out] at hms
            replace hms := Lib.hid hms
            go_wp2_with ((with_reducible refine gate_dst (N := 70) rfl ?_); go_must (refine goesV_ (some 70) rfl rfl (kf := 52) (caps := #[.pointer (some ⟨mb, 0, none⟩)]) rfl ⟨Tryz.f52, Tryz.func52, by kernel_rfl, by kernel_rfl⟩ #[.int .i64 (k : Int), .slice (some ⟨hb_, 0, none⟩) n cap] rfl (by simp only [List.map_toArray, List.map_cons, List.map_nil]; rfl) ?_; refine hms.out.mono ?_; rintro e w9 ⟨rfl, hx9, hb9⟩; refine ⟨_, rfl, ?_⟩; have hI9 := Lib.hid (hI3.out.of_block (hb9.block hb_ hI3.out.lt (by have := hg0.out; omega))); have hbt9 := Lib.hid (hbt3.out.trans hb9); replace hx9 := Lib.hid hx9; clear hb9))
            go_roundw
            case rel => exact ⟨k + 1, _, _, by omega, by go_num, hsl3, Lib.hid (by rw [← hM2.out, hst.out]), hI9, hx9, hbt9⟩
            case measure => simp [intOf]; omega
          · have hst := Lib.hid (hst0.out.trans ((if_neg hw1).trans (if_neg hw11)))
            clear hst0
            have h11 : (xw == 11) = false := beq_eq_false_iff_ne.mpr hw11
            by_cases hwx : xw = 1
            · subst hwx
              have hmay : may xo h = false := by
                cases hq : may xo h
                · rfl
                · exact absurd ⟨rfl, hq⟩ hw1
              clear hw1 hw11
              go_upto_region 7 with (fail)
              go_quiet (first | (go_at_call 85; refine Calls.quiet_of_same (may_walk xo h _)))
              have hq : Below V1.heap.size V1 (V1.drewN nq) := pw_below_drewN (Below.refl _ _) nq
              have hI2 := Lib.hid (hI1.out.below hq)
              have hx2 := Lib.hid ((hq.block mb (blk_lt hx1.out)).trans hx1.out)
              have hbt2 := Lib.hid (hbt1.out.trans (But.of_below hq))
              have hxx2 := blk_below hxx1.out hq
              have c0 := hI2.out.cell hil
              rw [← hh.out] at c0
              clear hq hI1 hx1 hbt1 hxx1 e0 e1 e2 e3
              generalize V1.drewN nq = V2 at hI2 hx2 hbt2 hxx2 c0 ⊢
              have e1 := cell_of_heap (j := 1) hxx2 rfl
              have e2 := cell_of_heap (j := 2) hxx2 rfl
              have e3 := cell_of_heap (j := 3) hxx2 rfl
              replace hxx2 := Lib.hid hxx2
              have z0 := hI2.out.frozen i
              have hI3 := hI2
              have hx3 := hx2
              have hbt3 := hbt2
              have hsl3 := hsl
              clear c0
              have hms := most1_walk hI3.out (by rw [hsl3.out]; exact h64) cap (k : Int) m hx3.out
              rw [hsl3.out] at hms
              replace hms := Lib.hid hms
              go_wp2_with ((with_reducible refine gate_dst (N := 70) rfl ?_); go_must (refine goesV_ (some 70) rfl rfl (kf := 52) (caps := #[.pointer (some ⟨mb, 0, none⟩)]) rfl ⟨Tryz.f52, Tryz.func52, by kernel_rfl, by kernel_rfl⟩ #[.int .i64 (k : Int), .slice (some ⟨hb_, 0, none⟩) n cap] rfl (by simp only [List.map_toArray, List.map_cons, List.map_nil]; rfl) ?_; refine hms.out.mono ?_; rintro e w9 ⟨rfl, hx9, hb9⟩; refine ⟨_, rfl, ?_⟩; have hI9 := Lib.hid (hI3.out.of_block (hb9.block hb_ hI3.out.lt (by have := hg0.out; omega))); have hbt9 := Lib.hid (hbt3.out.trans hb9); replace hx9 := Lib.hid hx9; clear hb9))
              go_roundw
              case rel => exact ⟨k + 1, _, _, by omega, by go_num, hsl3, Lib.hid (by rw [← hM2.out, hst.out]), hI9, hx9, hbt9⟩
              case measure => simp [intOf]; omega
            · have h1b : (xw == 1) = false := beq_eq_false_iff_ne.mpr hwx
              clear hw1
              replace hwx := Lib.hid hwx
              replace hw11 := Lib.hid hw11
              go_upto_region 7 with (fail)
              go_quiet (first | (go_at_call 85; refine Calls.quiet_of_same (may_walk xo h _)))
              have hq : Below V1.heap.size V1 (V1.drewN nq) := pw_below_drewN (Below.refl _ _) nq
              have hI2 := Lib.hid (hI1.out.below hq)
              have hx2 := Lib.hid ((hq.block mb (blk_lt hx1.out)).trans hx1.out)
              have hbt2 := Lib.hid (hbt1.out.trans (But.of_below hq))
              have hxx2 := blk_below hxx1.out hq
              have c0 := hI2.out.cell hil
              rw [← hh.out] at c0
              clear hq hI1 hx1 hbt1 hxx1 e0 e1 e2 e3
              generalize V1.drewN nq = V2 at hI2 hx2 hbt2 hxx2 c0 ⊢
              have e1 := cell_of_heap (j := 1) hxx2 rfl
              have e2 := cell_of_heap (j := 2) hxx2 rfl
              have e3 := cell_of_heap (j := 3) hxx2 rfl
              replace hxx2 := Lib.hid hxx2
              have z0 := hI2.out.frozen i
              have hI3 := hI2
              have hx3 := hx2
              have hbt3 := hbt2
              have hsl3 := hsl
              clear c0
              have hms := most1_walk hI3.out (by rw [hsl3.out]; exact h64) cap (k : Int) m hx3.out
              rw [hsl3.out] at hms
              replace hms := Lib.hid hms
              go_wp2_with ((with_reducible refine gate_dst (N := 70) rfl ?_); go_must (refine goesV_ (some 70) rfl rfl (kf := 52) (caps := #[.pointer (some ⟨mb, 0, none⟩)]) rfl ⟨Tryz.f52, Tryz.func52, by kernel_rfl, by kernel_rfl⟩ #[.int .i64 (k : Int), .slice (some ⟨hb_, 0, none⟩) n cap] rfl (by simp only [List.map_toArray, List.map_cons, List.map_nil]; rfl) ?_; refine hms.out.mono ?_; rintro e w9 ⟨rfl, hx9, hb9⟩; refine ⟨_, rfl, ?_⟩; have hI9 := Lib.hid (hI3.out.of_block (hb9.block hb_ hI3.out.lt (by have := hg0.out; omega))); have hbt9 := Lib.hid (hbt3.out.trans hb9); replace hx9 := Lib.hid hx9; clear hb9))
              go_roundw
              case rel => exact ⟨k + 1, _, _, by omega, by go_num, hsl3, Lib.hid (by rw [← hM2.out, hst.out]), hI9, hx9, hbt9⟩
              case measure => simp [intOf]; omega
      · have hst : Hid (exStep n hs ⟨xt, xw, xo, xa⟩ = hs) := Lib.hid (if_neg hin)
        have hI3 := hI1
        have hx3 := hx1
        have hbt3 := hbt1
        have hsl3 := hsl
        by_cases h0 : xt ≥ 0
        · have d1 : decide (xt ≥ 0) = true := decide_eq_true h0
          have d2 : decide (xt < (n : Int)) = false := decide_eq_false (by omega)
          clear hin h0
          have hms := most1_walk hI3.out (by rw [hsl3.out]; exact h64) cap (k : Int) m hx3.out
          rw [hsl3.out] at hms
          replace hms := Lib.hid hms
          go_wp2_with ((with_reducible refine gate_dst (N := 70) rfl ?_); go_must (refine goesV_ (some 70) rfl rfl (kf := 52) (caps := #[.pointer (some ⟨mb, 0, none⟩)]) rfl ⟨Tryz.f52, Tryz.func52, by kernel_rfl, by kernel_rfl⟩ #[.int .i64 (k : Int), .slice (some ⟨hb_, 0, none⟩) n cap] rfl (by simp only [List.map_toArray, List.map_cons, List.map_nil]; rfl) ?_; refine hms.out.mono ?_; rintro e w9 ⟨rfl, hx9, hb9⟩; refine ⟨_, rfl, ?_⟩; have hI9 := Lib.hid (hI3.out.of_block (hb9.block hb_ hI3.out.lt (by have := hg0.out; omega))); have hbt9 := Lib.hid (hbt3.out.trans hb9); replace hx9 := Lib.hid hx9; clear hb9))
          go_roundw
          case rel => exact ⟨k + 1, _, _, by omega, by go_num, hsl3, Lib.hid (by rw [← hM2.out, hst.out]), hI9, hx9, hbt9⟩
          case measure => simp [intOf]; omega
        · have d1 : decide (xt ≥ 0) = false := decide_eq_false h0
          clear hin h0
          have hms := most1_walk hI3.out (by rw [hsl3.out]; exact h64) cap (k : Int) m hx3.out
          rw [hsl3.out] at hms
          replace hms := Lib.hid hms
          go_wp2_with ((with_reducible refine gate_dst (N := 70) rfl ?_); go_must (refine goesV_ (some 70) rfl rfl (kf := 52) (caps := #[.pointer (some ⟨mb, 0, none⟩)]) rfl ⟨Tryz.f52, Tryz.func52, by kernel_rfl, by kernel_rfl⟩ #[.int .i64 (k : Int), .slice (some ⟨hb_, 0, none⟩) n cap] rfl (by simp only [List.map_toArray, List.map_cons, List.map_nil]; rfl) ?_; refine hms.out.mono ?_; rintro e w9 ⟨rfl, hx9, hb9⟩; refine ⟨_, rfl, ?_⟩; have hI9 := Lib.hid (hI3.out.of_block (hb9.block hb_ hI3.out.lt (by have := hg0.out; omega))); have hbt9 := Lib.hid (hbt3.out.trans hb9); replace hx9 := Lib.hid hx9; clear hb9))
          go_roundw
          case rel => exact ⟨k + 1, _, _, by omega, by go_num, hsl3, Lib.hid (by rw [← hM2.out, hst.out]), hI9, hx9, hbt9⟩
          case measure => simp [intOf]; omega
    · obtain rfl : len = k := by omega
      have hx := hbx.out
      have hM2 : m = R := by
        have := hM.out
        rw [hlen.out, List.drop_length] at this
        exact this
      rw [hM2] at hx
      replace hx := Lib.hid hx
      go_wp2
      go_ret
      exact ⟨⟨_, rfl⟩, hx.out, hbt.out⟩

end Go.Proofs.YtkmlefbdhdlfmaaGreat.Wo
