/- note.Rows, note.Of, and what the law NoteOf holds them against: walks. -/
import Derived.Test.YtejmbmhehbcflaaDoorRTx
import Derived.Test.YtejmbmhehbcflaaDoorQ5
import Derived.Test.YtejmbmhehbcflaaDoorWEqStruct
import Derived.Deep.DeepMust
namespace Go.Proofs.YtejmbmhehbcflaaDoor.Note
open Go.RowKit Go.Proofs.YtejmbmhehbcflaaDoorW.PrintWords Go.Proofs.YtejmbmhehbcflaaDoorW.PrintMore Go.Proofs.YtejmbmhehbcflaaDoorW.PrintLast Go.Proofs.YtejmbmhehbcflaaDoor.Pr
set_option linter.unusedSimpArgs false
set_option linter.unusedVariables false

abbrev Nt := Int × Int × Int × Int
abbrev nk : Kd Nt := Kd.pair (Kd.int .i64) (Kd.pair (Kd.int .i64) (Kd.pair (Kd.int .i64) (Kd.int .i64)))
theorem nk_open {w : World} {x : Nt} {cs : List Value} (h : nk.K w x cs) : cs = [.int .i64 x.1, .int .i64 x.2.1, .int .i64 x.2.2.1, .int .i64 x.2.2.2] := by
  obtain ⟨_, _, rfl, rfl, _, _, rfl, rfl, _, _, rfl, rfl, rfl⟩ := h
  exact rfl
theorem nk_M {w : World} {B : Nat} {ok : Nat → Prop} (t wh o ar : Int) : nk.M w B ok (t, wh, o, ar) [.int .i64 t, .int .i64 wh, .int .i64 o, .int .i64 ar] :=
  ⟨[.int .i64 t], _, rfl, rfl, [.int .i64 wh], _, rfl, rfl, [.int .i64 o], _, rfl, rfl, rfl⟩
theorem at_note {w : World} {A : Option Addr} {n : Nat} {xs : List Nt} (h : Kd.C nk w A n xs) (i : Nat) (h1 : i < n) :
    ∃ ad t wh o ar, A = some ad ∧ xs[i]? = some (t, wh, o, ar) ∧ w.cell? (ad.add (i * 4)) = some (.int .i64 t) ∧ w.cell? ⟨(ad.add (i * 4)).block, (ad.add (i * 4)).off + 1, none⟩ = some (.int .i64 wh) ∧ w.cell? ⟨(ad.add (i * 4)).block, (ad.add (i * 4)).off + 2, none⟩ = some (.int .i64 o) ∧ w.cell? ⟨(ad.add (i * 4)).block, (ad.add (i * 4)).off + 3, none⟩ = some (.int .i64 ar) := by
  have hn := h.1
  obtain ⟨ad, c, e, _, hK, hc0⟩ := Kd.C_get h (0, 0, 0, 0) (i : Int) (by omega) (by omega)
  have hc : ∀ j u, c[j]? = some u → w.cell? (ad.add (i * 4 + j)) = some u := hc0
  obtain rfl := nk_open hK
  have hx : xs[i]? = some (xs.getD (i : Int).toNat (0, 0, 0, 0)) := by
    rw [Int.toNat_natCast, List.getD_eq_getElem?_getD, List.getElem?_eq_getElem (by omega)]
    rfl
  exact ⟨ad, _, _, _, _, e, hx, hc 0 _ rfl, by rw [← add_field _ _ 1 (by omega)]; exact hc 1 _ rfl, by rw [← add_field _ _ 2 (by omega)]; exact hc 2 _ rfl, by rw [← add_field _ _ 3 (by omega)]; exact hc 3 _ rfl⟩
theorem take_step {α : Type} {l : List α} {k : Nat} {x : α} (h : l[k]? = some x) : l.take (k + 1) = l.take k ++ [x] := by
  rw [List.take_add_one, h]
  rfl
def tx (x : Nt) : ByteArray := textB x.1 x.2.1 x.2.2.1 x.2.2.2

/-! note.Rows -/
set_option maxRecDepth 100000 in
set_option maxHeartbeats 4000000 in
theorem mapped_walk (A : Option Addr) (cap n : Nat) (l : List Nt) (w : World) (hm : n ≤ cap) (hn : l.length = n) (hn1 : n ≤ 100) (hC : Kd.C nk w A n l) :
    Calls Tryd.prog 66 #[.slice A n cap, .func (.func 24) #[] #[]] w fun e w' => ∃ v, e = .returned v ∧ Kd.R Kd.string 9 w' w.heap.size (fun _ => True) v (l.map tx) ∧ Below w.heap.size w w' := by
  have HC := Lib.hid hC
  have HN := Lib.hid hn
  clear hC hn
  go_enter Tryd.func66, Tryd.ntmps66
  go_wp2
  go_loopw [5, 10] (fun vo i wr => ∃ k : Nat, k ≤ n ∧ i = .int .i64 k ∧ Hid (Kd.R Kd.string 9 wr w.heap.size (fun _ => True) vo ((l.take k).map tx)) ∧ Hid (Below w.heap.size w wr)) (fun _ i _ => n - (intOf i).toNat)
  case atStart => exact ⟨0, Nat.zero_le _, rfl, Kd.R_nil _ _ _ _ _, Below.refl _ _⟩
  case round =>
    obtain ⟨k, hk, rfl, hR, hB⟩ := hrel
    by_cases hlt : k < n
    · obtain ⟨ad, t, wh, o, ar, rfl, hx, h0, h1, h2, h3⟩ := at_note (Kd.C_below HC.out hB.out) k hlt
      have hs : (l.take (k + 1)).map tx = (l.take k).map tx ++ [textB t wh o ar] := by rw [take_step hx, List.map_append]; rfl
      have hkl : ((l.take k).map tx).length ≤ 100 := by simp; omega
      replace hs := Lib.hid hs
      replace hx := Lib.hid hx

      go_wp2_with (first
        | (go_at_call 24; refine (text_walk t wh o ar _).mono ?_; rintro e w1 ⟨rfl, hb1⟩; have hBa := below_alloc hB.out (.cells #[.int .i64 t, .int .i64 wh, .int .i64 o, .int .i64 ar] 35); have hB1 := below_then hBa hBa.size hb1; have hR1 := Kd.R_below (Kd.R_alloc hR.out (.cells #[.int .i64 t, .int .i64 wh, .int .i64 o, .int .i64 ar] 35)) hb1; clear hb1 hBa)
        | ((with_reducible refine gate_builtin (b := .append) (xs := #[.tmp 14, .tmp 18]) rfl ?_); at_builtin; refine Kd.R_append Kd.string (w0 := w) w.heap.size rfl (.tmp 14) (.tmp 18) 40 9 (.string ⟨#[]⟩) 16 rfl Tryd.underlying40 info9 rfl (by decide) (by omega) u5 ((l.take k).map tx) (textB t wh o ar) [.string (textB t wh o ar)] (fun _ => True) (fun _ => False) rfl rfl rfl (fun _ hk => hk.elim) (fun _ _ => trivial) hR1 hB1 hB1.size (by omega) ?_; intro v2 w2 hR2 hB2 _ _; rw [← hs.out] at hR2; replace hR2 := Lib.hid hR2; replace hB2 := Lib.hid hB2))
      go_roundw
      case rel => exact ⟨k + 1, by omega, by go_num, hR2, hB2⟩
      case measure => simp [intOf]; omega
    · obtain rfl : k = n := by omega
      have ht : l.take k = l := List.take_of_length_le (by rw [HN.out]; exact Nat.le_refl _)
      rw [ht] at hR
      clear ht
      go_wp2
      go_ret
      exact ⟨_, rfl, hR.out, hB.out⟩
theorem rows_walk (A : Option Addr) (cap n : Nat) (l : List Nt) (w : World) (hm : n ≤ cap) (hn : l.length = n) (hn1 : n ≤ 100) (hC : Kd.C nk w A n l) :
    Calls Tryd.prog 27 #[.slice A n cap] w fun e w' => ∃ v, e = .returned v ∧ Kd.R Kd.string 9 w' w.heap.size (fun _ => True) v (l.map tx) ∧ Below w.heap.size w w' := by
  have h := Lib.hid (mapped_walk A cap n l w hm hn hn1 hC)
  clear hC
  replace hn := Lib.hid hn
  go_enter Tryd.func27, Tryd.ntmps27
  go_wp2_with (go_at_call 66; refine h.out.mono ?_; rintro e w1 ⟨v, rfl, hR, hB⟩; replace hR := Lib.hid hR; replace hB := Lib.hid hB)
  go_ret
  exact ⟨_, rfl, hR.out, hB.out⟩

/-! note.Of -/
def has (lw : List Int) (x : Int) : Bool := lw.contains x
/-- Is a note of a task, and of some whats? -/
def pk (task : Int) (lw : List Int) (x : Nt) : Bool := (decide (task < 0) || (x.1 == task)) && (lw.isEmpty || lw.contains x.2.1)
theorem ints_at {w : World} {A : Option Addr} {n : Nat} {lw : List Int} (hC : Kd.C (Kd.int .i64) w A n lw) (hn : 0 < n) : ∃ b off, A = some ⟨b, off, none⟩ ∧ ∀ j, j < lw.length → w.cell? ⟨b, off + j, none⟩ = some (.int .i64 (lw.getD j 0)) := by
  have hl := hC.1
  have hall : ∀ j, j < lw.length → ∃ ad : Addr, A = some ad ∧ w.cell? (ad.add j) = some (.int .i64 (lw.getD j 0)) := by
    intro j hj
    obtain ⟨ad, c, e, _, hK, hc0⟩ := Kd.C_get hC 0 (j : Int) (by omega) (by omega)
    obtain rfl : c = [.int .i64 (lw.getD (j : Int).toNat 0)] := hK
    have := hc0 0 _ rfl
    refine ⟨ad, e, ?_⟩
    have hsz : (Kd.int .i64).sz = 1 := rfl
    rw [hsz] at this
    simpa using this
  obtain ⟨ad, e, h0⟩ := hall 0 (by omega)
  have hsp : ad.spot = none := by
    cases hs : ad.spot with
    | none => rfl
    | some x =>
      have : (ad.add 0).spot = some x := by simp [Addr.add, hs]
      simp [World.cell?, this] at h0
      split at h0 <;> simp_all
  obtain ⟨b, off, sp⟩ := ad
  simp only at hsp
  subst hsp
  refine ⟨b, off, e, fun j hj => ?_⟩
  obtain ⟨ad, e2, h2⟩ := hall j hj
  obtain rfl := Option.some.inj (e.symm.trans e2)
  rw [Lib.add_plain] at h2
  exact h2
set_option maxRecDepth 100000 in
set_option maxHeartbeats 4000000 in
theorem clo_walk (t wh o ar task : Int) (c1 c2 : Nat) (A : Option Addr) (n cap : Nat) (lw : List Int) (w : World) (h1 : w.cell? ⟨c1, 0, none⟩ = some (.int .i64 task)) (h2 : w.cell? ⟨c2, 0, none⟩ = some (.slice A n cap)) (hl : lw.length = n) (hn : n ≤ 20) (hC : Kd.C (Kd.int .i64) w A n lw) :
    Calls Tryd.prog 70 #[.agg #[.int .i64 t, .int .i64 wh, .int .i64 o, .int .i64 ar], .pointer (some ⟨c1, 0, none⟩), .pointer (some ⟨c2, 0, none⟩)] w fun e w' => e = .returned (.bool (pk task lw (t, wh, o, ar))) ∧ Below w.heap.size w w' := by
  have l1 : c1 < w.heap.size := lt_of_cell h1
  have l2 : c2 < w.heap.size := lt_of_cell h2
  have fin : Below w.heap.size w (w.alloc (.cells #[.int .i64 t, .int .i64 wh, .int .i64 o, .int .i64 ar] 35)) := below_alloc (Below.refl _ _) _
  by_cases hA : task < 0 ∨ t = task
  · have hp : (decide (task < 0) || (t == task)) = true := by rw [Bool.or_eq_true]; exact hA.imp (fun h => by simpa using h) (fun h => by simpa using h)
    by_cases h0 : n = 0
    · have hv : pk task lw (t, wh, o, ar) = true := by
        have : lw = [] := List.eq_nil_of_length_eq_zero (by omega)
        unfold pk
        rw [hp, this]
        rfl
      subst h0
      rw [hv]
      by_cases hn1 : task < 0
      · have d1 : decide (task < 0) = true := by simpa using hn1
        go_enter Tryd.func70, Tryd.ntmps70
        go_wp2
        go_ret
        exact ⟨rfl, fin⟩
      · have d1 : decide (task < 0) = false := by simpa using hn1
        have d2 : (t == task) = true := by rw [beq_iff_eq]; omega
        go_enter Tryd.func70, Tryd.ntmps70
        go_wp2
        go_ret
        exact ⟨rfl, fin⟩
    · have hv : pk task lw (t, wh, o, ar) = has lw wh := by
        unfold pk
        rw [hp, Bool.true_and]
        cases lw with
        | nil => exact absurd hl.symm h0
        | cons a b => rfl
      rw [hv]
      obtain ⟨b, off, rfl, hcs⟩ := ints_at hC (by omega)
      have hct : ∀ W : World, Below w.heap.size w W → Calls Tryd.prog 71 #[.slice (some ⟨b, off, none⟩) n cap, .int .i64 wh] W fun e w' => e = .returned (.bool (has lw wh)) ∧ w' = W := by
        intro W hW
        refine (Tryd.slices_Contains_int b off n cap lw wh W (by omega) (by omega) (fun j hj => ?_)).mono fun e w' h => ?_
        · have hc := hcs j hj
          exact (hW.cell (p := ⟨b, off + j, none⟩) (lt_of_cell hc)).trans hc
        · rw [List.take_of_length_le (by omega)] at h
          exact h
      replace hct := Lib.hid hct
      replace hcs := Lib.hid hcs
      have d3 : ((n : Int) == 0) = false := by simp; omega
      replace hl := Lib.hid hl
      clear hC hv
      by_cases hn1 : task < 0
      · have d1 : decide (task < 0) = true := by simpa using hn1
        go_enter Tryd.func70, Tryd.ntmps70
        go_wp2_with (go_at_call 71; refine (hct.out _ fin).mono ?_; rintro e w1 ⟨rfl, rfl⟩)
        go_ret
        exact ⟨rfl, fin⟩
      · have d1 : decide (task < 0) = false := by simpa using hn1
        have d2 : (t == task) = true := by rw [beq_iff_eq]; omega
        go_enter Tryd.func70, Tryd.ntmps70
        go_wp2_with (go_at_call 71; refine (hct.out _ fin).mono ?_; rintro e w1 ⟨rfl, rfl⟩)
        go_ret
        exact ⟨rfl, fin⟩
  · have d1 : decide (task < 0) = false := by simp; omega
    have d2 : (t == task) = false := by rw [beq_eq_false_iff_ne]; omega
    have hv : pk task lw (t, wh, o, ar) = false := by
      unfold pk
      simp only
      rw [d1, d2]
      rfl
    rw [hv]
    clear hC
    replace hl := Lib.hid hl
    go_enter Tryd.func70, Tryd.ntmps70
    go_wp2
    go_ret
    exact ⟨rfl, fin⟩

abbrev clov (c1 c2 : Nat) : Value := .func (.func 70) #[] #[.pointer (some ⟨c1, 0, none⟩), .pointer (some ⟨c2, 0, none⟩)]
theorem infoN : (Tryd.prog.info? 35).map (fun i => (i.zero, i.size, i.bytes)) = some (some (.agg #[.int .i64 0, .int .i64 0, .int .i64 0, .int .i64 0]), 4, 32) := by kernel_rfl
set_option maxRecDepth 100000 in
set_option maxHeartbeats 4000000 in
theorem picked_walk (A : Option Addr) (cap n : Nat) (l : List Nt) (task : Int) (c1 c2 : Nat) (A2 : Option Addr) (n2 cap2 : Nat) (lw : List Int) (w : World) (hm : n ≤ cap) (hn : l.length = n) (hn1 : n ≤ 100) (hC : Kd.C nk w A n l)
    (q1 : w.cell? ⟨c1, 0, none⟩ = some (.int .i64 task)) (q2 : w.cell? ⟨c2, 0, none⟩ = some (.slice A2 n2 cap2)) (hl2 : lw.length = n2) (hn2 : n2 ≤ 20) (hC2 : Kd.C (Kd.int .i64) w A2 n2 lw) :
    Calls Tryd.prog 69 #[.slice A n cap, clov c1 c2] w fun e w' => ∃ v, e = .returned v ∧ Kd.R nk 35 w' w.heap.size (fun _ => True) v (l.filter (pk task lw)) ∧ Below w.heap.size w w' := by
  have HC := Lib.hid hC
  have HN := Lib.hid hn
  have hclo : ∀ (t wh o ar : Int) (W : World), Below w.heap.size w W → Calls Tryd.prog 70 #[.agg #[.int .i64 t, .int .i64 wh, .int .i64 o, .int .i64 ar], .pointer (some ⟨c1, 0, none⟩), .pointer (some ⟨c2, 0, none⟩)] W fun e w' => e = .returned (.bool (pk task lw (t, wh, o, ar))) ∧ Below W.heap.size W w' := fun t wh o ar W hW =>
    clo_walk t wh o ar task c1 c2 A2 n2 cap2 lw W ((hW.cell (p := ⟨c1, 0, none⟩) (lt_of_cell q1)).trans q1) ((hW.cell (p := ⟨c2, 0, none⟩) (lt_of_cell q2)).trans q2) hl2 hn2 (Kd.C_below hC2 hW)
  replace hclo := Lib.hid hclo
  clear hC hn q1 q2 hl2 hn2 hC2
  go_enter Tryd.func69, Tryd.ntmps69
  go_wp2
  go_loopw [5, 10] (fun vo i wr => ∃ k : Nat, k ≤ n ∧ i = .int .i64 k ∧ Hid (Kd.R nk 35 wr w.heap.size (fun _ => True) vo ((l.take k).filter (pk task lw))) ∧ Hid (Below w.heap.size w wr)) (fun _ i _ => n - (intOf i).toNat)
  case atStart => exact ⟨0, Nat.zero_le _, rfl, Kd.R_nil _ _ _ _ _, Below.refl _ _⟩
  case round =>
    obtain ⟨k, hk, rfl, hR, hB⟩ := hrel
    by_cases hlt : k < n
    · obtain ⟨ad, t, wh, o, ar, rfl, hx, h0, h1, h2, h3⟩ := at_note (Kd.C_below HC.out hB.out) k hlt
      have hkl : ((l.take k).filter (pk task lw)).length ≤ 100 := by
        have := List.length_filter_le (pk task lw) (l.take k)
        have h3 : (l.take k).length ≤ k := List.length_take_le _ _
        omega
      cases hp : pk task lw (t, wh, o, ar) with
      | true =>
        have hs : (l.take (k + 1)).filter (pk task lw) = (l.take k).filter (pk task lw) ++ [(t, wh, o, ar)] := by rw [take_step hx, List.filter_append]; simp [hp]
        replace hs := Lib.hid hs
        replace hx := Lib.hid hx
        go_wp2_with (first
          | (go_at_call 70; refine (hclo.out t wh o ar _ (below_alloc hB.out (.cells #[.int .i64 t, .int .i64 wh, .int .i64 o, .int .i64 ar] 35))).mono ?_; rintro e w1 ⟨rfl, hb1⟩; have hBa := below_alloc hB.out (.cells #[.int .i64 t, .int .i64 wh, .int .i64 o, .int .i64 ar] 35); have hB1 := below_then hBa hBa.size hb1; have hR1 := Kd.R_below (Kd.R_alloc hR.out (.cells #[.int .i64 t, .int .i64 wh, .int .i64 o, .int .i64 ar] 35)) hb1; have hbx := (hb1.block wr.heap.size (by simp)).trans (heap_alloc_new wr (.cells #[.int .i64 t, .int .i64 wh, .int .i64 o, .int .i64 ar] 35)); have e0 := cell_of_heap (j := 0) hbx rfl; have e1 := cell_of_heap (j := 1) hbx rfl; have e2 := cell_of_heap (j := 2) hbx rfl; have e3 := cell_of_heap (j := 3) hbx rfl; have hlb := lt_of hbx; replace hbx := Lib.hid hbx; clear hb1 hBa)
          | ((with_reducible refine gate_builtin (b := .append) (xs := #[.tmp 17, .tmp 19]) rfl ?_); at_builtin; refine Kd.R_append nk (w0 := w) w.heap.size rfl (.tmp 17) (.tmp 19) 39 35 (.agg #[.int .i64 0, .int .i64 0, .int .i64 0, .int .i64 0]) 32 rfl Tryd.underlying39 infoN rfl (by decide) (by omega) u5 ((l.take k).filter (pk task lw)) (t, wh, o, ar) [.int .i64 t, .int .i64 wh, .int .i64 o, .int .i64 ar] (fun _ => True) (fun _ => False) rfl rfl (nk_M _ _ _ _) (fun _ hk => hk.elim) (fun _ _ => trivial) hR1 hB1 hB1.size (by omega) ?_; intro v2 w2 hR2 hB2 _ _; rw [← hs.out] at hR2; replace hR2 := Lib.hid hR2; replace hB2 := Lib.hid hB2))
        go_roundw
        case rel => exact ⟨k + 1, by omega, by go_num, hR2, hB2⟩
        case measure => simp [intOf]; omega
      | false =>
        have hs : (l.take (k + 1)).filter (pk task lw) = (l.take k).filter (pk task lw) := by rw [take_step hx, List.filter_append]; simp [hp]
        replace hs := Lib.hid hs
        replace hx := Lib.hid hx
        go_wp2_with (go_at_call 70; refine (hclo.out t wh o ar _ (below_alloc hB.out (.cells #[.int .i64 t, .int .i64 wh, .int .i64 o, .int .i64 ar] 35))).mono ?_; rintro e w1 ⟨rfl, hb1⟩; have hBa := below_alloc hB.out (.cells #[.int .i64 t, .int .i64 wh, .int .i64 o, .int .i64 ar] 35); have hB1 := below_then hBa hBa.size hb1; have hR1 := Kd.R_below (Kd.R_alloc hR.out (.cells #[.int .i64 t, .int .i64 wh, .int .i64 o, .int .i64 ar] 35)) hb1; clear hb1 hBa)
        rw [← hs.out] at hR1
        replace hR1 := Lib.hid hR1
        replace hB1 := Lib.hid hB1
        go_roundw
        case rel => exact ⟨k + 1, by omega, by go_num, hR1, hB1⟩
        case measure => simp [intOf]; omega
    · obtain rfl : k = n := by omega
      have ht : l.take k = l := List.take_of_length_le (by rw [HN.out]; exact Nat.le_refl _)
      rw [ht] at hR
      clear ht
      go_wp2
      go_ret
      exact ⟨_, rfl, hR.out, hB.out⟩
set_option maxHeartbeats 2000000 in
theorem of_walk (A : Option Addr) (cap n : Nat) (l : List Nt) (task : Int) (A2 : Option Addr) (n2 cap2 : Nat) (lw : List Int) (w : World) (hm : n ≤ cap) (hn : l.length = n) (hn1 : n ≤ 100) (hC : Kd.C nk w A n l)
    (hl2 : lw.length = n2) (hn2 : n2 ≤ 20) (hC2 : Kd.C (Kd.int .i64) w A2 n2 lw) :
    Calls Tryd.prog 30 #[.slice A n cap, .int .i64 task, .slice A2 n2 cap2] w fun e w' => ∃ v, e = .returned v ∧ Kd.R nk 35 w' w.heap.size (fun _ => True) v (l.filter (pk task lw)) ∧ Below w.heap.size w w' := by
  obtain ⟨w0, hw0⟩ : ∃ w0 : World, w0 = (w.alloc (.cells #[.int .i64 task] 3)).alloc (.cells #[.slice A2 n2 cap2] 29) := ⟨_, rfl⟩
  have hs0 : w0.heap.size = w.heap.size + 2 := by rw [hw0]; simp
  have hB0 : Below w.heap.size w w0 := by rw [hw0]; exact below_alloc (below_alloc (Below.refl _ _) _) _
  have g1 : w0.heap[w.heap.size]? = some (.cells #[.int .i64 task] 3 (0, 0)) := by rw [hw0]; exact (Below.heap_alloc _ _ _ (by simp)).trans (heap_alloc_new w _)
  have g2 : w0.heap[w.heap.size + 1]? = some (.cells #[.slice A2 n2 cap2] 29 (0, 0)) := by rw [hw0]; have := heap_alloc_new (w.alloc (.cells #[.int .i64 task] 3)) (.cells #[.slice A2 n2 cap2] 29); simpa using this
  have h := picked_walk A cap n l task w.heap.size (w.heap.size + 1) A2 n2 cap2 lw w0 hm hn hn1 (Kd.C_below hC hB0) (cell_of_heap g1 rfl) (cell_of_heap g2 rfl) hl2 hn2 (Kd.C_below hC2 hB0)
  replace h := Lib.hid h
  replace hs0 := Lib.hid hs0
  replace hB0 := Lib.hid hB0
  clear hC hC2 g1 g2
  replace hn := Lib.hid hn
  replace hl2 := Lib.hid hl2
  go_enter Tryd.func30, Tryd.ntmps30
  go_wp2_with (go_at_call 69; rw [← hw0]; refine h.out.mono ?_; rintro e w1 ⟨v, rfl, hR, hB⟩; replace hR := Lib.hid hR; replace hB := Lib.hid hB)
  go_ret
  have h2 := hs0.out
  exact ⟨_, rfl, Kd.R_lower hR.out (by omega), below_then hB0.out hB0.out.size hB.out⟩

/-! the reference's Of -/
theorem C_iso {α β : Type} {d : Kd α} {f : β → α} {w : World} {A : Option Addr} {n : Nat} {xs : List β} (h : Kd.C d w A n (xs.map f)) : Kd.C (Kd.iso d f) w A n xs := by
  obtain ⟨h1, h2, h3⟩ := h
  refine ⟨by simpa using h1, h2, fun hp => ?_⟩
  obtain ⟨ad, e, h4⟩ := h3 hp
  refine ⟨ad, e, fun j p hj => h4 j (f p) (by rw [List.getElem?_map, hj]; rfl)⟩
theorem R_iso {α β : Type} {d : Kd α} {f : β → α} {e : Nat} {w : World} {base : Nat} {ok : Nat → Prop} {v : Value} {xs : List β} (h : Kd.R (Kd.iso d f) e w base ok v xs) : Kd.R d e w base ok v (xs.map f) := by
  obtain ⟨h1, inner, h2, h3, h4⟩ := h
  refine ⟨h1, inner, by rw [List.length_map]; exact h2, by rw [List.length_map]; exact h3, fun j p hj => ?_⟩
  rw [List.getElem?_map, Option.map_eq_some_iff] at hj
  obtain ⟨q, hq, rfl⟩ := hj
  exact h4 j q hq
def mk (x : Nt) : S35 := ⟨x.1, x.2.1, x.2.2.1, x.2.2.2⟩
def unmk (x : S35) : Nt := (x.f0, x.f1, x.f2, x.f3)
theorem unmk_mk (l : List Nt) : (l.map mk).map unmk = l := by
  rw [List.map_map]
  exact List.map_id' l
/-- Is a note of a task, and of some whats? As the reference asks. -/
def pr (task : Int) (lw : List Int) (x : S35) : Bool := (lw.isEmpty || lw.contains x.f1) && (decide (task < 0) || (x.f0 == task))
theorem wrap_at {i n : Nat} (h : i ≤ n) (hn : n ≤ 100) : wrap64 ((i : Int) + 1) = ((i + 1 : Nat) : Int) := by unfold wrap64; omega
theorem rd_at {ls : List S35} {i : Nat} {x : S35} (h : ls[i]? = some x) : rd_T35 ls (i : Int) = x := by
  unfold rd_T35
  rw [Int.toNat_natCast, List.getD_eq_getElem?_getD, h]
  rfl
theorem l1_run (ls : List S35) (task : Int) (lw : List Int) (out : List S35) (i : Nat) (x : S35) (hx : ls[i]? = some x) (hl : ls.length ≤ 100) (hw : lw.length ≤ 20) (ho : out.length ≤ 100) :
    ∀ (d j : Nat) (b : Bool) (K : Nat), j + d = lw.length → stilemanref05_Of.l1 (K + d + 1) ls task lw out (i : Int) b (j : Int) = stilemanref05_Of.l0 K ls task lw (if (b || (lw.drop j).contains x.f1) && (decide (task < 0) || (x.f0 == task)) then out ++ [x] else out) ((i + 1 : Nat) : Int)
  | 0, j, b, K, hj => by
    have hi : i < ls.length := (List.getElem?_eq_some_iff.1 hx).1
    have hd : lw.drop j = [] := List.drop_eq_nil_of_le (by omega)
    rw [hd]
    simp only [stilemanref05_Of.l1, rd_at hx]
    rw [if_neg (by omega), wrap_at (Nat.le_of_lt hi) hl]
    cases b with
    | false => simp
    | true =>
      simp only [if_true, List.contains_nil, Bool.or_false, Bool.true_and]
      by_cases h0 : task < 0
      · rw [if_pos h0, if_pos (by omega), if_pos (by omega), if_pos (by omega), decide_eq_true h0, Bool.true_or, if_pos rfl]
      · rw [if_neg h0, if_pos (by omega), if_pos (by omega), decide_eq_false h0, Bool.false_or]
        by_cases ht : x.f0 = task
        · rw [if_pos ht, if_pos (by omega), if_pos (by simpa using ht)]
        · rw [if_neg ht, if_neg (by simpa using ht)]
  | d + 1, j, b, K, hj => by
    have hi : i < ls.length := (List.getElem?_eq_some_iff.1 hx).1
    have hjl : j < lw.length := by omega
    have hd : lw.drop j = lw[j] :: lw.drop (j + 1) := List.drop_eq_getElem_cons hjl
    have hr : rd lw (j : Int) = lw[j] := by simp [rd, hjl]
    have ih := fun b' => l1_run ls task lw out i x hx hl hw ho d (j + 1) b' K (by omega)
    rw [show K + (d + 1) + 1 = (K + d + 1) + 1 by omega]
    generalize K + d + 1 = M at ih ⊢
    simp only [stilemanref05_Of.l1]
    rw [if_pos (by omega), wrap_at (Nat.le_of_lt hjl) (by omega), rd_at hx, hr, hd]
    cases b with
    | true =>
      rw [if_pos rfl, ih]
      simp
    | false =>
      rw [if_neg (by simp), if_pos (by omega), if_pos (by omega), if_pos (by omega), ih]
      simp only [List.contains_cons, Bool.false_or]
      rw [show (lw[j] == x.f1) = (x.f1 == lw[j]) from by rw [Bool.eq_iff_iff, beq_iff_eq, beq_iff_eq]; exact eq_comm]
theorem l0_run (ls : List S35) (task : Int) (lw : List Int) (hl : ls.length ≤ 100) (hw : lw.length ≤ 20) :
    ∀ (d i : Nat) (out : List S35), i + d = ls.length → out.length ≤ i → stilemanref05_Of.l0 (d * (lw.length + 2) + 1) ls task lw out (i : Int) = some (out ++ (ls.drop i).filter (pr task lw))
  | 0, i, out, hi, ho => by
    have hd : ls.drop i = [] := List.drop_eq_nil_of_le (by omega)
    rw [hd]
    simp only [stilemanref05_Of.l0]
    rw [if_neg (by omega)]
    simp
  | d + 1, i, out, hi, ho => by
    have hil : i < ls.length := by omega
    have hx : ls[i]? = some ls[i] := List.getElem?_eq_getElem hil
    have hd : ls.drop i = ls[i] :: ls.drop (i + 1) := List.drop_eq_getElem_cons hil
    rw [show (d + 1) * (lw.length + 2) + 1 = ((d * (lw.length + 2) + 1) + lw.length + 1) + 1 by rw [Nat.add_mul]; omega]
    simp only [stilemanref05_Of.l0]
    have h1 := l1_run ls task lw out i ls[i] hx hl hw (by omega) lw.length 0 ((lw.length : Int) == 0) (d * (lw.length + 2) + 1) (by omega)
    rw [if_pos (by omega)]
    rw [show ((0 : Nat) : Int) = 0 from rfl] at h1
    rw [h1, hd, List.filter_cons]
    have he : (((lw.length : Int) == 0) || (lw.drop 0).contains ls[i].f1) = (lw.isEmpty || lw.contains ls[i].f1) := by
      rw [List.drop_zero]
      congr 1
      cases lw with
      | nil => rfl
      | cons a b => simp; omega
    rw [he]
    show stilemanref05_Of.l0 _ _ _ _ (if pr task lw ls[i] = true then _ else _) _ = _
    cases hp : pr task lw ls[i] with
    | true =>
      rw [if_pos rfl, if_pos rfl, l0_run ls task lw hl hw d (i + 1) _ (by omega) (by simp; omega)]
      simp
    | false =>
      rw [if_neg (by simp), if_neg (by simp), l0_run ls task lw hl hw d (i + 1) _ (by omega) (by omega)]
theorem pr_mk (task : Int) (lw : List Int) (x : Nt) : pr task lw (mk x) = pk task lw x := by
  unfold pr pk
  rw [Bool.and_comm]
  rfl
theorem of_f (l : List Nt) (task : Int) (lw : List Int) (hl : l.length ≤ 100) (hw : lw.length ≤ 20) : stilemanref05_Of.f (l.length * (lw.length + 2) + 1) (l.map mk) task lw = some ((l.filter (pk task lw)).map mk) := by
  have h := l0_run (l.map mk) task lw (by simpa using hl) hw l.length 0 [] (by simp) (by simp)
  unfold stilemanref05_Of.f
  rw [show ((0 : Nat) : Int) = 0 from rfl] at h
  rw [h]
  simp only [List.drop_zero, List.nil_append, Option.some.injEq]
  rw [List.filter_map]
  congr 1
  exact List.filter_congr fun x _ => pr_mk task lw x
theorem rof_walk (A : Option Addr) (cap n : Nat) (l : List Nt) (task : Int) (A2 : Option Addr) (n2 cap2 : Nat) (lw : List Int) (w : World) (hm : n ≤ cap) (hn : l.length = n) (hn1 : n ≤ 100) (hC : Kd.C nk w A n l)
    (hm2 : n2 ≤ cap2) (hl2 : lw.length = n2) (hn2 : n2 ≤ 20) (hC2 : Kd.C (Kd.int .i64) w A2 n2 lw) :
    Calls Tryd.prog 31 #[.slice A n cap, .int .i64 task, .slice A2 n2 cap2] w fun e w' => ∃ v, e = .returned v ∧ Kd.R nk 35 w' w.heap.size (fun _ => True) v (l.filter (pk task lw)) ∧ Below w.heap.size w w' := by
  subst hn
  subst hl2
  have hC' : Kd.C k35 w A (l.map mk).length (l.map mk) := by
    refine C_iso ?_
    show Kd.C nk w A (l.map mk).length ((l.map mk).map unmk)
    rw [unmk_mk, List.length_map]
    exact hC
  have h := stilemanref05_Of.calls (l.length * (lw.length + 2) + 1) A cap (l.map mk) task A2 cap2 lw _ w hC' (by rw [List.length_map]; exact hm) hC2 hm2 (of_f l task lw hn1 hn2)
  rw [List.length_map] at h
  refine h.mono ?_
  rintro e w' ⟨v, rfl, hR, hB⟩
  refine ⟨v, rfl, ?_, hB⟩
  have h2 := R_iso hR
  have h3 : ((l.filter (pk task lw)).map mk).map (fun x : S35 => (x.f0, x.f1, x.f2, x.f3)) = l.filter (pk task lw) := unmk_mk _
  rw [h3] at h2
  exact h2

/-! the reference's Same, of equal lists -/
theorem note_neq (w : World) (x0 x1 x2 x3 : Int) : (binOp .neq 35 (.agg #[.int .i64 x0, .int .i64 x1, .int .i64 x2, .int .i64 x3]) (.agg #[.int .i64 x0, .int .i64 x1, .int .i64 x2, .int .i64 x3])).run Tryd.prog w = .ok (.bool false) w := by
  go_simp
set_option maxRecDepth 100000 in
set_option maxHeartbeats 4000000 in
theorem same_walk (A1 A2 : Option Addr) (c1 c2 n : Nat) (l : List Nt) (w : World) (hn1 : n ≤ 100) (hC1 : Kd.C nk w A1 n l) (hC2 : Kd.C nk w A2 n l) :
    Calls Tryd.prog 29 #[.slice A1 n c1, .slice A2 n c2] w fun e w' => e = .returned (.bool true) ∧ Below w.heap.size w w' := by
  replace hC1 := Lib.hid hC1
  replace hC2 := Lib.hid hC2
  go_enter Tryd.func29, Tryd.ntmps29
  go_wp2
  go_loopw [5] (fun i wr => ∃ k : Nat, k ≤ n ∧ i = .int .i64 k ∧ Hid (Below w.heap.size w wr)) (fun i _ => n - (intOf i).toNat)
  case atStart => exact ⟨0, Nat.zero_le _, rfl, Below.refl _ _⟩
  case round =>
    obtain ⟨k, hk, rfl, hB⟩ := hrel
    by_cases hlt : k < n
    · have hBz := below_drew hB.out
      obtain ⟨ad, t, wh, o, ar, rfl, hx, a0, a1, a2, a3⟩ := at_note (Kd.C_below hC1.out hBz) k hlt
      obtain ⟨bd, t', wh', o', ar', rfl, hx', b0, b1, b2, b3⟩ := at_note (Kd.C_below hC2.out hBz) k hlt
      obtain ⟨rfl, rfl, rfl, rfl⟩ : t = t' ∧ wh = wh' ∧ o = o' ∧ ar = ar' := by
        have := Option.some.inj (hx.symm.trans hx')
        simpa using this
      clear hx hx'
      have hq := fun w => note_neq w t wh o ar
      go_upto_region 6 with (fail)
      refine start_ (n := 9) (S := fun w' => w'.cell? (ad.add (k * 4)) = some (.int .i64 t) ∧ w'.cell? ⟨(ad.add (k * 4)).block, (ad.add (k * 4)).off + 1, none⟩ = some (.int .i64 wh) ∧ w'.cell? ⟨(ad.add (k * 4)).block, (ad.add (k * 4)).off + 2, none⟩ = some (.int .i64 o) ∧ w'.cell? ⟨(ad.add (k * 4)).block, (ad.add (k * 4)).off + 3, none⟩ = some (.int .i64 ar) ∧ w'.cell? (bd.add (k * 4)) = some (.int .i64 t) ∧ w'.cell? ⟨(bd.add (k * 4)).block, (bd.add (k * 4)).off + 1, none⟩ = some (.int .i64 wh) ∧ w'.cell? ⟨(bd.add (k * 4)).block, (bd.add (k * 4)).off + 2, none⟩ = some (.int .i64 o) ∧ w'.cell? ⟨(bd.add (k * 4)).block, (bd.add (k * 4)).off + 3, none⟩ = some (.int .i64 ar)) (ds := []) #[false, false, false, false, false, false, false, false, false] (by kernel_rfl) rfl rfl ⟨a0, a1, a2, a3, b0, b1, b2, b3⟩ (fun hHeld => ?_)
      refine pure_ (i := 0) (N := some 17) (v := ?_) (a' := ?_) #[true, false, false, false, false, false, false, false, false] rfl rfl (by kernel_rfl) (fun _ _ _ h => h) (Or.inl ⟨by rfl, ?_⟩) ?_ ?_
      rotate_left
      · intro w'
        go_simp
        with_reducible rfl
      rotate_left
      · simp only [Act.put, List.setIfInBounds_toArray, List.set_cons_zero, List.set_cons_succ, i64_w, i32_w]
        rfl
      refine pure_ (i := 1) (N := some 18) (v := ?_) (a' := ?_) #[true, true, false, false, false, false, false, false, false] rfl rfl (by kernel_rfl) (fun _ _ _ h => h) (Or.inl ⟨by rfl, ?_⟩) ?_ ?_
      rotate_left
      · intro w'
        go_simp
        with_reducible rfl
      rotate_left
      · simp only [Act.put, List.setIfInBounds_toArray, List.set_cons_zero, List.set_cons_succ, i64_w, i32_w]
        rfl
      refine pure_ (i := 2) (N := some 19) (v := ?_) (a' := ?_) #[true, true, true, false, false, false, false, false, false] rfl rfl (by kernel_rfl) (fun _ _ _ h => h) (Or.inl ⟨by rfl, ?_⟩) ?_ ?_
      rotate_left
      · intro w'
        go_simp
        with_reducible rfl
      rotate_left
      · simp only [Act.put, List.setIfInBounds_toArray, List.set_cons_zero, List.set_cons_succ, i64_w, i32_w]
        rfl
      refine pure_ (i := 4) (N := some 21) (v := ?_) (a' := ?_) #[true, true, true, false, true, false, false, false, false] rfl rfl (by kernel_rfl) (fun _ _ _ h => h) (Or.inl ⟨by rfl, ?_⟩) ?_ ?_
      rotate_left
      · intro w'
        go_simp
        with_reducible rfl
      rotate_left
      · simp only [Act.put, List.setIfInBounds_toArray, List.set_cons_zero, List.set_cons_succ, i64_w, i32_w]
        rfl
      refine pure_ (i := 5) (N := some 22) (v := ?_) (a' := ?_) #[true, true, true, false, true, true, false, false, false] rfl rfl (by kernel_rfl) (fun _ _ _ h => h) (Or.inl ⟨by rfl, ?_⟩) ?_ ?_
      rotate_left
      · intro w'
        go_simp
        with_reducible rfl
      rotate_left
      · simp only [Act.put, List.setIfInBounds_toArray, List.set_cons_zero, List.set_cons_succ, i64_w, i32_w]
        rfl
      refine pure_ (i := 6) (N := some 23) (v := ?_) (a' := ?_) #[true, true, true, false, true, true, true, false, false] rfl rfl (by kernel_rfl) (fun _ _ _ h => h) (Or.inl ⟨by rfl, ?_⟩) ?_ ?_
      rotate_left
      · intro w'
        go_simp
        with_reducible rfl
      rotate_left
      · simp only [Act.put, List.setIfInBounds_toArray, List.set_cons_zero, List.set_cons_succ, i64_w, i32_w]
        rfl
      refine take_ (i := 3) (N := some 20) (v := ?_) (a' := ?_) #[true, true, true, true, true, true, true, false, false] rfl rfl (by kernel_rfl) (fun _ _ _ h => h) (Or.inl ⟨by rfl, ?_⟩) hHeld ?_ ?_
      rotate_left
      · rintro w' ⟨s0, s1, s2, s3, s4, s5, s6, s7⟩
        go_simp
        with_reducible rfl
      rotate_left
      · simp only [Act.put, List.setIfInBounds_toArray, List.set_cons_zero, List.set_cons_succ, i64_w, i32_w]
        rfl
      refine take_ (i := 7) (N := some 24) (v := ?_) (a' := ?_) #[true, true, true, true, true, true, true, true, false] rfl rfl (by kernel_rfl) (fun _ _ _ h => h) (Or.inl ⟨by rfl, ?_⟩) hHeld ?_ ?_
      rotate_left
      · rintro w' ⟨s0, s1, s2, s3, s4, s5, s6, s7⟩
        go_simp
        with_reducible rfl
      rotate_left
      · simp only [Act.put, List.setIfInBounds_toArray, List.set_cons_zero, List.set_cons_succ, i64_w, i32_w]
        rfl
      refine pure_ (i := 8) (N := some 25) (v := ?_) (a' := ?_) #[true, true, true, true, true, true, true, true, true] rfl rfl (by kernel_rfl) (fun _ _ _ h => h) (Or.inl ⟨by rfl, ?_⟩) ?_ ?_
      rotate_left
      · intro w'
        go_simp
        with_reducible rfl
      rotate_left
      · simp only [Act.put, List.setIfInBounds_toArray, List.set_cons_zero, List.set_cons_succ, i64_w, i32_w]
        rfl
      refine done_ (by kernel_rfl) ?_
      go_wp2
      go_roundw
      case rel => exact ⟨k + 1, by omega, by go_num, Lib.hid hBz⟩
      case measure => simp [intOf]; omega
    · obtain rfl : k = n := by omega
      go_wp2
      go_ret
      exact ⟨rfl, hB.out⟩

/-! the law -/
theorem str_at {w : World} {A : Option Addr} {n : Nat} {l : List ByteArray} (hC : Kd.C Kd.string w A n l) (k : Nat) (hk : k < n) : ∃ ad x, A = some ad ∧ l[k]? = some x ∧ w.cell? (ad.add k) = some (.string x) := by
  have hl := hC.1
  obtain ⟨ad, c, e, _, hK, hc0⟩ := Kd.C_get hC ByteArray.empty (k : Int) (by omega) (by omega)
  obtain rfl : c = [.string (l.getD (k : Int).toNat ByteArray.empty)] := hK
  have h := hc0 0 _ rfl
  have hsz : (Kd.string).sz = 1 := rfl
  rw [hsz] at h
  refine ⟨ad, _, e, ?_, by simpa using h⟩
  rw [List.getElem?_eq_getElem (by omega)]
  rfl
set_option maxRecDepth 100000 in
set_option maxHeartbeats 4000000 in
theorem noteof_walk (A : Option Addr) (cap n : Nat) (l : List Nt) (task : Int) (A2 : Option Addr) (n2 cap2 : Nat) (lw : List Int) (w : World) (hm : n ≤ cap) (hn : l.length = n) (hC : Kd.C nk w A n l)
    (hm2 : n2 ≤ cap2) (hl2 : lw.length = n2) (hC2 : Kd.C (Kd.int .i64) w A2 n2 lw) :
    Calls Tryd.prog 5 #[.slice A n cap, .int .i64 task, .slice A2 n2 cap2] w fun e w' => e = .returned (.bool true) ∧ Below w.heap.size w w' := by
  by_cases h100 : n > 100
  · have d1 : decide ((n : Int) > 100) = true := by simp; omega
    clear hC hC2 hn hl2
    go_enter Tryd.func5, Tryd.ntmps5
    go_wp2_with (go_at_call 26; refine (awake_walk _).mono ?_; rintro e w1 ⟨rfl, hb⟩; replace hb := Lib.hid hb)
    go_ret
    exact ⟨rfl, hb.out⟩
  have d1 : decide ((n : Int) > 100) = false := by simp; omega
  by_cases h20 : n2 > 20
  · have d2 : decide ((n2 : Int) > 20) = true := by simp; omega
    clear hC hC2 hn hl2
    go_enter Tryd.func5, Tryd.ntmps5
    go_wp2_with (go_at_call 26; refine (awake_walk _).mono ?_; rintro e w1 ⟨rfl, hb⟩; replace hb := Lib.hid hb)
    go_ret
    exact ⟨rfl, hb.out⟩
  have d2 : decide ((n2 : Int) > 20) = false := by simp; omega
  have hn1 : n ≤ 100 := by omega
  have hn2 : n2 ≤ 20 := by omega
  have hmap : (l.map tx).length = n := by simpa using hn
  have hfl : (l.filter (pk task lw)).length ≤ 100 := by have := List.length_filter_le (pk task lw) l; omega
  have HC := Lib.hid hC
  have HC2 := Lib.hid hC2
  have HN := Lib.hid hn
  have HL2 := Lib.hid hl2
  clear hC hC2 hn hl2 h100 h20
  replace hmap := Lib.hid hmap
  go_enter Tryd.func5, Tryd.ntmps5
  go_upto_region 4 with (go_at_call 27; refine (rows_walk A cap n l _ hm HN.out hn1 HC.out).mono ?_; rintro e w1 ⟨v, rfl, hR, hB⟩; replace hR := Lib.hid hR; replace hB := Lib.hid hB)
  obtain ⟨Ar, cr, rfl⟩ := Kd.R_slice hR.out
  obtain ⟨_, _, hCr⟩ := Kd.R_reads' hR.out
  rw [hmap.out] at hCr ⊢
  replace hCr := Lib.hid hCr
  clear hR
  go_wp2
  go_loopw [8] (fun i wr => ∃ k : Nat, k ≤ n ∧ i = .int .i64 k ∧ Hid (Below w1.heap.size w1 wr)) (fun i _ => n - (intOf i).toNat)
  case atStart => exact ⟨0, Nat.zero_le _, rfl, Below.refl _ _⟩
  case round =>
    obtain ⟨k, hk, rfl, hBr⟩ := hrel
    have hBw := below_then hB.out hB.out.size hBr.out
    by_cases hlt : k < n
    · have hBz := below_drew hBr.out
      obtain ⟨ad, t, wh, o, ar, rfl, hx, a0, a1, a2, a3⟩ := at_note (Kd.C_below HC.out (below_then hB.out hB.out.size hBz)) k hlt
      obtain ⟨bd, y, rfl, hy, b0⟩ := str_at (Kd.C_below hCr.out hBz) k hlt
      obtain rfl : textB t wh o ar = y := by
        rw [List.getElem?_map, hx] at hy
        exact Option.some.inj hy
      clear hx hy
      go_upto_region 9 with (fail)
      refine start_ (n := 10) (S := fun w' => w'.cell? (bd.add k) = some (.string (textB t wh o ar)) ∧ w'.cell? (ad.add (k * 4)) = some (.int .i64 t) ∧ w'.cell? ⟨(ad.add (k * 4)).block, (ad.add (k * 4)).off + 1, none⟩ = some (.int .i64 wh) ∧ w'.cell? ⟨(ad.add (k * 4)).block, (ad.add (k * 4)).off + 2, none⟩ = some (.int .i64 o) ∧ w'.cell? ⟨(ad.add (k * 4)).block, (ad.add (k * 4)).off + 3, none⟩ = some (.int .i64 ar)) (ds := []) #[false, false, false, false, false, false, false, false, false, false] (by kernel_rfl) rfl rfl ⟨b0, a0, a1, a2, a3⟩ (fun hHeld => ?_)
      refine pure_ (i := 0) (N := some 31) (v := ?_) (a' := ?_) #[true, false, false, false, false, false, false, false, false, false] rfl rfl (by kernel_rfl) (fun _ _ _ h => h) (Or.inl ⟨by rfl, ?_⟩) ?_ ?_
      rotate_left
      · intro w'
        go_simp
        with_reducible rfl
      rotate_left
      · simp only [Act.put, List.setIfInBounds_toArray, List.set_cons_zero, List.set_cons_succ, i64_w, i32_w]
        rfl
      refine pure_ (i := 1) (N := some 32) (v := ?_) (a' := ?_) #[true, true, false, false, false, false, false, false, false, false] rfl rfl (by kernel_rfl) (fun _ _ _ h => h) (Or.inl ⟨by rfl, ?_⟩) ?_ ?_
      rotate_left
      · intro w'
        go_simp
        with_reducible rfl
      rotate_left
      · simp only [Act.put, List.setIfInBounds_toArray, List.set_cons_zero, List.set_cons_succ, i64_w, i32_w]
        rfl
      refine pure_ (i := 2) (N := some 33) (v := ?_) (a' := ?_) #[true, true, true, false, false, false, false, false, false, false] rfl rfl (by kernel_rfl) (fun _ _ _ h => h) (Or.inl ⟨by rfl, ?_⟩) ?_ ?_
      rotate_left
      · intro w'
        go_simp
        with_reducible rfl
      rotate_left
      · simp only [Act.put, List.setIfInBounds_toArray, List.set_cons_zero, List.set_cons_succ, i64_w, i32_w]
        rfl
      refine pure_ (i := 4) (N := some 35) (v := ?_) (a' := ?_) #[true, true, true, false, true, false, false, false, false, false] rfl rfl (by kernel_rfl) (fun _ _ _ h => h) (Or.inl ⟨by rfl, ?_⟩) ?_ ?_
      rotate_left
      · intro w'
        go_simp
        with_reducible rfl
      rotate_left
      · simp only [Act.put, List.setIfInBounds_toArray, List.set_cons_zero, List.set_cons_succ, i64_w, i32_w]
        rfl
      refine pure_ (i := 5) (N := some 36) (v := ?_) (a' := ?_) #[true, true, true, false, true, true, false, false, false, false] rfl rfl (by kernel_rfl) (fun _ _ _ h => h) (Or.inl ⟨by rfl, ?_⟩) ?_ ?_
      rotate_left
      · intro w'
        go_simp
        with_reducible rfl
      rotate_left
      · simp only [Act.put, List.setIfInBounds_toArray, List.set_cons_zero, List.set_cons_succ, i64_w, i32_w]
        rfl
      refine pure_ (i := 6) (N := some 37) (v := ?_) (a' := ?_) #[true, true, true, false, true, true, true, false, false, false] rfl rfl (by kernel_rfl) (fun _ _ _ h => h) (Or.inl ⟨by rfl, ?_⟩) ?_ ?_
      rotate_left
      · intro w'
        go_simp
        with_reducible rfl
      rotate_left
      · simp only [Act.put, List.setIfInBounds_toArray, List.set_cons_zero, List.set_cons_succ, i64_w, i32_w]
        rfl
      refine take_ (i := 3) (N := some 34) (v := ?_) (a' := ?_) #[true, true, true, true, true, true, true, false, false, false] rfl rfl (by kernel_rfl) (fun _ _ _ h => h) (Or.inl ⟨by rfl, ?_⟩) hHeld ?_ ?_
      rotate_left
      · rintro w' ⟨s0, s1, s2, s3, s4⟩
        go_simp
        with_reducible rfl
      rotate_left
      · simp only [Act.put, List.setIfInBounds_toArray, List.set_cons_zero, List.set_cons_succ, i64_w, i32_w]
        rfl
      refine take_ (i := 7) (N := some 38) (v := ?_) (a' := ?_) #[true, true, true, true, true, true, true, true, false, false] rfl rfl (by kernel_rfl) (fun _ _ _ h => h) (Or.inl ⟨by rfl, ?_⟩) hHeld ?_ ?_
      rotate_left
      · rintro w' ⟨s0, s1, s2, s3, s4⟩
        go_simp
        with_reducible rfl
      rotate_left
      · simp only [Act.put, List.setIfInBounds_toArray, List.set_cons_zero, List.set_cons_succ, i64_w, i32_w]
        rfl
      refine one_ (i := 8) (N := some 39) #[true, true, true, true, true, true, true, true, true, false] rfl rfl (by kernel_rfl) (by decide) (fun K hK => ?_)
      refine goes_ Tryd.func28 (by kernel_rfl) rfl #[.agg #[.int .i64 t, .int .i64 wh, .int .i64 o, .int .i64 ar]] (by rfl) rfl rfl (by simp only [List.map_toArray, List.map_cons, List.map_nil]; rfl) ?_
      with_reducible refine (rtext_walk t wh o ar _).mono ?_
      rintro e w3 ⟨rfl, hb3⟩
      refine ⟨_, rfl, ?_⟩
      have hB3 := below_then hBz hBz.size hb3
      have z0 := (hb3.cell (lt_of_cell b0)).trans b0
      have z1 := (hb3.cell (lt_of_cell a0)).trans a0
      have z2 := (hb3.cell (lt_of_cell a1)).trans a1
      have z3 := (hb3.cell (lt_of_cell a2)).trans a2
      have z4 := (hb3.cell (lt_of_cell a3)).trans a3
      refine hK.out _ _ ⟨z0, z1, z2, z3, z4⟩ (fun hHeld => ?_)
      clear hK K
      refine norm_ (a' := ?_) ?_ ?_
      rotate_left
      · show Act.put _ (some 39) _ = _
        simp only [Act.put, List.setIfInBounds_toArray, List.set_cons_zero, List.set_cons_succ, i64_w, i32_w]
        rfl
      refine pure_ (i := 9) (N := some 40) (v := ?_) (a' := ?_) #[true, true, true, true, true, true, true, true, true, true] rfl rfl (by kernel_rfl) (fun _ _ _ h => h) (Or.inl ⟨by rfl, ?_⟩) ?_ ?_
      rotate_left
      · intro w'
        go_simp
        with_reducible rfl
      rotate_left
      · simp only [Act.put, List.setIfInBounds_toArray, List.set_cons_zero, List.set_cons_succ, i64_w, i32_w]
        rfl
      refine done_ (by kernel_rfl) ?_
      go_wp2
      go_roundw
      case rel => exact ⟨k + 1, by omega, by go_num, Lib.hid hB3⟩
      case measure => simp [intOf]; omega
    · obtain rfl : k = n := by omega
      clear hlt
      go_wp2_with (first
        | (go_at_call 30; refine (of_walk A cap k l task A2 n2 cap2 lw _ hm HN.out hn1 (Kd.C_below HC.out hBw) HL2.out hn2 (Kd.C_below HC2.out hBw)).mono ?_; rintro e w4 ⟨v4, rfl, hR4, hb4⟩; have hB4 := below_then hBw hBw.size hb4; obtain ⟨A4, c4, rfl⟩ := Kd.R_slice hR4; obtain ⟨_, _, hC4⟩ := Kd.R_reads' hR4; replace hC4 := Lib.hid hC4; clear hR4 hb4)
        | (go_at_call 31; refine (rof_walk A cap k l task A2 n2 cap2 lw _ hm HN.out hn1 (Kd.C_below HC.out hB4) hm2 HL2.out hn2 (Kd.C_below HC2.out hB4)).mono ?_; rintro e w5 ⟨v5, rfl, hR5, hb5⟩; have hB5 := below_then hB4 hB4.size hb5; obtain ⟨A5, c5, rfl⟩ := Kd.R_slice hR5; obtain ⟨_, _, hC5⟩ := Kd.R_reads' hR5; have hC45 := Kd.C_below hC4.out hb5; replace hC5 := Lib.hid hC5; replace hC45 := Lib.hid hC45; clear hR5 hb5)
        | (go_at_call 29; refine (same_walk A4 A5 c4 c5 _ (l.filter (pk task lw)) _ hfl hC45.out hC5.out).mono ?_; rintro e w6 ⟨rfl, hb6⟩; have hB6 := below_then hB5 hB5.size hb6; clear hb6)
        | (go_at_call 26; refine (awake_walk _).mono ?_; rintro e w7 ⟨rfl, hb7⟩; have hB7 := below_then hB6 hB6.size hb7; clear hb7))
      go_ret
      exact ⟨rfl, hB7⟩

end Go.Proofs.YtejmbmhehbcflaaDoor.Note
