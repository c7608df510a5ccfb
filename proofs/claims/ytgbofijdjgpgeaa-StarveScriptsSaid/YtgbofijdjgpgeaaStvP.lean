/- The reference's script is starve's; the law StarveScripts. -/
import Derived.Test.YtgbofijdjgpgeaaStv5
namespace Go.Proofs.Ytgbofijdjgpgeaa.Stv
open Go.RowKit Go.Proofs.YtgbofijdjgpgeaaW.PrintWords Go.Proofs.YtgbofijdjgpgeaaW.PrintMore Go.Proofs.YtgbofijdjgpgeaaW.PrintLast Go.Proofs.Ytgbofijdjgpgeaa.PStarveScripts
set_option linter.unusedSimpArgs false
set_option maxRecDepth 100000
abbrev mkP (x : Pk) : S122 := ⟨x.1, x.2⟩
theorem restL_succ (t : Int) (k : Nat) : restL t (k + 1) = (t, 0) :: restL t k := rfl
theorem restL_len (t : Int) (k : Nat) : (restL t k).length = k := by simp [restL, rep_length]
theorem add_l (t many : Int) (hm : 0 ≤ many ∧ many ≤ 1000) : ∀ (r k : Nat) (i : Int) (l : List Pk), i + r = many → 0 ≤ i → l.length + r ≤ 1000000 → r + 1 ≤ k → stilemanref25_add.l0 k (l.map mkP) t many i = some ((l ++ restL t r).map mkP)
  | 0, k + 1, i, l, hi, h0, hl, _ => by
    rw [stilemanref25_add.l0, if_neg (by omega)]
    simp [restL, rep]
  | r + 1, k + 1, i, l, hi, h0, hl, hk => by
    have hw : wrap64 (i + 1) = i + 1 := by unfold wrap64; omega
    rw [stilemanref25_add.l0, if_pos (by omega), if_pos (by rw [List.length_map]; omega), hw]
    have := add_l t many hm r k (i + 1) (l ++ [(t, 0)]) (by omega) (by omega) (by simp; omega) (by omega)
    rw [List.map_append] at this
    refine this.trans ?_
    rw [restL_succ, List.append_assoc]
    rfl
def addL (l : List Pk) (t o : Int) (many : Nat) : List Pk := l ++ ((if o = 0 then [] else [(t, o)]) ++ restL t many)
theorem addL_len (l : List Pk) (t o : Int) (many : Nat) : (addL l t o many).length ≤ l.length + many + 1 := by
  unfold addL
  by_cases h : o = 0
  · simp [h, restL_len]
  · simp [h, restL_len]; omega
theorem add_f (l : List Pk) (t o : Int) (many : Nat) (hm : many ≤ 1000) (hl : l.length + many + 1 ≤ 1000000) (k : Nat) (hk : many + 2 ≤ k) : stilemanref25_add.f k (l.map mkP) t o (many : Int) = some ((addL l t o many).map mkP) := by
  obtain ⟨k, rfl⟩ : ∃ k', k = k' + 1 := ⟨k - 1, by omega⟩
  unfold stilemanref25_add.f addL
  by_cases h : o = 0
  · rw [if_pos h, if_pos h, stilemanref25_add.j0]
    have := add_l t many ⟨by omega, by omega⟩ many k 0 l (by omega) (by omega) (by omega) (by omega)
    rw [this]
    rfl
  · rw [if_neg h, if_neg h, if_pos (by rw [List.length_map]; omega), stilemanref25_add.j0]
    have := add_l t many ⟨by omega, by omega⟩ many k 0 (l ++ [(t, o)]) (by omega) (by omega) (by simp; omega) (by omega)
    rw [List.map_append] at this
    refine this.trans ?_
    rw [List.append_assoc]
theorem addL_do (l : List Pk) (t o : Int) (h : o ≠ 0) : addL l t o 18 = l ++ doL t o := by
  unfold addL doL
  rw [if_neg h]
  rfl
theorem addL_rest (l : List Pk) (t : Int) (k : Nat) : addL l t 0 k = l ++ restL t k := by
  unfold addL
  rw [if_pos rfl]
  rfl
theorem do_f (l : List Pk) (t o : Int) (h : o ≠ 0) (hl : l.length ≤ 900000) (k : Nat) (hk : 20 ≤ k) : stilemanref25_add.f k (l.map mkP) t o 18 = some ((l ++ doL t o).map mkP) := by
  rw [← addL_do l t o h]
  exact add_f l t o 18 (by decide) (by omega) k hk
theorem rest_f (l : List Pk) (t : Int) (m : Nat) (hm : m ≤ 18) (hl : l.length ≤ 900000) (k : Nat) (hk : 20 ≤ k) : stilemanref25_add.f k (l.map mkP) t 0 (m : Int) = some ((l ++ restL t m).map mkP) := by
  rw [← addL_rest l t m]
  exact add_f l t 0 m (by omega) (by omega) k (by omega)
theorem rest_f18 (l : List Pk) (t : Int) (hl : l.length ≤ 900000) (k : Nat) (hk : 20 ≤ k) : stilemanref25_add.f k (l.map mkP) t 0 18 = some ((l ++ restL t 18).map mkP) := rest_f l t 18 (by decide) hl k hk
theorem rest_f6 (l : List Pk) (t : Int) (hl : l.length ≤ 900000) (k : Nat) (hk : 20 ≤ k) : stilemanref25_add.f k (l.map mkP) t 0 6 = some ((l ++ restL t 6).map mkP) := rest_f l t 6 (by decide) hl k hk
theorem script5_l (n : Nat) (hn : n ≤ 1000) : ∀ (r i k : Nat) (l : List Pk), i + r = n → l.length + 100 * r ≤ 200000 → r + 22 ≤ k → stilemanref25_Script.l0 k 5 n (l.map mkP) i = some ((l ++ rep round5 r).map mkP, 0)
  | 0, i, k + 1, l, hi, _, _ => by
    rw [stilemanref25_Script.l0, if_neg (by omega)]
    simp [rep]
  | r + 1, i, k + 1, l, hi, hl, hk => by
    have hw : wrap64 ((i : Int) + 1) = ((i + 1 : Nat) : Int) := by unfold wrap64; omega
    rw [stilemanref25_Script.l0, if_pos (by omega), if_pos rfl]
    rw [do_f _ 2 1 (by decide) (by first | omega | (simp only [List.length_append, doL_len, restL_len]; omega)) _ (by omega), Option.bind_some]
    rw [rest_f6 _ 0 (by first | omega | (simp only [List.length_append, doL_len, restL_len]; omega)) _ (by omega), Option.bind_some]
    rw [do_f _ 1 2 (by decide) (by first | omega | (simp only [List.length_append, doL_len, restL_len]; omega)) _ (by omega), Option.bind_some]
    rw [rest_f6 _ 0 (by first | omega | (simp only [List.length_append, doL_len, restL_len]; omega)) _ (by omega), Option.bind_some]
    rw [do_f _ 1 1 (by decide) (by first | omega | (simp only [List.length_append, doL_len, restL_len]; omega)) _ (by omega), Option.bind_some]
    rw [rest_f6 _ 0 (by first | omega | (simp only [List.length_append, doL_len, restL_len]; omega)) _ (by omega), Option.bind_some]
    rw [do_f _ 2 2 (by decide) (by first | omega | (simp only [List.length_append, doL_len, restL_len]; omega)) _ (by omega), Option.bind_some]
    rw [rest_f6 _ 0 (by first | omega | (simp only [List.length_append, doL_len, restL_len]; omega)) _ (by omega), Option.bind_some]
    rw [hw, script5_l n hn r (i + 1) k _ (by omega) (by simp only [List.length_append, doL_len, restL_len]; omega) (by omega)]
    simp [rep, round5, looksL, lookL]
theorem script6_l (n : Nat) (hn : n ≤ 1000) : ∀ (r i k : Nat) (l : List Pk), i + r = n → l.length + 136 * r ≤ 200000 → r + 22 ≤ k → stilemanref25_Script.l0 k 6 n (l.map mkP) i = some ((l ++ rep round6 r).map mkP, 0)
  | 0, i, k + 1, l, hi, _, _ => by
    rw [stilemanref25_Script.l0, if_neg (by omega)]
    simp [rep]
  | r + 1, i, k + 1, l, hi, hl, hk => by
    have hw : wrap64 ((i : Int) + 1) = ((i + 1 : Nat) : Int) := by unfold wrap64; omega
    rw [stilemanref25_Script.l0, if_pos (by omega), if_neg (by decide)]
    rw [do_f _ 2 3 (by decide) (by first | omega | (simp only [List.length_append, doL_len, restL_len]; omega)) _ (by omega), Option.bind_some]
    rw [rest_f6 _ 0 (by first | omega | (simp only [List.length_append, doL_len, restL_len]; omega)) _ (by omega), Option.bind_some]
    rw [do_f _ 1 4 (by decide) (by first | omega | (simp only [List.length_append, doL_len, restL_len]; omega)) _ (by omega), Option.bind_some]
    rw [rest_f18 _ 2 (by first | omega | (simp only [List.length_append, doL_len, restL_len]; omega)) _ (by omega), Option.bind_some]
    rw [rest_f6 _ 0 (by first | omega | (simp only [List.length_append, doL_len, restL_len]; omega)) _ (by omega), Option.bind_some]
    rw [do_f _ 1 3 (by decide) (by first | omega | (simp only [List.length_append, doL_len, restL_len]; omega)) _ (by omega), Option.bind_some]
    rw [rest_f6 _ 0 (by first | omega | (simp only [List.length_append, doL_len, restL_len]; omega)) _ (by omega), Option.bind_some]
    rw [do_f _ 2 4 (by decide) (by first | omega | (simp only [List.length_append, doL_len, restL_len]; omega)) _ (by omega), Option.bind_some]
    rw [rest_f18 _ 1 (by first | omega | (simp only [List.length_append, doL_len, restL_len]; omega)) _ (by omega), Option.bind_some]
    rw [rest_f6 _ 0 (by first | omega | (simp only [List.length_append, doL_len, restL_len]; omega)) _ (by omega), Option.bind_some]
    rw [hw, script6_l n hn r (i + 1) k _ (by omega) (by simp only [List.length_append, doL_len, restL_len]; omega) (by omega)]
    simp [rep, round6, looksL, lookL, mid1, mid2]
theorem ref5 (n : Nat) (hn : n ≤ 1000) : stilemanref25_Script.f (n + 25) 5 n = some ((script5 n).map mkP, 0) := by
  unfold stilemanref25_Script.f
  rw [if_pos rfl, stilemanref25_Script.j0, if_neg (by decide), if_neg (by omega), stilemanref25_Script.j1, if_neg (by simp; omega), if_pos rfl]
  rw [show ([] : List S122) = ([] : List Pk).map mkP from rfl, do_f [] 1 1 (by decide) (by decide) _ (by omega), Option.bind_some, do_f _ 0 3 (by decide) (by decide) _ (by omega), Option.bind_some, stilemanref25_Script.j2]
  exact script5_l n hn n 0 _ _ (by omega) (by simp only [List.length_append, doL_len, List.length_nil]; omega) (by omega)
theorem ref6 (n : Nat) (hn : n ≤ 1000) : stilemanref25_Script.f (n + 25) 6 n = some ((script6 n).map mkP, 0) := by
  unfold stilemanref25_Script.f
  rw [if_neg (by decide), show ((6 : Int) != 6) = false from rfl, stilemanref25_Script.j0, if_neg (by decide), if_neg (by omega), stilemanref25_Script.j1, if_neg (by simp; omega), if_neg (by decide)]
  rw [show ([] : List S122) = ([] : List Pk).map mkP from rfl, do_f [] 1 3 (by decide) (by decide) _ (by omega), Option.bind_some, do_f _ 0 1 (by decide) (by decide) _ (by omega), Option.bind_some, stilemanref25_Script.j2]
  exact script6_l n hn n 0 _ _ (by omega) (by simp only [List.length_append, doL_len, List.length_nil]; omega) (by omega)
theorem ref_range (kind rounds : Int) (hk : kind = 5 ∨ kind = 6) (hr : ¬ (0 ≤ rounds ∧ rounds ≤ 1000)) : stilemanref25_Script.f 2 kind rounds = some ([], 2) := by
  have hj : stilemanref25_Script.j0 2 kind rounds false = some ([], 2) := by
    rw [stilemanref25_Script.j0, if_neg (by decide)]
    by_cases h : rounds < 0
    · rw [if_pos h, stilemanref25_Script.j1, if_pos rfl]
    · rw [if_neg h, stilemanref25_Script.j1, if_pos (by simp; omega)]
  unfold stilemanref25_Script.f
  rcases hk with rfl | rfl
  · rw [if_pos rfl]; exact hj
  · rw [if_neg (by decide)]; exact hj
theorem ref_none (kind rounds : Int) (h5 : kind ≠ 5) (h6 : kind ≠ 6) : stilemanref25_Script.f 2 kind rounds = some ([], 3) := by
  unfold stilemanref25_Script.f
  rw [if_neg h5, stilemanref25_Script.j0, if_pos (by simpa using h6)]
theorem same_l (xs : List S122) (hl : xs.length ≤ 1000000) : ∀ (r i k : Nat), i + r = xs.length → r + 1 ≤ k → stilemanref19_Same.l0 k xs xs i = some true
  | 0, i, k + 1, hi, _ => by rw [stilemanref19_Same.l0, if_neg (by omega)]
  | r + 1, i, k + 1, hi, hk => by
    have hw : wrap64 ((i : Int) + 1) = ((i + 1 : Nat) : Int) := by unfold wrap64; omega
    rw [stilemanref19_Same.l0, if_pos (by omega), if_pos (by omega), if_pos (by omega), if_neg (by simp), hw]
    exact same_l xs hl r (i + 1) k (by omega) (by omega)
theorem same_f (xs : List S122) (hl : xs.length ≤ 1000000) : stilemanref19_Same.f (xs.length + 1) xs xs = some true := by
  unfold stilemanref19_Same.f
  rw [if_pos rfl]
  exact same_l xs hl xs.length 0 _ (by omega) (Nat.le_refl _)
variable {w w1 : World}
theorem C_mkP {A : Option Addr} {l : List Pk} (h : Kd.C k2 w A l.length l) : Kd.C k122 w A (l.map mkP).length (l.map mkP) := by
  rw [List.length_map]
  refine ⟨List.length_map .., h.2.1, fun hn => ?_⟩
  obtain ⟨ad, e, hc⟩ := h.2.2 hn
  refine ⟨ad, e, fun j p hj => ?_⟩
  rw [List.getElem?_map] at hj
  obtain ⟨q, hq, rfl⟩ := Option.map_eq_some_iff.1 hj
  obtain ⟨c, hs, hr, hcell⟩ := hc j q hq
  exact ⟨c, hs, hr, hcell⟩
/-- The reference's answer: a row of n picks. -/
theorem ref_walk (kind rounds : Int) (l : List S122) (n : Nat) (er : Int) (k : Nat) (hf : stilemanref25_Script.f k kind rounds = some (l, er)) (hn : l.length = n) (w : World) : Calls Try.prog 58 #[.int .i64 kind, .int .i64 rounds] w fun e w' => ∃ A c, e = .returned (.tuple #[.slice A n c, .int .i64 er]) ∧ n ≤ c ∧ Kd.C k122 w' A l.length l ∧ Below w.heap.size w w' := by
  subst hn
  refine (stilemanref25_Script.calls k kind rounds l er w hf).mono ?_
  rintro e w1 ⟨v, rfl, hR, hB⟩
  obtain ⟨A, c, rfl⟩ := Kd.R_slice hR
  obtain ⟨_, hm, hC⟩ := Kd.R_reads' hR
  exact ⟨A, c, rfl, hm, hC, hB⟩
theorem same_walk (A0 A1 : Option Addr) (c0 c1 n : Nat) (l : List S122) (hn : l.length = n) (hl : n ≤ 1000000) (m0 : n ≤ c0) (m1 : n ≤ c1) (C0 : Kd.C k122 w A0 l.length l) (C1 : Kd.C k122 w A1 l.length l) : Calls Try.prog 59 #[.slice A0 n c0, .slice A1 n c1] w fun e w' => e = .returned (.bool true) ∧ Below w.heap.size w w' := by
  subst hn
  exact (stilemanref19_Same.calls (l.length + 1) A0 c0 l A1 c1 l true w C0 m0 C1 m1 (same_f l hl)).mono fun _ _ h => ⟨h.1, h.2.below⟩
/-- starve.Script's answer, in the reference's kind. -/
def Answer (kind rounds : Int) (l : List S122) (n : Nat) (er : Int) : Prop :=
  l.length = n ∧ n ≤ 1000000 ∧ (∃ k, stilemanref25_Script.f k kind rounds = some (l, er)) ∧ ∀ w : World, Calls Try.prog 57 #[.int .i64 kind, .int .i64 rounds] w fun e w' => ∃ A c, e = .returned (.tuple #[.slice A n c, .int .i64 er]) ∧ n ≤ c ∧ Kd.C k122 w' A l.length l ∧ Below w.heap.size w w'
theorem answer (kind rounds : Int) : ∃ l n er, Answer kind rounds l n er := by
  by_cases h5 : kind = 5
  · subst h5
    by_cases hr : 0 ≤ rounds ∧ rounds ≤ 1000
    · obtain ⟨k, rfl⟩ := Int.eq_ofNat_of_zero_le hr.1
      have hk : k ≤ 1000 := by omega
      refine ⟨(script5 k).map mkP, (script5 k).length, 0, List.length_map .., by rw [script5_len]; omega, ⟨_, ref5 k hk⟩, fun w => (script5_walk k hk w).mono ?_⟩
      rintro e w1 ⟨A, c, rfl, hm, hC, hB⟩
      exact ⟨A, c, rfl, hm, C_mkP hC, hB⟩
    · refine ⟨[], 0, 2, rfl, by decide, ⟨_, ref_range 5 rounds (.inl rfl) hr⟩, fun w => (script5_bad rounds hr w).mono ?_⟩
      rintro e w1 ⟨rfl, hB⟩
      exact ⟨none, 0, rfl, Nat.le_refl _, Kd.C_nil k122 w1, hB⟩
  · by_cases h6 : kind = 6
    · subst h6
      by_cases hr : 0 ≤ rounds ∧ rounds ≤ 1000
      · obtain ⟨k, rfl⟩ := Int.eq_ofNat_of_zero_le hr.1
        have hk : k ≤ 1000 := by omega
        refine ⟨(script6 k).map mkP, (script6 k).length, 0, List.length_map .., by rw [script6_len]; omega, ⟨_, ref6 k hk⟩, fun w => (script6_walk k hk w).mono ?_⟩
        rintro e w1 ⟨A, c, rfl, hm, hC, hB⟩
        exact ⟨A, c, rfl, hm, C_mkP hC, hB⟩
      · refine ⟨[], 0, 2, rfl, by decide, ⟨_, ref_range 6 rounds (.inr rfl) hr⟩, fun w => (script6_bad rounds hr w).mono ?_⟩
        rintro e w1 ⟨rfl, hB⟩
        exact ⟨none, 0, rfl, Nat.le_refl _, Kd.C_nil k122 w1, hB⟩
    · refine ⟨[], 0, 3, rfl, by decide, ⟨_, ref_none kind rounds h5 h6⟩, fun w => (script_none kind rounds h5 h6 w).mono ?_⟩
      rintro e w1 ⟨rfl, hB⟩
      exact ⟨none, 0, rfl, Nat.le_refl _, Kd.C_nil k122 w1, hB⟩
theorem awake (w : World) : Calls Try.prog 60 #[] w fun e w' => e = .returned (.bool true) ∧ Below w.heap.size w w' := by
  have h1 := script5_walk 0 (by decide) w
  have h2 : (script5 0).length = 38 := by rw [script5_len]
  rw [h2] at h1
  replace h1 := Lib.hid h1
  clear h2
  go_enter Try.func60, Try.ntmps60
  go_wp2_with (go_at_call 57; refine h1.out.mono ?_; clear h1; rintro e w1 ⟨A, c, rfl, hm, hC, hB⟩; replace hB := Lib.hid hB; clear hm hC)
  go_ret
  exact ⟨rfl, hB.out⟩
set_option maxHeartbeats 1000000 in
theorem scripts_walk (kind rounds : Int) (w : World) : Calls Try.prog 13 #[.int .i64 kind, .int .i64 rounds] w fun e w' => e = .returned (.bool true) ∧ Below w.heap.size w w' := by
  obtain ⟨l, n, er, hn, hl, ⟨k, hf⟩, hw⟩ := answer kind rounds
  replace hn := Lib.hid hn
  replace hf := Lib.hid hf
  replace hw := Lib.hid hw
  go_enter Try.func13, Try.ntmps13
  go_wp2_with (first
    | (go_at_call 57; refine (hw.out _).mono ?_; clear hw; rintro e w1 ⟨A1, c1, rfl, hm1, hC1, hB1⟩; replace hm1 := Lib.hid hm1; replace hC1 := Lib.hid hC1; replace hB1 := Lib.hid hB1)
    | (go_at_call 58; refine (ref_walk kind rounds l n er k hf.out hn.out _).mono ?_; rintro e w2 ⟨A2, c2, rfl, hm2, hC2, hB2⟩; replace hm2 := Lib.hid hm2; replace hC2 := Lib.hid hC2; replace hC1 := Lib.hid (Kd.C_below hC1.out hB2); replace hB2 := Lib.hid (below_then hB1.out hB1.out.size hB2))
    | (go_at_call 59; refine (same_walk A1 A2 c1 c2 n l hn.out hl hm1.out hm2.out hC1.out hC2.out).mono ?_; rintro e w3 ⟨rfl, hB3⟩; replace hB3 := Lib.hid (below_then hB2.out hB2.out.size hB3))
    | (go_at_call 60; refine (awake _).mono ?_; rintro e w9 ⟨rfl, hB9⟩; replace hB9 := Lib.hid (below_then hB3.out hB3.out.size hB9)))
  go_ret
  exact ⟨rfl, hB9.out⟩
end Go.Proofs.Ytgbofijdjgpgeaa.Stv
