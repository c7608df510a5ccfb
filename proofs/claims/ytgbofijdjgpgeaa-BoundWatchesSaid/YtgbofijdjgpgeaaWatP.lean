/- What a watch tells of any events is what the reference says: in plain terms. -/
import Derived.Test.YtgbofijdjgpgeaaWatL
import Derived.Test.YtgbofijdjgpgeaaPBoundWatchesx3
namespace Go.Proofs.Ytgbofijdjgpgeaa.Wat
open Go.RowKit Go.Proofs.YtgbofijdjgpgeaaW.PrintWords Go.Proofs.YtgbofijdjgpgeaaW.PrintMore Go.Proofs.YtgbofijdjgpgeaaW.PrintLast Go.Proofs.Ytgbofijdjgpgeaa.PBoundWatches
set_option linter.unusedSimpArgs false

abbrev Ev := Bool × (Int × Int × Int × Int × Int) × List Nt
abbrev mkN (x : Nt) : S98 := ⟨x.1, x.2.1, x.2.2.1, x.2.2.2⟩
abbrev mkE (e : Ev) : S80 := ⟨e.1, ⟨e.2.1.1, e.2.1.2.1, e.2.1.2.2.1, e.2.1.2.2.2.1, e.2.1.2.2.2.2⟩, e.2.2.map mkN⟩

/-! ### The watch, event by event -/
def evS (n : Nat) : Nat → List Ev → Sg → Sg
  | _, [], s => s
  | k, e :: l, s => evS n (k + 1) l (e.2.2.foldl (noteS ((k : Int) + 1) n) s)

/-! ### The reference -/
def callB (x : Nt) : Bool := x.2.1 == 1 && (x.2.2.1 == 1 || x.2.2.1 == 3)
def skipB (task : Int) (x : Nt) : Bool := !(x.1 == task) || (!callB x && x.2.1 != 11)
def noteR (i task op : Int) (st : Int × Int) (x : Nt) : Int × Int :=
  if skipB task x = true then st else (if st.2 ≥ 0 then mx st.1 (wrap64 (i - st.2)) else st.1, if callB x = true ∧ x.2.2.1 = op then i else -1)
def evR (task op : Int) : Nat → List Ev → Int × Int → Int × Int
  | _, [], st => st
  | k, e :: l, st => evR task op (k + 1) l (e.2.2.foldl (noteR (k : Int) task op) st)
def endR (len : Int) (st : Int × Int) : Int × Int := if st.2 < 0 then (st.1, 0) else (mx st.1 (wrap64 (wrap64 (len - 1) - st.2)), wrap64 (wrap64 (len - 1) - st.2))

theorem rd_note (l : List Nt) (i : Nat) (x : Nt) (h : l[i]? = some x) : rd_T98 (l.map mkN) (i : Int) = mkN x := by
  unfold rd_T98
  rw [Int.toNat_natCast, List.getD_eq_getElem?_getD, List.getElem?_map, h]
  rfl
theorem rd_ev (l : List Ev) (i : Nat) (x : Ev) (h : l[i]? = some x) : rd_T80 (l.map mkE) (i : Int) = mkE x := by
  unfold rd_T80
  rw [Int.toNat_natCast, List.getD_eq_getElem?_getD, List.getElem?_map, h]
  rfl
theorem j3_step (k : Nat) (es : List S80) (task op lon opn i j : Int) (x : Nt) : stilemanref24_waits.j3 (k + 1) es task op lon opn i j (callB x) (skipB task x) x.1 x.2.1 x.2.2.1 x.2.2.2 = stilemanref24_waits.l1 k es task op (noteR i task op (lon, opn) x).1 (noteR i task op (lon, opn) x).2 i (wrap64 (j + 1)) := by
  rw [stilemanref24_waits.j3]
  unfold noteR
  cases skipB task x
  · by_cases h1 : opn ≥ 0
    · by_cases h2 : callB x = true
      · by_cases h3 : x.2.2.1 = op
        · simp [h1, h2, h3]
        · simp [h1, h2, h3]
      · simp [h1, h2]
    · by_cases h2 : callB x = true
      · by_cases h3 : x.2.2.1 = op
        · simp [h1, h2, h3]
        · simp [h1, h2, h3]
      · simp [h1, h2]
  · simp
theorem j2_step (k : Nat) (es : List S80) (task op lon opn i j : Int) (x : Nt) : stilemanref24_waits.j2 (k + 2) es task op lon opn i j (callB x) x.1 x.2.1 x.2.2.1 x.2.2.2 = stilemanref24_waits.l1 k es task op (noteR i task op (lon, opn) x).1 (noteR i task op (lon, opn) x).2 i (wrap64 (j + 1)) := by
  rw [stilemanref24_waits.j2, ← j3_step]
  unfold skipB
  by_cases h1 : x.1 = task
  · cases h2 : callB x
    · simp [h1]
    · simp [h1]
  · have hb : (x.1 == task) = false := by simpa using h1
    simp [h1, hb]
theorem l1_step (l : List Ev) (task op lon opn : Int) (i j : Nat) (e : Ev) (x : Nt) (k : Nat) (hi : l[i]? = some e) (hj : e.2.2[j]? = some x) (hb : e.2.2.length ≤ 1000000) :
    stilemanref24_waits.l1 (k + 3) (l.map mkE) task op lon opn i j = stilemanref24_waits.l1 k (l.map mkE) task op (noteR i task op (lon, opn) x).1 (noteR i task op (lon, opn) x).2 i ((j + 1 : Nat) : Int) := by
  have hil := (List.getElem?_eq_some_iff.1 hi).1
  have hjl := (List.getElem?_eq_some_iff.1 hj).1
  have hw : wrap64 ((j : Int) + 1) = ((j + 1 : Nat) : Int) := by unfold wrap64; omega
  rw [stilemanref24_waits.l1, if_pos (by omega), if_pos (by rw [List.length_map]; omega), rd_ev l i e hi]
  rw [if_pos (by show (j : Int) < ((e.2.2.map mkN).length : Int); rw [List.length_map]; omega), if_pos (by omega)]
  rw [show (mkE e).f2 = e.2.2.map mkN from rfl, rd_note _ j x hj, ← hw, ← j2_step]
  show (if x.2.1 = 1 then (if x.2.2.1 = 1 then _ else _) else _) = _
  unfold callB
  by_cases h1 : x.2.1 = 1
  · by_cases h2 : x.2.2.1 = 1
    · simp [h1, h2]
    · have hb2 : (x.2.2.1 == 1) = false := by simpa using h2
      simp [h1, h2, hb2]
  · have hb1 : (x.2.1 == 1) = false := by simpa using h1
    simp [h1, hb1]
theorem l1_run (l : List Ev) (task op : Int) (i : Nat) (e : Ev) (hi : l[i]? = some e) (hb : e.2.2.length ≤ 1000000) (hl : l.length ≤ 1000000) : ∀ (r j k : Nat) (st : Int × Int), j + r = e.2.2.length →
    stilemanref24_waits.l1 (3 * r + 1 + k) (l.map mkE) task op st.1 st.2 i j = stilemanref24_waits.l0 k (l.map mkE) task op ((e.2.2.drop j).foldl (noteR i task op) st).1 ((e.2.2.drop j).foldl (noteR i task op) st).2 ((i + 1 : Nat) : Int)
  | 0, j, k, st, hr => by
    have hil := (List.getElem?_eq_some_iff.1 hi).1
    have hw : wrap64 ((i : Int) + 1) = ((i + 1 : Nat) : Int) := by unfold wrap64; omega
    have e1 : 3 * 0 + 1 + k = k + 1 := by omega
    rw [e1, stilemanref24_waits.l1, if_pos (by omega), if_pos (by rw [List.length_map]; omega), rd_ev l i e hi]
    rw [if_neg (by show ¬ ((j : Int) < ((e.2.2.map mkN).length : Int)); rw [List.length_map]; omega), hw, List.drop_of_length_le (by omega)]
    rfl
  | r + 1, j, k, st, hr => by
    obtain ⟨x, hx⟩ : ∃ x, e.2.2[j]? = some x := ⟨_, List.getElem?_eq_getElem (by omega)⟩
    have e1 : 3 * (r + 1) + 1 + k = (3 * r + 1 + k) + 3 := by omega
    rw [e1, l1_step l task op st.1 st.2 i j e x _ hi hx hb, l1_run l task op i e hi hb hl r (j + 1) k (noteR i task op (st.1, st.2) x) (by omega)]
    obtain ⟨hjl, hxe⟩ := List.getElem?_eq_some_iff.1 hx
    rw [List.drop_eq_getElem_cons hjl, hxe]
    rfl
def fuel : List Ev → Nat
  | [] => 1
  | e :: l => (3 * e.2.2.length + 1 + fuel l) + 1
theorem l0_run (l : List Ev) (task op : Int) (hb : ∀ e ∈ l, e.2.2.length ≤ 1000000) (hl : l.length ≤ 1000000) : ∀ (r i : Nat) (st : Int × Int), i + r = l.length →
    stilemanref24_waits.l0 (fuel (l.drop i)) (l.map mkE) task op st.1 st.2 i = some (endR l.length (evR task op i (l.drop i) st))
  | 0, i, st, hr => by
    rw [List.drop_of_length_le (by omega)]
    show (if (i : Int) < ((l.map mkE).length : Int) then _ else (if st.2 < 0 then some (st.1, 0) else some (mx st.1 (wrap64 (wrap64 (((l.map mkE).length : Int) - 1) - st.2)), wrap64 (wrap64 (((l.map mkE).length : Int) - 1) - st.2)))) = _
    rw [List.length_map, if_neg (by omega)]
    unfold endR evR
    split <;> rfl
  | r + 1, i, st, hr => by
    obtain ⟨e, he⟩ : ∃ e, l[i]? = some e := ⟨_, List.getElem?_eq_getElem (by omega)⟩
    obtain ⟨hil, hee⟩ := List.getElem?_eq_some_iff.1 he
    rw [List.drop_eq_getElem_cons hil, hee]
    show (if (i : Int) < ((l.map mkE).length : Int) then stilemanref24_waits.l1 (3 * e.2.2.length + 1 + fuel (l.drop (i + 1))) (l.map mkE) task op st.1 st.2 i 0 else _) = _
    rw [List.length_map, if_pos (by omega)]
    have := l1_run l task op i e he (hb e (List.mem_of_getElem? he)) hl e.2.2.length 0 (fuel (l.drop (i + 1))) st (by omega)
    rw [List.drop_zero] at this
    refine (this.trans ?_)
    rw [l0_run l task op hb hl r (i + 1) (e.2.2.foldl (noteR i task op) st) (by omega)]
    rfl
def told (l : List Ev) (task op : Int) : Int × Int := endR l.length (evR task op 0 l (0, -1))
theorem waits_f (l : List Ev) (task op : Int) (hb : ∀ e ∈ l, e.2.2.length ≤ 1000000) (hl : l.length ≤ 1000000) (k : Nat) (hk : fuel l ≤ k) : stilemanref24_waits.f k (l.map mkE) task op = some (told l task op) := by
  obtain ⟨d, rfl⟩ := Nat.exists_eq_add_of_le hk
  induction d with
  | zero => exact l0_run l task op hb hl l.length 0 (0, -1) (by omega)
  | succ d ih => exact (stilemanref24_waits.mono_l (fuel l + d)).1 _ _ _ _ _ _ _ (ih (by omega))

/-! ### The watch and the reference -/
def maxN (g : Nat → Int) : Nat → Int
  | 0 => 0
  | k + 1 => mx (maxN g k) (g k)
theorem mx_max (a b : Int) : mx a b = max a b := by unfold mx; split <;> omega
theorem maxN_nonneg (g : Nat → Int) : ∀ k, 0 ≤ maxN g k
  | 0 => Int.le_refl _
  | k + 1 => by
    have := maxN_nonneg g k
    simp only [maxN, mx_max]
    omega
theorem maxN_congr {g g' : Nat → Int} : ∀ k, (∀ t, t < k → g' t = g t) → maxN g' k = maxN g k
  | 0, _ => rfl
  | k + 1, h => by simp only [maxN, maxN_congr k (fun t ht => h t (by omega)), h k (by omega)]
theorem maxN_upd {g g' : Nat → Int} {T : Nat} {w : Int} (hne : ∀ t, t ≠ T → g' t = g t) (hT : g' T = mx (g T) w) : ∀ k, T < k → maxN g' k = mx (maxN g k) w
  | 0, h => absurd h (Nat.not_lt_zero _)
  | k + 1, h => by
    simp only [maxN]
    by_cases e : T = k
    · subst e
      rw [maxN_congr T (fun t ht => hne t (by omega)), hT]
      simp only [mx_max]
      omega
    · rw [maxN_upd hne hT k (by omega), hne k (Ne.symm e)]
      simp only [mx_max]
      omega
theorem maxN_mx (g h : Nat → Int) : ∀ k, maxN (fun t => mx (g t) (h t)) k = mx (maxN g k) (maxN h k)
  | 0 => rfl
  | k + 1 => by
    simp only [maxN, maxN_mx g h k]
    simp only [mx_max]
    omega
theorem maxN_zero : ∀ k, maxN (fun _ => 0) k = 0
  | 0 => rfl
  | k + 1 => by simp only [maxN, maxN_zero k]; rfl

structure Rel (n : Nat) (c : Int) (s : Sg) (R : Nat → Nat → Int × Int) : Prop where
  ok : Ok n s
  opn : ∀ t, t < n → ∀ op : Nat, op = 1 ∨ op = 3 → (R t op).2 = if s.o t = op then s.f t - 1 else -1
  frm : ∀ t, t < n → s.o t ≠ 0 → 1 ≤ s.f t ∧ s.f t ≤ c
  pos : ∀ t, t < n → ∀ op, 0 ≤ (R t op).1
  top : ∀ op : Nat, op = 1 ∨ op = 3 → s.L op = maxN (fun t => (R t op).1) n
theorem Rel.congr {n : Nat} {c : Int} {s : Sg} {R R' : Nat → Nat → Int × Int} (h : Rel n c s R) (he : ∀ t, t < n → ∀ op, (op = 1 ∨ op = 3) → R' t op = R t op) (hp : ∀ t, t < n → ∀ op, 0 ≤ (R' t op).1) : Rel n c s R' :=
  ⟨h.ok, fun t ht op ho => by rw [he t ht op ho]; exact h.opn t ht op ho, h.frm, hp, fun op ho => by rw [h.top op ho]; exact (maxN_congr n (fun t ht => by rw [he t ht op ho])).symm⟩
theorem Rel.more {n : Nat} {c c' : Int} {s : Sg} {R : Nat → Nat → Int × Int} (h : Rel n c s R) (hc : c ≤ c') : Rel n c' s R :=
  ⟨h.ok, h.opn, fun t ht ho => by have := h.frm t ht ho; omega, h.pos, h.top⟩
theorem wrap_id {x : Int} (h0 : -1000000000 ≤ x) (h1 : x ≤ 1000000000) : wrap64 x = x := by unfold wrap64; omega
theorem Rel.ends {n : Nat} {c : Int} {s : Sg} {R : Nat → Nat → Int × Int} (h : Rel n c s R) (hc : c ≤ 1000000) (T : Nat) (hT : T < n) :
    Rel n c (endS c n T s) (fun t op => if t = T then (if (R T op).2 ≥ 0 then mx (R T op).1 (wrap64 (c - 1 - (R T op).2)) else (R T op).1, -1) else R t op) := by
  have hw : s.o T ≠ 0 → waitv c s.o s.f n (T : Int) = c - s.f T := by
    intro h0
    have := h.frm T hT h0
    unfold waitv
    rw [Int.toNat_natCast, if_pos ⟨by omega, by omega, h0⟩, wrap_id (by omega) (by omega)]
  refine ⟨h.ok.ends, fun t ht op ho => ?_, fun t ht h0 => ?_, fun t ht op => ?_, fun op ho => ?_⟩
  · by_cases e : t = T
    · subst e
      simp only [endS, upd, if_pos]
      rw [if_neg (by rcases ho with rfl | rfl <;> decide)]
    · simp only [endS, upd, if_neg e]
      exact h.opn t ht op ho
  · by_cases e : t = T
    · subst e
      simp [endS, upd] at h0
    · simp only [endS, upd, if_neg e] at h0 ⊢
      exact h.frm t ht h0
  · by_cases e : t = T
    · subst e
      simp only [if_pos]
      have := h.pos t ht op
      split
      · show 0 ≤ mx _ _
        rw [mx_max]; omega
      · exact this
    · simp only [if_neg e]
      exact h.pos t ht op
  · show endL c s.L s.o s.f n T op = _
    unfold endL
    have hop := h.opn T hT op ho
    by_cases e : s.o T = (op : Int)
    · have h0 : s.o T ≠ 0 := by rw [e]; rcases ho with rfl | rfl <;> decide
      have hf := h.frm T hT h0
      rw [if_pos e] at hop
      rw [e, Int.toNat_natCast]
      simp only [upd, if_pos]
      rw [hw h0, h.top op ho]
      refine (maxN_upd (g := fun t => (R t op).1) (T := T) (w := c - s.f T) (fun t ht => by simp only [if_neg ht]) ?_ n hT).symm
      simp only [if_pos]
      rw [if_pos (by rw [hop]; omega), hop, wrap_id (by omega) (by omega)]
      have : c - 1 - (s.f T - 1) = c - s.f T := by omega
      rw [this]
    · rw [if_neg e] at hop
      have hne : op ≠ (s.o T).toNat := by
        intro e2
        rcases h.ok T hT with h0 | h0 | h0 <;> rw [h0] at e2 e <;> simp at e2 <;> subst e2 <;> simp at e ho
      simp only [upd, if_neg hne]
      rw [h.top op ho]
      refine (maxN_congr n (fun t ht => ?_)).symm
      by_cases e3 : t = T
      · subst e3
        simp only [if_pos]
        rw [if_neg (by rw [hop]; decide)]
      · simp only [if_neg e3]
theorem Rel.call {n : Nat} {c : Int} {s : Sg} {R : Nat → Nat → Int × Int} (h : Rel n c s R) (hc : 1 ≤ c) (T : Nat) (hT : T < n) (h0 : s.o T = 0) (q : Int) (hq : q = 1 ∨ q = 3) :
    Rel n c ⟨s.L, upd s.o T q, upd s.f T c⟩ (fun t op => if t = T then ((R T op).1, if q = op then c - 1 else -1) else R t op) := by
  refine ⟨fun t ht => ?_, fun t ht op ho => ?_, fun t ht h1 => ?_, fun t ht op => ?_, fun op ho => ?_⟩
  · by_cases e : t = T
    · subst e
      simp only [upd, if_pos]
      rcases hq with h | h <;> simp [h]
    · simp only [upd, if_neg e]
      exact h.ok t ht
  · by_cases e : t = T
    · subst e
      simp only [upd, if_pos]
    · simp only [upd, if_neg e]
      exact h.opn t ht op ho
  · by_cases e : t = T
    · subst e
      simp only [upd, if_pos]
      omega
    · simp only [upd, if_neg e] at h1 ⊢
      exact h.frm t ht h1
  · by_cases e : t = T
    · subst e
      simp only [if_pos]
      exact h.pos t ht op
    · simp only [if_neg e]
      exact h.pos t ht op
  · show s.L op = _
    rw [h.top op ho]
    refine (maxN_congr n (fun t ht => ?_)).symm
    by_cases e : t = T
    · subst e
      simp only [if_pos]
    · simp only [if_neg e]
theorem noteR_pos {i task op : Int} {st : Int × Int} (h : 0 ≤ st.1) (x : Nt) : 0 ≤ (noteR i task op st x).1 := by
  unfold noteR
  split
  · exact h
  · show 0 ≤ (if st.2 ≥ 0 then mx st.1 (wrap64 (i - st.2)) else st.1)
    split
    · rw [mx_max]; omega
    · exact h
theorem skip_self (x : Nt) (T : Nat) (h : x.1 = (T : Int)) : skipB (T : Int) x = (!callB x && x.2.1 != 11) := by
  unfold skipB
  rw [h]
  simp
theorem skip_other (x : Nt) (t : Nat) (h : x.1 ≠ (t : Int)) : skipB (t : Int) x = true := by
  unfold skipB
  have : (x.1 == (t : Int)) = false := by simpa using h
  rw [this]
  rfl
theorem callB_iff (x : Nt) : callB x = true ↔ x.2.1 = 1 ∧ (x.2.2.1 = 1 ∨ x.2.2.1 = 3) := by
  unfold callB
  simp
theorem Rel.note {n : Nat} {c : Int} {s : Sg} {R : Nat → Nat → Int × Int} (h : Rel n c s R) (hc1 : 1 ≤ c) (hc : c ≤ 1000000) (x : Nt) : Rel n c (noteS c n s x) (fun t op => noteR (c - 1) (t : Int) op (R t op) x) := by
  have hp : ∀ t, t < n → ∀ op : Nat, 0 ≤ (noteR (c - 1) (t : Int) op (R t op) x).1 := fun t ht op => noteR_pos (h.pos t ht op) x
  by_cases hin : 0 ≤ x.1 ∧ x.1 < n
  · obtain ⟨T, hTx⟩ := Int.eq_ofNat_of_zero_le hin.1
    have hT : T < n := by omega
    have hoth : ∀ t, t ≠ T → ∀ op : Nat, noteR (c - 1) (t : Int) op (R t op) x = R t op := fun t ht op => by
      unfold noteR
      rw [skip_other x t (by omega), if_pos rfl]
    have hself : ∀ op : Nat, noteR (c - 1) (T : Int) op (R T op) x = if (!callB x && x.2.1 != 11) = true then R T op else (if (R T op).2 ≥ 0 then mx (R T op).1 (wrap64 (c - 1 - (R T op).2)) else (R T op).1, if callB x = true ∧ x.2.2.1 = (op : Int) then c - 1 else -1) := fun op => by
      unfold noteR
      rw [skip_self x T hTx]
    unfold noteS
    rw [if_pos hin, hTx, Int.toNat_natCast]
    by_cases h11 : x.2.1 = 11
    · rw [if_pos h11]
      have hcb : callB x = false := by
        cases hx : callB x
        · rfl
        · have := ((callB_iff x).1 hx).1
          omega
      refine (h.ends hc T hT).congr (fun t ht op ho => ?_) hp
      by_cases e : t = T
      · subst e
        rw [if_pos rfl, hself, hcb, h11]
        simp
      · rw [if_neg e, hoth t e]
    · rw [if_neg h11]
      by_cases hcall : x.2.1 = 1 ∧ (x.2.2.1 = 1 ∨ x.2.2.1 = 3)
      · rw [if_pos hcall]
        have hcb := (callB_iff x).2 hcall
        have h0 : (endS c n T s).o T = 0 := by simp [endS, upd]
        refine ((h.ends hc T hT).call hc1 T hT h0 x.2.2.1 hcall.2).congr (fun t ht op ho => ?_) hp
        by_cases e : t = T
        · subst e
          rw [if_pos rfl, if_pos rfl, hself, hcb]
          simp
        · rw [if_neg e, if_neg e, hoth t e]
      · rw [if_neg hcall]
        have hcb : callB x = false := by
          cases hx : callB x
          · rfl
          · exact absurd ((callB_iff x).1 hx) hcall
        refine h.congr (fun t ht op ho => ?_) hp
        by_cases e : t = T
        · subst e
          have hb : (x.2.1 != 11) = true := by simpa using h11
          rw [hself, hcb, hb]
          rfl
        · exact hoth t e op
  · have he : noteS c n s x = s := if_neg hin
    rw [he]
    refine h.congr (fun t ht op ho => ?_) hp
    unfold noteR
    rw [skip_other x t (by omega), if_pos rfl]
theorem Rel.notes {n : Nat} {c : Int} (hc1 : 1 ≤ c) (hc : c ≤ 1000000) : ∀ (l : List Nt) {s : Sg} {R : Nat → Nat → Int × Int}, Rel n c s R → Rel n c (l.foldl (noteS c n) s) (fun t op => l.foldl (noteR (c - 1) (t : Int) op) (R t op))
  | [], _, _, h => h
  | x :: l, _, _, h => Rel.notes hc1 hc l (h.note hc1 hc x)
theorem Rel.evs {n : Nat} : ∀ (l : List Ev) (k : Nat) {s : Sg} {R : Nat → Nat → Int × Int}, k + l.length ≤ 1000000 → Rel n k s R → Rel n ((k + l.length : Nat) : Int) (evS n k l s) (fun t op => evR (t : Int) op k l (R t op))
  | [], k, _, _, _, h => h
  | e :: l, k, s, R, hk, h => by
    rw [List.length_cons] at hk
    have h1 := Rel.notes (n := n) (c := (k : Int) + 1) (by omega) (by omega) e.2.2 (h.more (by omega))
    have e1 : (k : Int) + 1 - 1 = k := by omega
    rw [e1] at h1
    have h2 := Rel.evs l (k + 1) (by omega) (s := e.2.2.foldl (noteS ((k : Int) + 1) n) s) (R := fun t op => e.2.2.foldl (noteR (k : Int) (t : Int) op) (R t op)) h1
    have e2 : k + 1 + l.length = k + (e :: l).length := by rw [List.length_cons]; omega
    rw [e2] at h2
    exact h2
theorem rel_all (n : Nat) (l : List Ev) (hl : l.length ≤ 1000000) : Rel n l.length (evS n 0 l ⟨fun _ => 0, fun _ => 0, fun _ => 0⟩) (fun t op => evR (t : Int) op 0 l (0, -1)) := by
  have h0 : Rel n ((0 : Nat) : Int) ⟨fun _ => 0, fun _ => 0, fun _ => 0⟩ (fun _ _ => (0, -1)) := by
    refine ⟨fun _ _ => .inl rfl, fun t _ op ho => ?_, fun t _ h => absurd rfl h, fun _ _ _ => Int.le_refl _, fun _ _ => (maxN_zero n).symm⟩
    rw [if_neg (show ¬ ((0 : Int) = (op : Int)) by omega)]
  have := Rel.evs l 0 (by omega) h0
  rw [Nat.zero_add] at this
  exact this

/-- How long a task waits with an operation. -/
def wv (c : Int) (s : Sg) (op t : Nat) : Int := if s.o t = (op : Int) then c - s.f t else 0
theorem told_eq (n : Nat) (l : List Ev) (hl : l.length ≤ 1000000) (t op : Nat) (ht : t < n) (ho : op = 1 ∨ op = 3) :
    told l t op = (mx (evR (t : Int) op 0 l (0, -1)).1 (wv l.length (evS n 0 l ⟨fun _ => 0, fun _ => 0, fun _ => 0⟩) op t), wv l.length (evS n 0 l ⟨fun _ => 0, fun _ => 0, fun _ => 0⟩) op t) := by
  have h := rel_all n l hl
  have hop := h.opn t ht op ho
  have hpos := h.pos t ht op
  unfold told endR wv
  by_cases e : (evS n 0 l ⟨fun _ => 0, fun _ => 0, fun _ => 0⟩).o t = (op : Int)
  · have hf := h.frm t ht (by rw [e]; rcases ho with rfl | rfl <;> decide)
    rw [if_pos e] at hop
    rw [if_pos e, if_neg (by rw [hop]; omega), hop, wrap_id (x := (l.length : Int) - 1) (by omega) (by omega), wrap_id (by omega) (by omega)]
    have : (l.length : Int) - 1 - ((evS n 0 l ⟨fun _ => 0, fun _ => 0, fun _ => 0⟩).f t - 1) = l.length - (evS n 0 l ⟨fun _ => 0, fun _ => 0, fun _ => 0⟩).f t := by omega
    rw [this]
  · rw [if_neg e] at hop
    rw [if_neg e, if_pos (by rw [hop]; decide)]
    have : mx (evR (t : Int) op 0 l (0, -1)).1 0 = (evR (t : Int) op 0 l (0, -1)).1 := by
      rw [mx_max]
      exact Int.max_eq_left hpos
    rw [this]
theorem waitv_eq (n : Nat) (l : List Ev) (hl : l.length ≤ 1000000) (t : Nat) (ht : t < n) : waitv l.length (evS n 0 l ⟨fun _ => 0, fun _ => 0, fun _ => 0⟩).o (evS n 0 l ⟨fun _ => 0, fun _ => 0, fun _ => 0⟩).f n (t : Int) = wv l.length (evS n 0 l ⟨fun _ => 0, fun _ => 0, fun _ => 0⟩) 1 t + wv l.length (evS n 0 l ⟨fun _ => 0, fun _ => 0, fun _ => 0⟩) 3 t := by
  have h := rel_all n l hl
  unfold waitv wv
  rw [Int.toNat_natCast]
  rcases h.ok t ht with e | e | e
  · rw [if_neg (fun k => k.2.2 e), e]; rfl
  · have hf := h.frm t ht (by rw [e]; decide)
    rw [if_pos ⟨by omega, by omega, by rw [e]; decide⟩, e, wrap_id (by omega) (by omega)]
    simp
  · have hf := h.frm t ht (by rw [e]; decide)
    rw [if_pos ⟨by omega, by omega, by rw [e]; decide⟩, e, wrap_id (by omega) (by omega)]
    simp
theorem byv_eq (n : Nat) (l : List Ev) (hl : l.length ≤ 1000000) (op : Nat) (ho : op = 1 ∨ op = 3) (s : Sg) (hs : s = evS n 0 l ⟨fun _ => 0, fun _ => 0, fun _ => 0⟩) : ∀ k, k ≤ n → byv l.length s.L s.o s.f n k op = mx (s.L op) (maxN (wv l.length s op) k)
  | 0, _ => by
    have h := rel_all n l hl
    have : 0 ≤ s.L op := by rw [hs, h.top op ho]; exact maxN_nonneg _ n
    show s.L op = mx (s.L op) 0
    rw [mx_max]
    exact (Int.max_eq_left this).symm
  | k + 1, hk => by
    have h := rel_all n l hl
    have ih := byv_eq n l hl op ho s hs k (by omega)
    have hw := waitv_eq n l hl k (by omega)
    rw [← hs] at hw h
    show upd (byv l.length s.L s.o s.f n k) (s.o k).toNat (mx (byv l.length s.L s.o s.f n k (s.o k).toNat) (waitv l.length s.o s.f n (k : Int))) op = mx (s.L op) (mx (maxN (wv l.length s op) k) (wv l.length s op k))
    have hn := maxN_nonneg (wv l.length s op) k
    by_cases e : s.o k = (op : Int)
    · rw [e, Int.toNat_natCast, hw]
      simp only [upd, if_pos]
      rw [ih]
      have : wv l.length s 1 k + wv l.length s 3 k = wv l.length s op k := by
        unfold wv
        rw [e]
        rcases ho with rfl | rfl <;> simp
      rw [this]
      simp only [mx_max]
      omega
    · have hne : op ≠ (s.o k).toNat := by
        intro e2
        rcases h.ok k (by omega) with h0 | h0 | h0 <;> rw [h0] at e2 e <;> simp at e2 <;> subst e2 <;> simp at e ho
      simp only [upd, if_neg hne]
      rw [ih]
      have : wv l.length s op k = 0 := if_neg e
      rw [this]
      simp only [mx_max]
      omega
theorem long_is (n : Nat) (l : List Ev) (hl : l.length ≤ 1000000) (op : Nat) (ho : op = 1 ∨ op = 3) (s : Sg) (hs : s = evS n 0 l ⟨fun _ => 0, fun _ => 0, fun _ => 0⟩) : byv l.length s.L s.o s.f n n op = maxN (fun t => (told l t op).1) n := by
  have h := rel_all n l hl
  rw [byv_eq n l hl op ho s hs n (Nat.le_refl _), hs, h.top op ho, ← maxN_mx]
  exact (maxN_congr n (fun t ht => by rw [told_eq n l hl t op ht ho])).symm
theorem Longest_l (l : List Ev) (hb : ∀ e ∈ l, e.2.2.length ≤ 1000000) (hl : l.length ≤ 1000000) (n : Nat) (hn : n ≤ 1000000) (cl : Int) : ∀ (r i k : Nat) (best : Int), i + r = n → r + fuel l + 1 ≤ k →
    best = (if cl = 1 then maxN (fun t => (told l t 1).1) i else if cl = 2 then maxN (fun t => (told l t 3).1) i else maxN (fun t => mx (told l t 1).1 (told l t 3).1) i) →
    stilemanref24_Longest.l0 k (l.map mkE) n cl best i = some (if cl = 1 then maxN (fun t => (told l t 1).1) n else if cl = 2 then maxN (fun t => (told l t 3).1) n else maxN (fun t => mx (told l t 1).1 (told l t 3).1) n)
  | 0, i, k + 1, best, hr, hk, hbest => by
    rw [stilemanref24_Longest.l0, if_neg (by omega), hbest]
    have : i = n := by omega
    rw [this]
  | r + 1, i, k + 1, best, hr, hk, hbest => by
    have hw : wrap64 ((i : Int) + 1) = ((i + 1 : Nat) : Int) := by unfold wrap64; omega
    rw [stilemanref24_Longest.l0, if_pos (by omega), waits_f l i 1 hb hl k (by omega), Option.bind_some, waits_f l i 3 hb hl k (by omega), Option.bind_some, hw]
    by_cases h2 : cl = 2
    · rw [if_pos h2, if_neg (by omega)]
      refine Longest_l l hb hl n hn cl r (i + 1) k _ (by omega) (by omega) ?_
      rw [hbest, if_neg (by omega), if_pos h2, if_neg (by omega), if_pos h2]
      rfl
    · rw [if_neg h2]
      by_cases h1 : cl = 1
      · rw [if_pos h1]
        refine Longest_l l hb hl n hn cl r (i + 1) k _ (by omega) (by omega) ?_
        rw [hbest, if_pos h1, if_pos h1]
        rfl
      · rw [if_neg h1]
        refine Longest_l l hb hl n hn cl r (i + 1) k _ (by omega) (by omega) ?_
        rw [hbest, if_neg h1, if_neg h2, if_neg h1, if_neg h2]
        simp only [maxN, mx_max]
        omega
theorem Longest_f (l : List Ev) (hb : ∀ e ∈ l, e.2.2.length ≤ 1000000) (hl : l.length ≤ 1000000) (n : Nat) (hn : n ≤ 1000000) (cl : Int) (s : Sg) (hs : s = evS n 0 l ⟨fun _ => 0, fun _ => 0, fun _ => 0⟩) : stilemanref24_Longest.f (n + fuel l + 1) (l.map mkE) n cl = some (longv l.length s.L s.o s.f n cl) := by
  have := Longest_l l hb hl n hn cl n 0 (n + fuel l + 1) 0 (by omega) (by omega) (by split; · rfl
                                                                                     · split <;> rfl)
  refine this.trans (congrArg some ?_)
  unfold longv
  rw [long_is n l hl 1 (.inl rfl) s hs, long_is n l hl 3 (.inr rfl) s hs, ← maxN_mx]
  rfl
theorem Waiting_f (l : List Ev) (hb : ∀ e ∈ l, e.2.2.length ≤ 1000000) (hl : l.length ≤ 1000000) (n : Nat) (t : Int) (s : Sg) (hs : s = evS n 0 l ⟨fun _ => 0, fun _ => 0, fun _ => 0⟩) : stilemanref24_Waiting.f (fuel l + 1) (l.map mkE) n t = some (waitv l.length s.o s.f n t) := by
  unfold stilemanref24_Waiting.f
  by_cases h0 : t < 0
  · rw [if_pos h0, stilemanref24_Waiting.j0, if_pos rfl]
    exact congrArg some (if_neg (by omega)).symm
  · rw [if_neg h0, stilemanref24_Waiting.j0]
    by_cases h1 : t ≥ n
    · rw [if_pos (by simpa using h1)]
      exact congrArg some (if_neg (by omega)).symm
    · rw [if_neg (by simpa using h1), waits_f l t 1 hb hl _ (Nat.le_refl _), Option.bind_some, waits_f l t 3 hb hl _ (Nat.le_refl _), Option.bind_some]
      obtain ⟨q, rfl⟩ := Int.eq_ofNat_of_zero_le (show 0 ≤ t by omega)
      have e1 := told_eq n l hl q 1 (by omega) (.inl rfl)
      have e3 := told_eq n l hl q 3 (by omega) (.inr rfl)
      rw [← hs] at e1 e3
      have hw := waitv_eq n l hl q (by omega)
      rw [← hs] at hw
      rw [hw]
      have hr := rel_all n l hl
      rw [← hs] at hr
      show some (wrap64 ((told l (q : Int) ((1 : Nat) : Int)).2 + (told l (q : Int) ((3 : Nat) : Int)).2)) = _
      rw [e1, e3]
      refine congrArg some (wrap_id ?_ ?_)
      · show -1000000000 ≤ wv l.length s 1 q + wv l.length s 3 q
        unfold wv
        rcases hr.ok q (by omega) with e | e | e
        · rw [e]; simp
        · have := hr.frm q (by omega) (by rw [e]; decide)
          rw [e]
          simp
          omega
        · have := hr.frm q (by omega) (by rw [e]; decide)
          rw [e]
          simp
          omega
      · show wv l.length s 1 q + wv l.length s 3 q ≤ 1000000000
        unfold wv
        rcases hr.ok q (by omega) with e | e | e
        · rw [e]; simp
        · have := hr.frm q (by omega) (by rw [e]; decide)
          rw [e]
          simp
          omega
        · have := hr.frm q (by omega) (by rw [e]; decide)
          rw [e]
          simp
          omega
end Go.Proofs.Ytgbofijdjgpgeaa.Wat
