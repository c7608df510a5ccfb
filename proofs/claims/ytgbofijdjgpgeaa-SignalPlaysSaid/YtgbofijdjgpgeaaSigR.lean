/- The four boxes and the four reference boxes of SignalPlays: what each call does to them. -/
import Derived.Test.YtgbofijdjgpgeaaSigP
import Derived.Test.YtgbofijdjgpgeaaWWords
import Derived.Deep.DeepMust
namespace Go.Proofs.Ytgbofijdjgpgeaa.Sig
open Go.RowKit Go.Conc Go.Proofs.YtgbofijdjgpgeaaW.PrintWords

def upd {α : Type} (f : Nat → α) (k : Nat) (v : α) : Nat → α := fun i => if i = k then v else f i
theorem upd_at {α : Type} (f : Nat → α) (k : Nat) (v : α) : upd f k v k = v := by simp [upd]
theorem upd_ne {α : Type} (f : Nat → α) (k i : Nat) (v : α) (h : i ≠ k) : upd f k v i = f i := by simp [upd, h]

/-- Every block of cells that is no [4]Box stands. -/
def Stay (w w' : World) : Prop := ∀ (b : Nat) (cells : Array Value) (t : TypeId), w.heap[b]? = some (.cells cells t (0, 0)) → t ≠ 48 → w'.heap[b]? = w.heap[b]?
theorem Stay.refl (w : World) : Stay w w := fun _ _ _ _ _ => rfl
theorem Stay.trans {w w1 w2 : World} (h : Stay w w1) (k : Stay w1 w2) : Stay w w2 := fun b cells t hc ht => (k b cells t ((h b cells t hc ht).trans hc) ht).trans (h b cells t hc ht)

structure J (W0 g : Nat) (bb cc : Nat → Nat) (ct cx : Nat → Option Int) (w : World) : Prop where
  row : ∃ cells, w.heap[g]? = some (.cells cells 49 (0, 0)) ∧ ∀ i, i < 4 → cells[i]? = some (.pointer (some ⟨bb i, 0, none⟩))
  box : ∀ i, i < 4 → Box w 61 (bb i) (cc i) ((ct i).map (.int .i64))
  low : ∀ i, i < 4 → W0 < cc i
  ne : ∀ i j, i < 4 → j < 4 → i ≠ j → cc i ≠ cc j
  arr : ∃ cells, w.heap[W0]? = some (.cells cells 48 (0, 0)) ∧ ∀ i, i < 4 → cells[i * 2]? = some (.bool (cx i).isSome) ∧ ∃ z, cells[i * 2 + 1]? = some (.int .i64 z) ∧ ∀ v, cx i = some v → v = z

section
variable {W0 g : Nat} {bb cc : Nat → Nat} {ct cx : Nat → Option Int} {w w' : World}

theorem Only.stay {c : Nat} (h : Only w w' c) {ct : Option Value} {b : Nat} (hb : Box w 61 b c ct) : Stay w w' := fun d cells t hc _ => by
  refine h.other d ?_
  rintro rfl
  obtain ⟨s, r, hk⟩ := hb.chan
  rw [hc] at hk
  cases hk

theorem J.cell (h : J W0 g bb cc ct cx w) (i : Nat) (hi : i < 4) : w.cell? ⟨g, i, none⟩ = some (.pointer (some ⟨bb i, 0, none⟩)) := by
  obtain ⟨cells, hc, hr⟩ := h.row
  simp [World.cell?, hc, hr i hi]

theorem J.only (h : J W0 g bb cc ct cx w) {k : Nat} (hk : k < 4) {c : Option Int} (ho : Only w w' (cc k)) (hb : Box w' 61 (bb k) (cc k) (c.map (.int .i64))) : J W0 g bb cc (upd ct k c) cx w' := by
  have hs := ho.stay (h.box k hk)
  refine ⟨?_, ?_, h.low, h.ne, ?_⟩
  · obtain ⟨cells, hc, hr⟩ := h.row
    exact ⟨cells, (hs g cells 49 hc (by decide)).trans hc, hr⟩
  · intro i hi
    by_cases e : i = k
    · subst e
      rw [upd_at]; exact hb
    · rw [upd_ne _ _ _ _ e]
      have hbi := h.box i hi
      refine hbi.of_blocks (hs _ _ _ hbi.cell (by decide)) (ho.other _ (h.ne i k hi hk e))
  · obtain ⟨cells, hc, hr⟩ := h.arr
    exact ⟨cells, (ho.other _ (Nat.ne_of_lt (h.low k hk))).trans hc, hr⟩

theorem J.put (h : J W0 g bb cc ct cx w) (k : Nat) (hk : k < 4) (x : Int) : Calls Try.prog 35 #[.pointer (some ⟨bb k, 0, none⟩), .int .i64 x] w fun e w' => e = .returned (.bool (ct k).isNone) ∧ J W0 g bb cc (upd ct k (some ((ct k).getD x))) cx w' ∧ Stay w w' ∧ Below W0 w w' := by
  refine (put_int x _ _ _ w (h.box k hk)).mono ?_
  rintro e w' ⟨rfl, hb, ho⟩
  refine ⟨by cases ct k <;> rfl, h.only hk ho ?_, ho.stay (h.box k hk), ho.below (Nat.le_of_lt (h.low k hk)) (Below.refl _ _)⟩
  cases hc : ct k <;> (rw [hc] at hb; exact hb)

theorem J.take (h : J W0 g bb cc ct cx w) (k : Nat) (hk : k < 4) : Calls Try.prog 37 #[.pointer (some ⟨bb k, 0, none⟩)] w fun e w' => e = .returned (.tuple #[.int .i64 ((ct k).getD 0), .bool (ct k).isSome]) ∧ J W0 g bb cc (upd ct k none) cx w' ∧ Stay w w' ∧ Below W0 w w' := by
  have hb := h.box k hk
  cases hc : ct k with
  | none =>
    rw [hc] at hb
    refine (take_int_empty _ _ w hb).mono ?_
    rintro e w' ⟨rfl, rfl⟩
    have : upd ct k none = ct := by
      funext i
      by_cases e : i = k
      · subst e; rw [upd_at, hc]
      · rw [upd_ne _ _ _ _ e]
    exact ⟨rfl, by rw [this]; exact h, .refl _, .refl _ _⟩
  | some x =>
    rw [hc] at hb
    refine (take_int_full x _ _ w hb).mono ?_
    rintro e w' ⟨rfl, hb', ho⟩
    exact ⟨rfl, h.only hk ho hb', ho.stay hb, ho.below (Nat.le_of_lt (h.low k hk)) (Below.refl _ _)⟩

theorem J.full (h : J W0 g bb cc ct cx w) (k : Nat) (hk : k < 4) : Calls Try.prog 40 #[.pointer (some ⟨bb k, 0, none⟩)] w fun e w' => e = .returned (.bool (ct k).isSome) ∧ w = w' := by
  refine (full_int _ _ _ w (h.box k hk)).mono ?_
  rintro e w' ⟨rfl, rfl⟩
  exact ⟨by cases ct k <;> rfl, rfl⟩

theorem J.acell (h : J W0 g bb cc ct cx w) (k : Nat) (hk : k < 4) : w.cell? ⟨W0, k * 2, none⟩ = some (.bool (cx k).isSome) ∧ w.frozen? ⟨W0, k * 2, none⟩ = false ∧ ∃ z, w.cell? ⟨W0, k * 2 + 1, none⟩ = some (.int .i64 z) ∧ w.frozen? ⟨W0, k * 2 + 1, none⟩ = false ∧ ∀ v, cx k = some v → v = z := by
  obtain ⟨cells, hc, hr⟩ := h.arr
  obtain ⟨h1, z, h2, h3⟩ := hr k hk
  exact ⟨by simp [World.cell?, hc, h1], by simp [World.frozen?, hc], z, by simp [World.cell?, hc, h2], by simp [World.frozen?, hc], h3⟩

theorem J.arrset (h : J W0 g bb cc ct cx w) {cells' : Array Value} (hw : w'.heap[W0]? = some (.cells cells' 48 (0, 0))) (ho : ∀ b, b ≠ W0 → w'.heap[b]? = w.heap[b]?) {cx' : Nat → Option Int}
    (ha : ∀ i, i < 4 → cells'[i * 2]? = some (.bool (cx' i).isSome) ∧ ∃ z, cells'[i * 2 + 1]? = some (.int .i64 z) ∧ ∀ v, cx' i = some v → v = z) : J W0 g bb cc ct cx' w' ∧ Stay w w' := by
  obtain ⟨cells0, hc0, _⟩ := h.arr
  have hs : Stay w w' := fun b cells t hc ht => ho b fun e => by
    subst e
    rw [hc0] at hc
    cases hc
    exact ht rfl
  refine ⟨⟨?_, ?_, h.low, h.ne, cells', hw, ha⟩, hs⟩
  · obtain ⟨cells, hc, hr⟩ := h.row
    exact ⟨cells, (hs g cells 49 hc (by decide)).trans hc, hr⟩
  · intro i hi
    have hbi := h.box i hi
    exact hbi.of_blocks (hs _ _ _ hbi.cell (by decide)) (ho _ (Nat.ne_of_gt (h.low i hi)))

theorem getElem?_set_ne' {α : Type} (a : Array α) (i j : Nat) (v : α) (h : i ≠ j) : (a.setIfInBounds i v)[j]? = a[j]? := Array.getElem?_setIfInBounds_ne h
theorem getElem?_set_at {α : Type} {a : Array α} {i : Nat} {u : α} (v : α) (h : a[i]? = some u) : (a.setIfInBounds i v)[i]? = some v := by
  rw [Array.getElem?_setIfInBounds_self_of_lt]
  exact (Array.getElem?_eq_some_iff.1 h).1

theorem setCell_block {w : World} {g t j : Nat} {cells : Array Value} {v : Value} (h : w.heap[g]? = some (.cells cells t (0, 0))) : (w.setCell ⟨g, j, none⟩ v).heap[g]? = some (.cells (cells.setIfInBounds j v) t (0, 0)) := by
  simp only [World.setCell, Array.getElem?_modify, h]
  rfl

theorem J.rput (h : J W0 g bb cc ct cx w) (k : Nat) (hk : k < 4) (x : Int) : Calls Try.prog 36 #[.pointer (some ⟨W0, k * 2, none⟩), .int .i64 x] w fun e w' => e = .returned (.bool (cx k).isNone) ∧ J W0 g bb cc ct (upd cx k (some ((cx k).getD x))) w' ∧ Stay w w' ∧ Below W0 w w' := by
  obtain ⟨h0, f0, z, h1, f1, hz⟩ := h.acell k hk
  cases hc : cx k with
  | some y =>
    rw [hc] at h0
    refine (rput_full _ _ x w h0).mono ?_
    rintro e w' ⟨rfl, rfl⟩
    have : upd cx k (some ((some y).getD x)) = cx := by
      funext i
      by_cases e : i = k
      · subst e; rw [upd_at, hc]; rfl
      · rw [upd_ne _ _ _ _ e]
    exact ⟨rfl, by rw [this]; exact h, .refl _, .refl _ _⟩
  | none =>
    rw [hc] at h0
    refine (rput_free _ _ x z w h0 h1 f0 f1).mono ?_
    rintro e w' ⟨rfl, rfl⟩
    obtain ⟨cells, hcl, hr⟩ := h.arr
    have b1 := setCell_block (j := k * 2) (v := .bool true) hcl
    have b2 := setCell_block (j := k * 2 + 1) (v := .int .i64 x) b1
    obtain ⟨hj, hs⟩ := h.arrset (cx' := upd cx k (some x)) b2 (fun b hb => by
      rw [Below.heap_setCell _ _ _ _ hb, Below.heap_setCell _ _ _ _ hb]) (fun i hi => by
      obtain ⟨a1, z1, a2, a3⟩ := hr i hi
      by_cases e : i = k
      · subst e
        rw [upd_at]
        refine ⟨?_, x, getElem?_set_at (u := .int .i64 z1) _ ?_, fun v hv => by cases hv; rfl⟩
        · rw [getElem?_set_ne' _ _ _ _ (by omega)]; exact getElem?_set_at _ a1
        · rw [getElem?_set_ne' _ _ _ _ (by omega)]; exact a2
      · rw [upd_ne _ _ _ _ e]
        refine ⟨?_, z1, ?_, a3⟩
        · rw [getElem?_set_ne' _ _ _ _ (by omega), getElem?_set_ne' _ _ _ _ (by omega)]; exact a1
        · rw [getElem?_set_ne' _ _ _ _ (by omega), getElem?_set_ne' _ _ _ _ (by omega)]; exact a2)
    exact ⟨rfl, hj, hs, ((Below.refl W0 w).setCell (p := ⟨W0, k * 2, none⟩) (Nat.le_refl W0) _).setCell (p := ⟨W0, k * 2 + 1, none⟩) (Nat.le_refl W0) _⟩

theorem J.rtake (h : J W0 g bb cc ct cx w) (k : Nat) (hk : k < 4) : Calls Try.prog 38 #[.pointer (some ⟨W0, k * 2, none⟩)] w fun e w' => e = .returned (.tuple #[.int .i64 ((cx k).getD 0), .bool (cx k).isSome]) ∧ J W0 g bb cc ct (upd cx k none) w' ∧ Stay w w' ∧ Below W0 w w' := by
  obtain ⟨h0, f0, z, h1, f1, hz⟩ := h.acell k hk
  cases hc : cx k with
  | none =>
    rw [hc] at h0
    refine (rtake_free _ _ w h0).mono ?_
    rintro e w' ⟨rfl, rfl⟩
    have : upd cx k none = cx := by
      funext i
      by_cases e : i = k
      · subst e; rw [upd_at, hc]
      · rw [upd_ne _ _ _ _ e]
    exact ⟨rfl, by rw [this]; exact h, .refl _, .refl _ _⟩
  | some y =>
    rw [hc] at h0
    obtain rfl := hz y hc
    refine (rtake_full _ _ y w h0 h1 f0).mono ?_
    rintro e w' ⟨rfl, rfl⟩
    obtain ⟨cells, hcl, hr⟩ := h.arr
    have b1 := setCell_block (j := k * 2) (v := .bool false) hcl
    obtain ⟨hj, hs⟩ := h.arrset (cx' := upd cx k none) b1 (fun b hb => by
      rw [Below.heap_setCell _ _ _ _ hb]) (fun i hi => by
      obtain ⟨a1, z1, a2, a3⟩ := hr i hi
      by_cases e : i = k
      · subst e
        rw [upd_at]
        exact ⟨getElem?_set_at _ a1, z1, by rw [getElem?_set_ne' _ _ _ _ (by omega)]; exact a2, fun v hv => by cases hv⟩
      · rw [upd_ne _ _ _ _ e]
        refine ⟨?_, z1, ?_, a3⟩
        · rw [getElem?_set_ne' _ _ _ _ (by omega)]; exact a1
        · rw [getElem?_set_ne' _ _ _ _ (by omega)]; exact a2)
    exact ⟨rfl, hj, hs, (Below.refl W0 w).setCell (p := ⟨W0, k * 2, none⟩) (Nat.le_refl W0) _⟩

theorem J.rtake0 (h : J W0 g bb cc ct cx w) (k : Nat) (hk : k < 4) (hc : cx k = none) : Calls Try.prog 38 #[.pointer (some ⟨W0, k * 2, none⟩)] w fun e w' => e = .returned (.tuple #[.int .i64 0, .bool false]) ∧ w = w' := by
  obtain ⟨h0, f0, z, h1, f1, hz⟩ := h.acell k hk
  rw [hc] at h0
  exact rtake_free _ _ w h0
theorem J.rtake1 (h : J W0 g bb cc ct cx w) (k : Nat) (hk : k < 4) {x : Int} (hc : cx k = some x) : Calls Try.prog 38 #[.pointer (some ⟨W0, k * 2, none⟩)] w fun e w' => e = .returned (.tuple #[.int .i64 x, .bool true]) ∧ J W0 g bb cc ct (upd cx k none) w' ∧ Below W0 w w' := by
  have := h.rtake k hk
  rw [hc] at this
  exact this.mono fun _ _ hh => ⟨hh.1, hh.2.1, hh.2.2.2⟩
theorem J.congr {cx' ct' : Nat → Option Int} (h : J W0 g bb cc ct cx w) (h1 : ∀ i, i < 4 → ct' i = ct i) (h2 : ∀ i, i < 4 → cx' i = cx i) : J W0 g bb cc ct' cx' w := by
  refine ⟨h.row, fun i hi => by rw [h1 i hi]; exact h.box i hi, h.low, h.ne, ?_⟩
  obtain ⟨cells, hc, hr⟩ := h.arr
  exact ⟨cells, hc, fun i hi => by rw [h2 i hi]; exact hr i hi⟩

/-- The first of four that is full; 4 where none is. -/
def firstOf (ct : Nat → Option Int) : Nat := if (ct 0).isSome then 0 else if (ct 1).isSome then 1 else if (ct 2).isSome then 2 else if (ct 3).isSome then 3 else 4
theorem firstOf_spec (ct : Nat → Option Int) : firstOf ct ≤ 4 ∧ (∀ i, i < firstOf ct → ct i = none) ∧ (firstOf ct < 4 → ∃ x, ct (firstOf ct) = some x) := by
  unfold firstOf
  cases h0 : ct 0 <;> cases h1 : ct 1 <;> cases h2 : ct 2 <;> cases h3 : ct 3 <;> simp <;> (try simp [*]) <;> (intro i hi) <;> (match i, hi with | 0, _ => simp [*] | 1, _ => simp_all | 2, _ => simp_all | 3, _ => simp_all)

theorem J.first (h : J W0 g bb cc ct cx w) (cap : Nat) : ∃ q at_ : Int, ∃ p : Bool, (∃ j, j ≤ 4 ∧ j = firstOf ct ∧ (j = 4 → q = 0 ∧ at_ = 0 ∧ p = false) ∧ (j < 4 → ct j = some q ∧ at_ = j ∧ p = true)) ∧ Calls Try.prog 39 #[.slice (some ⟨g, 0, none⟩) 4 cap] w fun e w' => e = .returned (.tuple #[.int .i64 q, .int .i64 at_, .bool p]) ∧ J W0 g bb cc (upd ct (firstOf ct) none) cx w' ∧ Stay w w' ∧ Below W0 w w' := by
  obtain ⟨hle, hb, hx⟩ := firstOf_spec ct
  generalize firstOf ct = j at *
  obtain ⟨L, hg⟩ : ∃ L : List Value, ∀ i, i < 4 → L.getD i undef = .pointer (some ⟨bb i, 0, none⟩) := ⟨[Value.pointer (some ⟨bb 0, 0, none⟩), .pointer (some ⟨bb 1, 0, none⟩), .pointer (some ⟨bb 2, 0, none⟩), .pointer (some ⟨bb 3, 0, none⟩)], fun i hi => by
    match i, hi with
    | 0, _ => rfl
    | 1, _ => rfl
    | 2, _ => rfl
    | 3, _ => rfl⟩
  have hL : ∀ i, i < 4 → w.cell? ⟨g, i, none⟩ = some (L.getD i undef) := by
    intro i hi
    rw [h.cell i hi, hg i hi]
  have hE : ∀ i, i < 4 → i < j → Calls Try.prog 37 #[L.getD i undef] w fun e w' => e = .returned (.tuple #[.int .i64 0, .bool false]) ∧ w = w' := by
    intro i hi hij
    have hbi := h.box i hi
    rw [hb i hij] at hbi
    rw [hg i hi]
    exact take_int_empty _ _ w hbi
  by_cases h4 : j = 4
  · subst h4
    refine ⟨0, 0, false, ⟨4, Nat.le_refl _, rfl, fun _ => ⟨rfl, rfl, rfl⟩, fun h => absurd h (by decide)⟩, ?_⟩
    refine (first_none g 4 cap _ w (by decide) hL (fun i hi => hE i hi hi)).mono ?_
    rintro e w' ⟨rfl, rfl⟩
    refine ⟨rfl, ⟨h.row, ?_, h.low, h.ne, h.arr⟩, .refl _, .refl _ _⟩
    intro i hi
    rw [upd_ne _ _ _ _ (by omega)]
    exact h.box i hi
  · have hj : j < 4 := by omega
    obtain ⟨x, hx⟩ := hx hj
    refine ⟨x, j, true, ⟨j, hle, rfl, fun h => absurd h h4, fun _ => ⟨hx, rfl, rfl⟩⟩, ?_⟩
    refine first_some g 4 cap j _ x w _ (by decide) hj hL (fun i hi => hE i (by omega) hi) ?_
    have ht := h.take j hj
    rw [hx] at ht
    rw [hg j hj]
    exact ht
end
end Go.Proofs.Ytgbofijdjgpgeaa.Sig
