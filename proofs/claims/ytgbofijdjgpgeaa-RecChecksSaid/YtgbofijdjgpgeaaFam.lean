/- Families of rows of whole numbers of the call's own, no two of which share a block. -/
import Derived.Test.YtgbofijdjgpgeaaWWords
import Derived.Test.YtgbofijdjgpgeaaWMore
namespace Go.Proofs.Ytgbofijdjgpgeaa.Fam
open Go.RowKit Go.Proofs.YtgbofijdjgpgeaaW.PrintWords

abbrev ik : Kd Int := Kd.int .i64
abbrev T : Nat → Prop := fun _ => True

def Apart (p q : Value × List Int) : Prop := p.1.ownBlock = none ∨ p.1.ownBlock ≠ q.1.ownBlock
theorem Apart.symm {p q : Value × List Int} (h : Apart p q) : Apart q p := by
  unfold Apart at *
  rcases h with h | h
  · cases hq : q.1.ownBlock with
    | none => exact .inl rfl
    | some k => right; rw [h]; intro e; cases e
  · exact .inr (Ne.symm h)
theorem apart_nil (q : Value × List Int) (xs : List Int) : Apart (.slice none 0 0, xs) q := .inl rfl

/-- Rows of whole numbers, made since block B, apart from one another. -/
def Fam (w : World) (B : Nat) (L : List (Value × List Int)) : Prop :=
  (∀ p ∈ L, Kd.R ik 3 w B T p.1 p.2) ∧ L.Pairwise Apart

theorem Fam.nil (w : World) (B : Nat) : Fam w B [] := ⟨fun _ h => (by cases h), .nil⟩
theorem Fam.perm {w : World} {B : Nat} {L L' : List (Value × List Int)} (h : Fam w B L) (hp : L.Perm L') : Fam w B L' :=
  ⟨fun p hm => h.1 p (hp.mem_iff.2 hm), hp.pairwise h.2 Apart.symm⟩
theorem Fam.tail {w : World} {B : Nat} {p : Value × List Int} {L : List (Value × List Int)} (h : Fam w B (p :: L)) : Fam w B L :=
  ⟨fun q hm => h.1 q (List.mem_cons_of_mem _ hm), (List.pairwise_cons.1 h.2).2⟩
theorem Fam.cons_nil {w : World} {B : Nat} {L : List (Value × List Int)} (h : Fam w B L) : Fam w B ((.slice none 0 0, []) :: L) :=
  ⟨fun q hm => by
    rcases List.mem_cons.1 hm with rfl | hm
    · exact Kd.R_nil ..
    · exact h.1 q hm, List.pairwise_cons.2 ⟨fun q _ => apart_nil q [], h.2⟩⟩

/-- A row of whole numbers hangs on its own block alone. -/
theorem R_own1 {w : World} {B : Nat} {v : Value} {xs : List Int} (h : Kd.R ik 3 w B T v xs) : Kd.R ik 3 w B (fun k => some k = v.ownBlock) v xs :=
  ⟨fun _ hk => hk.symm, h.2⟩
theorem R_same {w w1 : World} {B : Nat} {v : Value} {xs : List Int} (h : Kd.R ik 3 w B T v xs) (hm : ∀ k cells, v.ownBlock = some k → w.heap[k]? = some (.cells cells 3 (0, 0)) → w1.heap[k]? = w.heap[k]?) : Kd.R ik 3 w1 B T v xs :=
  Kd.R_mono (Kd.R_step (R_own1 h) (fun k hk _ => by
    obtain ⟨cells, hc⟩ := Kd.R_typed h k hk.symm
    exact hm k cells hk.symm hc)) (fun _ _ => trivial)

/-- All blocks of whole numbers stand. -/
theorem Fam.stay {w w1 : World} {B : Nat} {L : List (Value × List Int)} (h : Fam w B L) (hm : ∀ (k : Nat) (cells : Array Value), w.heap[k]? = some (.cells cells 3 (0, 0)) → w1.heap[k]? = w.heap[k]?) : Fam w1 B L :=
  ⟨fun p hp => R_same (h.1 p hp) (fun k cells _ hc => hm k cells hc), h.2⟩
theorem Fam.below {w w1 : World} {B : Nat} {L : List (Value × List Int)} (h : Fam w B L) (hb : Below w.heap.size w w1) : Fam w1 B L :=
  h.stay fun k _ hc => hb.block k (Array.getElem?_eq_some_iff.1 hc).1

/-- The first row turns, or moves to a new block. -/
theorem Fam.grow {w w1 : World} {B : Nat} {v v1 : Value} {xs xs1 : List Int} {L : List (Value × List Int)} (h : Fam w B ((v, xs) :: L)) (hg : w.grownBy w1 v.ownBlock) (hr : Kd.R ik 3 w1 B T v1 xs1)
    (hat : v1.ownBlock = v.ownBlock ∨ ∃ b, v1.ownBlock = some b ∧ w.heap.size ≤ b) : Fam w1 B ((v1, xs1) :: L) := by
  obtain ⟨h1, h2⟩ := h
  obtain ⟨ha, h3⟩ := List.pairwise_cons.1 h2
  refine ⟨fun p hp => ?_, List.pairwise_cons.2 ⟨fun q hq => ?_, h3⟩⟩
  · rcases List.mem_cons.1 hp with rfl | hp
    · exact hr
    · refine R_same (h1 p (List.mem_cons_of_mem _ hp)) (fun k cells hk hc => hg.block k (Array.getElem?_eq_some_iff.1 hc).1 fun e => ?_)
      rcases (ha p hp).symm with h | h
      · rw [h] at hk; cases hk
      · exact h (by rw [hk, e])
  · rcases hat with hat | ⟨b, hat, hb⟩
    · rcases ha q hq with h | h
      · exact .inl (by show v1.ownBlock = none; rw [hat]; exact h)
      · exact .inr (by show v1.ownBlock ≠ _; rw [hat]; exact h)
    · refine .inr (fun e => ?_)
      have hlt := Kd.R_lt (h1 q (List.mem_cons_of_mem _ hq)) b (by rw [← e]; exact hat)
      omega
end Go.Proofs.Ytgbofijdjgpgeaa.Fam
