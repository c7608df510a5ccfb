/- Arguments as they come: what a row's reading of an argument gives in the words of the walks (Kd), for whole numbers, bools, strings, structs and slices of these, nested at will. -/
import Derived.Deep.Slices
import Derived.Deep.Fields
import Derived.ChangeSame
import Derived.ProofKit
import Derived.Test.YtkmlefbdhdlfmaaGreatWWords
namespace Go.Proofs.YtkmlefbdhdlfmaaGreat.Open
open Go.ChangeShapes Go.WideShapes Go.Deep
open Go.Proofs.YtkmlefbdhdlfmaaGreatW.PrintWords

/-- What reads as data of type t is a thing of the kind d, of which Q holds. -/
def Opens (P : Program) (t : TypeId) {α : Type} (d : Kd α) (Q : α → Prop) : Prop :=
  ∀ {H : Type} (enc : TypeId × Value → H) (w : World) (base : Nat) (spare : Nat → Bool) (held : Bool) (fuel : Nat) (cs : List Value) (x : DataW H × List MemPlace),
    DataW.trod enc P w base spare held fuel t cs = some x → ∃ a, Q a ∧ d.K w a cs

section
variable {P : Program} {t : TypeId}

theorem opens_int {k : IntKind} (ht : P.underlying t = some (.int k)) : Opens P t (Kd.int k) (fun n => (Lit.int k n).wf = true) := by
  intro H enc w base spare held fuel cs x h
  obtain ⟨n, rfl, _, hw⟩ := DataW.trod_int ht h
  exact ⟨n, hw, rfl⟩
theorem pick_list {α : Type} {Q : Nat → α → Prop} : ∀ (n : Nat), (∀ i, i < n → ∃ a, Q i a) → ∃ l : List α, l.length = n ∧ ∀ i a, l[i]? = some a → Q i a
  | 0, _ => ⟨[], rfl, by simp⟩
  | n + 1, h => by
    obtain ⟨l, hl, hq⟩ := pick_list n (fun i hi => h i (by omega))
    obtain ⟨a, ha⟩ := h n (by omega)
    refine ⟨l ++ [a], by simp [hl], fun i b hb => ?_⟩
    by_cases hi : i < n
    · rw [List.getElem?_append_left (by omega)] at hb
      exact hq i b hb
    · by_cases hi2 : i = n
      · subst hi2
        rw [List.getElem?_append_right (by omega), hl] at hb
        simp at hb
        subst hb
        exact ha
      · rw [List.getElem?_eq_none (by simp; omega)] at hb
        cases hb

theorem opens_slice {e : TypeId} {α : Type} {d : Kd α} {Q : α → Prop} (ht : P.underlying t = some (.slice e)) (hC : P.cellsOf e = d.sz) (hd : Opens P e d Q) :
    Opens P t (Kd.slice e d) (fun l => ∀ a ∈ l, Q a) := by
  intro H enc w base spare held fuel cs x h
  rcases open_slice ht h with ⟨rfl, _⟩ | ⟨A, len, cap, m, n, D, Pl, rfl, _, hl, hm, hmm, _, hi⟩
  · exact ⟨[], by simp, none, 0, rfl, Nat.le_refl _, Kd.C_nil d w⟩
  · have hlm : len ≤ m := by rw [hmm]; split <;> omega
    obtain ⟨l, hll, hq⟩ := pick_list (Q := fun i a => Q a ∧ ∃ c : List Value, c.length = d.sz ∧ d.K w a c ∧ ∀ j u, c[j]? = some u → w.cell? (A.add (i * d.sz + j)) = some u) len (fun i hlt => by
      obtain ⟨cs', hc, ht'⟩ := hi i (by omega)
      obtain ⟨a, ha, hk⟩ := hd enc w base spare held n cs' _ ht'
      rw [hC] at hc
      obtain ⟨_, hcl, hat⟩ := World.cells?_some hc
      refine ⟨a, ha, cs', hcl, hk, fun j u hj => ?_⟩
      have hjl : j < d.sz := by rw [← hcl]; exact (List.getElem?_eq_some_iff.1 hj).1
      rw [← Go.Deep.add_add, hat j hjl, hj])
    subst hll
    refine ⟨l, fun a ha => ?_, some A, cap, rfl, hl, ?_⟩
    · obtain ⟨i, hi⟩ := List.getElem?_of_mem ha
      exact (hq i a hi).1
    · refine ⟨rfl, by unfold maxLen at hm; omega, fun _ => ⟨A, rfl, fun j p hj => ?_⟩⟩
      obtain ⟨_, c, h1, h2, h3⟩ := hq j p hj
      exact ⟨c, h1, h2, h3⟩
theorem opens_struct2 {f0 f1 : Field} {α0 α1 : Type} {d0 : Kd α0} {d1 : Kd α1} {Q0 : α0 → Prop} {Q1 : α1 → Prop} (ht : P.underlying t = some (.struct #[f0, f1])) (h0 : Opens P f0.type d0 Q0) (h1 : Opens P f1.type d1 Q1) (c0 : P.cellsOf f0.type = d0.sz) (c1 : P.cellsOf f1.type = d1.sz) (o0 : f0.offset = 0) (o1 : f1.offset = d0.sz) (hC : P.cellsOf t = d0.sz + d1.sz) :
    Opens P t (Kd.pair d0 d1) (fun x => Q0 x.1 ∧ Q1 x.2) := by
  intro H enc w base spare held fuel cs x h
  obtain ⟨xs, n, _, _, hlen, hxl, hf⟩ := DataW.trod_struct ht h
  rw [hC] at hlen
  match xs, hxl with
  | [y0, y1], _ =>
    have e0 := hf 0 f0 rfl
    rw [o0, c0] at e0
    obtain ⟨a0, q0, k0⟩ := h0 enc w base spare held n _ y0 e0
    have e1 := hf 1 f1 rfl
    rw [o1, c1] at e1
    obtain ⟨a1, q1, k1⟩ := h1 enc w base spare held n _ y1 e1
    refine ⟨(a0, a1), ⟨q0, q1⟩, ?_⟩
    have hcs : cs = (cs.drop (0)).take d0.sz ++ ((cs.drop (d0.sz)).take d1.sz) := by
      have l1 : (cs.drop (d0.sz)).take d1.sz = cs.drop (d0.sz) := List.take_of_length_le (by simp; omega)
      rw [l1]
      have l0 : (cs.drop 0).take d0.sz ++ cs.drop (d0.sz) = cs := by simp
      rw [l0]
    rw [hcs]
    exact ⟨_, _, rfl, k0, k1⟩

end
end Go.Proofs.YtkmlefbdhdlfmaaGreat.Open
