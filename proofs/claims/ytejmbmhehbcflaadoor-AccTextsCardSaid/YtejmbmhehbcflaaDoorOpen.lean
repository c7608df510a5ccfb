/- Arguments as they come: what a row's reading of an argument gives in the words of the walks (Kd), for whole numbers, bools, strings, structs and slices of these, nested at will. -/
import Derived.Deep.Slices
import Derived.Deep.Fields
import Derived.ChangeSame
import Derived.ProofKit
import Derived.Test.YtejmbmhehbcflaaDoorWWords
namespace Go.Proofs.YtejmbmhehbcflaaDoor.Open
open Go.ChangeShapes Go.WideShapes Go.Deep
open Go.Proofs.YtejmbmhehbcflaaDoorW.PrintWords

/-- What reads as data of type t is a thing of the kind d, of which Q holds. -/
def Opens (P : Program) (t : TypeId) {α : Type} (d : Kd α) (Q : α → Prop) : Prop :=
  ∀ {H : Type} (enc : TypeId × Value → H) (w : World) (base : Nat) (spare : Nat → Bool) (held : Bool) (fuel : Nat) (cs : List Value) (x : DataW H × List MemPlace),
    DataW.trod enc P w base spare held fuel t cs = some x → ∃ a, Q a ∧ d.K w a cs

section
variable {P : Program} {t : TypeId}

theorem opens_int {k : IntKind} (ht : P.underlying t = some (.int k)) : Opens P t (Kd.int k) (fun n => (Lit.int k n).wf = true) := by
  intro H enc w base spare held fuel cs x h
  obtain ⟨n, rfl, _, hw⟩ := DataW.trod_int ht h
  exact ⟨n, hw, rfl⟩
theorem opens_bool (ht : P.underlying t = some .bool) : Opens P t Kd.bool (fun _ => True) := by
  intro H enc w base spare held fuel cs x h
  obtain ⟨n, rfl, _⟩ := DataW.trod_bool ht h
  exact ⟨n, trivial, rfl⟩
theorem opens_string (ht : P.underlying t = some .string) : Opens P t Kd.string (fun s => s.size ≤ maxLen) := by
  intro H enc w base spare held fuel cs x h
  obtain ⟨s, rfl, _, hs⟩ := DataW.trod_string ht h
  exact ⟨s, hs, rfl⟩

theorem pick_list {α : Type} {Q : Nat → α → Prop} : ∀ (n : Nat), (∀ i, i < n → ∃ a, Q i a) → ∃ l : List α, l.length = n ∧ ∀ i a, l[i]? = some a → Q i a
  | 0, _ => ⟨[], rfl, by simp⟩
  | n + 1, h => by
    obtain ⟨l, hl, hq⟩ := pick_list n (fun i hi => h i (by omega))
    obtain ⟨a, ha⟩ := h n (by omega)
    refine ⟨l ++ [a], by simp [hl], fun i b hb => ?_⟩
    by_cases hi : i < n
    · rw [List.getElem?_append_left (by omega)] at hb
      exact hq i b hb
    · by_cases hi2 : i = n
      · subst hi2
        rw [List.getElem?_append_right (by omega), hl] at hb
        simp at hb
        subst hb
        exact ha
      · rw [List.getElem?_eq_none (by simp; omega)] at hb
        cases hb

theorem opens_slice {e : TypeId} {α : Type} {d : Kd α} {Q : α → Prop} (ht : P.underlying t = some (.slice e)) (hC : P.cellsOf e = d.sz) (hd : Opens P e d Q) :
    Opens P t (Kd.slice e d) (fun l => ∀ a ∈ l, Q a) := by
  intro H enc w base spare held fuel cs x h
  rcases open_slice ht h with ⟨rfl, _⟩ | ⟨A, len, cap, m, n, D, Pl, rfl, _, hl, hm, hmm, _, hi⟩
  · exact ⟨[], by simp, none, 0, rfl, Nat.le_refl _, Kd.C_nil d w⟩
  · have hlm : len ≤ m := by rw [hmm]; split <;> omega
    obtain ⟨l, hll, hq⟩ := pick_list (Q := fun i a => Q a ∧ ∃ c : List Value, c.length = d.sz ∧ d.K w a c ∧ ∀ j u, c[j]? = some u → w.cell? (A.add (i * d.sz + j)) = some u) len (fun i hlt => by
      obtain ⟨cs', hc, ht'⟩ := hi i (by omega)
      obtain ⟨a, ha, hk⟩ := hd enc w base spare held n cs' _ ht'
      rw [hC] at hc
      obtain ⟨_, hcl, hat⟩ := World.cells?_some hc
      refine ⟨a, ha, cs', hcl, hk, fun j u hj => ?_⟩
      have hjl : j < d.sz := by rw [← hcl]; exact (List.getElem?_eq_some_iff.1 hj).1
      rw [← Go.Deep.add_add, hat j hjl, hj])
    subst hll
    refine ⟨l, fun a ha => ?_, some A, cap, rfl, hl, ?_⟩
    · obtain ⟨i, hi⟩ := List.getElem?_of_mem ha
      exact (hq i a hi).1
    · refine ⟨rfl, by unfold maxLen at hm; omega, fun _ => ⟨A, rfl, fun j p hj => ?_⟩⟩
      obtain ⟨_, c, h1, h2, h3⟩ := hq j p hj
      exact ⟨c, h1, h2, h3⟩
theorem take_drop_app (cs : List Value) (n m : Nat) : (cs.drop n).take m ++ cs.drop (n + m) = cs.drop n := by
  have h : cs.drop (n + m) = (cs.drop n).drop m := by rw [List.drop_drop]
  rw [h]
  exact List.take_append_drop _ _

theorem opens_struct2 {f0 f1 : Field} {α0 α1 : Type} {d0 : Kd α0} {d1 : Kd α1} {Q0 : α0 → Prop} {Q1 : α1 → Prop} (ht : P.underlying t = some (.struct #[f0, f1])) (h0 : Opens P f0.type d0 Q0) (h1 : Opens P f1.type d1 Q1) (c0 : P.cellsOf f0.type = d0.sz) (c1 : P.cellsOf f1.type = d1.sz) (o0 : f0.offset = 0) (o1 : f1.offset = d0.sz) (hC : P.cellsOf t = d0.sz + d1.sz) :
    Opens P t (Kd.pair d0 d1) (fun x => Q0 x.1 ∧ Q1 x.2) := by
  intro H enc w base spare held fuel cs x h
  obtain ⟨xs, n, _, _, hlen, hxl, hf⟩ := DataW.trod_struct ht h
  rw [hC] at hlen
  match xs, hxl with
  | [y0, y1], _ =>
    have e0 := hf 0 f0 rfl
    rw [o0, c0] at e0
    obtain ⟨a0, q0, k0⟩ := h0 enc w base spare held n _ y0 e0
    have e1 := hf 1 f1 rfl
    rw [o1, c1] at e1
    obtain ⟨a1, q1, k1⟩ := h1 enc w base spare held n _ y1 e1
    refine ⟨(a0, a1), ⟨q0, q1⟩, ?_⟩
    have hcs : cs = (cs.drop (0)).take d0.sz ++ ((cs.drop (d0.sz)).take d1.sz) := by
      have l1 : (cs.drop (d0.sz)).take d1.sz = cs.drop (d0.sz) := List.take_of_length_le (by simp; omega)
      rw [l1]
      have l0 : (cs.drop 0).take d0.sz ++ cs.drop (d0.sz) = cs := by simp
      rw [l0]
    rw [hcs]
    exact ⟨_, _, rfl, k0, k1⟩

theorem opens_struct3 {f0 f1 f2 : Field} {α0 α1 α2 : Type} {d0 : Kd α0} {d1 : Kd α1} {d2 : Kd α2} {Q0 : α0 → Prop} {Q1 : α1 → Prop} {Q2 : α2 → Prop} (ht : P.underlying t = some (.struct #[f0, f1, f2])) (h0 : Opens P f0.type d0 Q0) (h1 : Opens P f1.type d1 Q1) (h2 : Opens P f2.type d2 Q2) (c0 : P.cellsOf f0.type = d0.sz) (c1 : P.cellsOf f1.type = d1.sz) (c2 : P.cellsOf f2.type = d2.sz) (o0 : f0.offset = 0) (o1 : f1.offset = d0.sz) (o2 : f2.offset = d0.sz + d1.sz) (hC : P.cellsOf t = d0.sz + d1.sz + d2.sz) :
    Opens P t (Kd.pair d0 (Kd.pair d1 d2)) (fun x => Q0 x.1 ∧ Q1 x.2.1 ∧ Q2 x.2.2) := by
  intro H enc w base spare held fuel cs x h
  obtain ⟨xs, n, _, _, hlen, hxl, hf⟩ := DataW.trod_struct ht h
  rw [hC] at hlen
  match xs, hxl with
  | [y0, y1, y2], _ =>
    have e0 := hf 0 f0 rfl
    rw [o0, c0] at e0
    obtain ⟨a0, q0, k0⟩ := h0 enc w base spare held n _ y0 e0
    have e1 := hf 1 f1 rfl
    rw [o1, c1] at e1
    obtain ⟨a1, q1, k1⟩ := h1 enc w base spare held n _ y1 e1
    have e2 := hf 2 f2 rfl
    rw [o2, c2] at e2
    obtain ⟨a2, q2, k2⟩ := h2 enc w base spare held n _ y2 e2
    refine ⟨(a0, a1, a2), ⟨q0, q1, q2⟩, ?_⟩
    have hcs : cs = (cs.drop (0)).take d0.sz ++ ((cs.drop (d0.sz)).take d1.sz ++ ((cs.drop (d0.sz + d1.sz)).take d2.sz)) := by
      have l2 : (cs.drop (d0.sz + d1.sz)).take d2.sz = cs.drop (d0.sz + d1.sz) := List.take_of_length_le (by simp; omega)
      rw [l2]
      have l1 : (cs.drop (d0.sz)).take d1.sz ++ cs.drop (d0.sz + d1.sz) = cs.drop (d0.sz) := take_drop_app cs (d0.sz) d1.sz
      rw [l1]
      have l0 : (cs.drop 0).take d0.sz ++ cs.drop (d0.sz) = cs := by simp
      rw [l0]
    rw [hcs]
    exact ⟨_, _, rfl, k0, ⟨_, _, rfl, k1, k2⟩⟩

theorem opens_struct4 {f0 f1 f2 f3 : Field} {α0 α1 α2 α3 : Type} {d0 : Kd α0} {d1 : Kd α1} {d2 : Kd α2} {d3 : Kd α3} {Q0 : α0 → Prop} {Q1 : α1 → Prop} {Q2 : α2 → Prop} {Q3 : α3 → Prop} (ht : P.underlying t = some (.struct #[f0, f1, f2, f3])) (h0 : Opens P f0.type d0 Q0) (h1 : Opens P f1.type d1 Q1) (h2 : Opens P f2.type d2 Q2) (h3 : Opens P f3.type d3 Q3) (c0 : P.cellsOf f0.type = d0.sz) (c1 : P.cellsOf f1.type = d1.sz) (c2 : P.cellsOf f2.type = d2.sz) (c3 : P.cellsOf f3.type = d3.sz) (o0 : f0.offset = 0) (o1 : f1.offset = d0.sz) (o2 : f2.offset = d0.sz + d1.sz) (o3 : f3.offset = d0.sz + d1.sz + d2.sz) (hC : P.cellsOf t = d0.sz + d1.sz + d2.sz + d3.sz) :
    Opens P t (Kd.pair d0 (Kd.pair d1 (Kd.pair d2 d3))) (fun x => Q0 x.1 ∧ Q1 x.2.1 ∧ Q2 x.2.2.1 ∧ Q3 x.2.2.2) := by
  intro H enc w base spare held fuel cs x h
  obtain ⟨xs, n, _, _, hlen, hxl, hf⟩ := DataW.trod_struct ht h
  rw [hC] at hlen
  match xs, hxl with
  | [y0, y1, y2, y3], _ =>
    have e0 := hf 0 f0 rfl
    rw [o0, c0] at e0
    obtain ⟨a0, q0, k0⟩ := h0 enc w base spare held n _ y0 e0
    have e1 := hf 1 f1 rfl
    rw [o1, c1] at e1
    obtain ⟨a1, q1, k1⟩ := h1 enc w base spare held n _ y1 e1
    have e2 := hf 2 f2 rfl
    rw [o2, c2] at e2
    obtain ⟨a2, q2, k2⟩ := h2 enc w base spare held n _ y2 e2
    have e3 := hf 3 f3 rfl
    rw [o3, c3] at e3
    obtain ⟨a3, q3, k3⟩ := h3 enc w base spare held n _ y3 e3
    refine ⟨(a0, a1, a2, a3), ⟨q0, q1, q2, q3⟩, ?_⟩
    have hcs : cs = (cs.drop (0)).take d0.sz ++ ((cs.drop (d0.sz)).take d1.sz ++ ((cs.drop (d0.sz + d1.sz)).take d2.sz ++ ((cs.drop (d0.sz + d1.sz + d2.sz)).take d3.sz))) := by
      have l3 : (cs.drop (d0.sz + d1.sz + d2.sz)).take d3.sz = cs.drop (d0.sz + d1.sz + d2.sz) := List.take_of_length_le (by simp; omega)
      rw [l3]
      have l2 : (cs.drop (d0.sz + d1.sz)).take d2.sz ++ cs.drop (d0.sz + d1.sz + d2.sz) = cs.drop (d0.sz + d1.sz) := take_drop_app cs (d0.sz + d1.sz) d2.sz
      rw [l2]
      have l1 : (cs.drop (d0.sz)).take d1.sz ++ cs.drop (d0.sz + d1.sz) = cs.drop (d0.sz) := take_drop_app cs (d0.sz) d1.sz
      rw [l1]
      have l0 : (cs.drop 0).take d0.sz ++ cs.drop (d0.sz) = cs := by simp
      rw [l0]
    rw [hcs]
    exact ⟨_, _, rfl, k0, ⟨_, _, rfl, k1, ⟨_, _, rfl, k2, k3⟩⟩⟩

theorem opens_struct5 {f0 f1 f2 f3 f4 : Field} {α0 α1 α2 α3 α4 : Type} {d0 : Kd α0} {d1 : Kd α1} {d2 : Kd α2} {d3 : Kd α3} {d4 : Kd α4} {Q0 : α0 → Prop} {Q1 : α1 → Prop} {Q2 : α2 → Prop} {Q3 : α3 → Prop} {Q4 : α4 → Prop} (ht : P.underlying t = some (.struct #[f0, f1, f2, f3, f4])) (h0 : Opens P f0.type d0 Q0) (h1 : Opens P f1.type d1 Q1) (h2 : Opens P f2.type d2 Q2) (h3 : Opens P f3.type d3 Q3) (h4 : Opens P f4.type d4 Q4) (c0 : P.cellsOf f0.type = d0.sz) (c1 : P.cellsOf f1.type = d1.sz) (c2 : P.cellsOf f2.type = d2.sz) (c3 : P.cellsOf f3.type = d3.sz) (c4 : P.cellsOf f4.type = d4.sz) (o0 : f0.offset = 0) (o1 : f1.offset = d0.sz) (o2 : f2.offset = d0.sz + d1.sz) (o3 : f3.offset = d0.sz + d1.sz + d2.sz) (o4 : f4.offset = d0.sz + d1.sz + d2.sz + d3.sz) (hC : P.cellsOf t = d0.sz + d1.sz + d2.sz + d3.sz + d4.sz) :
    Opens P t (Kd.pair d0 (Kd.pair d1 (Kd.pair d2 (Kd.pair d3 d4)))) (fun x => Q0 x.1 ∧ Q1 x.2.1 ∧ Q2 x.2.2.1 ∧ Q3 x.2.2.2.1 ∧ Q4 x.2.2.2.2) := by
  intro H enc w base spare held fuel cs x h
  obtain ⟨xs, n, _, _, hlen, hxl, hf⟩ := DataW.trod_struct ht h
  rw [hC] at hlen
  match xs, hxl with
  | [y0, y1, y2, y3, y4], _ =>
    have e0 := hf 0 f0 rfl
    rw [o0, c0] at e0
    obtain ⟨a0, q0, k0⟩ := h0 enc w base spare held n _ y0 e0
    have e1 := hf 1 f1 rfl
    rw [o1, c1] at e1
    obtain ⟨a1, q1, k1⟩ := h1 enc w base spare held n _ y1 e1
    have e2 := hf 2 f2 rfl
    rw [o2, c2] at e2
    obtain ⟨a2, q2, k2⟩ := h2 enc w base spare held n _ y2 e2
    have e3 := hf 3 f3 rfl
    rw [o3, c3] at e3
    obtain ⟨a3, q3, k3⟩ := h3 enc w base spare held n _ y3 e3
    have e4 := hf 4 f4 rfl
    rw [o4, c4] at e4
    obtain ⟨a4, q4, k4⟩ := h4 enc w base spare held n _ y4 e4
    refine ⟨(a0, a1, a2, a3, a4), ⟨q0, q1, q2, q3, q4⟩, ?_⟩
    have hcs : cs = (cs.drop (0)).take d0.sz ++ ((cs.drop (d0.sz)).take d1.sz ++ ((cs.drop (d0.sz + d1.sz)).take d2.sz ++ ((cs.drop (d0.sz + d1.sz + d2.sz)).take d3.sz ++ ((cs.drop (d0.sz + d1.sz + d2.sz + d3.sz)).take d4.sz)))) := by
      have l4 : (cs.drop (d0.sz + d1.sz + d2.sz + d3.sz)).take d4.sz = cs.drop (d0.sz + d1.sz + d2.sz + d3.sz) := List.take_of_length_le (by simp; omega)
      rw [l4]
      have l3 : (cs.drop (d0.sz + d1.sz + d2.sz)).take d3.sz ++ cs.drop (d0.sz + d1.sz + d2.sz + d3.sz) = cs.drop (d0.sz + d1.sz + d2.sz) := take_drop_app cs (d0.sz + d1.sz + d2.sz) d3.sz
      rw [l3]
      have l2 : (cs.drop (d0.sz + d1.sz)).take d2.sz ++ cs.drop (d0.sz + d1.sz + d2.sz) = cs.drop (d0.sz + d1.sz) := take_drop_app cs (d0.sz + d1.sz) d2.sz
      rw [l2]
      have l1 : (cs.drop (d0.sz)).take d1.sz ++ cs.drop (d0.sz + d1.sz) = cs.drop (d0.sz) := take_drop_app cs (d0.sz) d1.sz
      rw [l1]
      have l0 : (cs.drop 0).take d0.sz ++ cs.drop (d0.sz) = cs := by simp
      rw [l0]
    rw [hcs]
    exact ⟨_, _, rfl, k0, ⟨_, _, rfl, k1, ⟨_, _, rfl, k2, ⟨_, _, rfl, k3, k4⟩⟩⟩⟩

theorem opens_struct6 {f0 f1 f2 f3 f4 f5 : Field} {α0 α1 α2 α3 α4 α5 : Type} {d0 : Kd α0} {d1 : Kd α1} {d2 : Kd α2} {d3 : Kd α3} {d4 : Kd α4} {d5 : Kd α5} {Q0 : α0 → Prop} {Q1 : α1 → Prop} {Q2 : α2 → Prop} {Q3 : α3 → Prop} {Q4 : α4 → Prop} {Q5 : α5 → Prop} (ht : P.underlying t = some (.struct #[f0, f1, f2, f3, f4, f5])) (h0 : Opens P f0.type d0 Q0) (h1 : Opens P f1.type d1 Q1) (h2 : Opens P f2.type d2 Q2) (h3 : Opens P f3.type d3 Q3) (h4 : Opens P f4.type d4 Q4) (h5 : Opens P f5.type d5 Q5) (c0 : P.cellsOf f0.type = d0.sz) (c1 : P.cellsOf f1.type = d1.sz) (c2 : P.cellsOf f2.type = d2.sz) (c3 : P.cellsOf f3.type = d3.sz) (c4 : P.cellsOf f4.type = d4.sz) (c5 : P.cellsOf f5.type = d5.sz) (o0 : f0.offset = 0) (o1 : f1.offset = d0.sz) (o2 : f2.offset = d0.sz + d1.sz) (o3 : f3.offset = d0.sz + d1.sz + d2.sz) (o4 : f4.offset = d0.sz + d1.sz + d2.sz + d3.sz) (o5 : f5.offset = d0.sz + d1.sz + d2.sz + d3.sz + d4.sz) (hC : P.cellsOf t = d0.sz + d1.sz + d2.sz + d3.sz + d4.sz + d5.sz) :
    Opens P t (Kd.pair d0 (Kd.pair d1 (Kd.pair d2 (Kd.pair d3 (Kd.pair d4 d5))))) (fun x => Q0 x.1 ∧ Q1 x.2.1 ∧ Q2 x.2.2.1 ∧ Q3 x.2.2.2.1 ∧ Q4 x.2.2.2.2.1 ∧ Q5 x.2.2.2.2.2) := by
  intro H enc w base spare held fuel cs x h
  obtain ⟨xs, n, _, _, hlen, hxl, hf⟩ := DataW.trod_struct ht h
  rw [hC] at hlen
  match xs, hxl with
  | [y0, y1, y2, y3, y4, y5], _ =>
    have e0 := hf 0 f0 rfl
    rw [o0, c0] at e0
    obtain ⟨a0, q0, k0⟩ := h0 enc w base spare held n _ y0 e0
    have e1 := hf 1 f1 rfl
    rw [o1, c1] at e1
    obtain ⟨a1, q1, k1⟩ := h1 enc w base spare held n _ y1 e1
    have e2 := hf 2 f2 rfl
    rw [o2, c2] at e2
    obtain ⟨a2, q2, k2⟩ := h2 enc w base spare held n _ y2 e2
    have e3 := hf 3 f3 rfl
    rw [o3, c3] at e3
    obtain ⟨a3, q3, k3⟩ := h3 enc w base spare held n _ y3 e3
    have e4 := hf 4 f4 rfl
    rw [o4, c4] at e4
    obtain ⟨a4, q4, k4⟩ := h4 enc w base spare held n _ y4 e4
    have e5 := hf 5 f5 rfl
    rw [o5, c5] at e5
    obtain ⟨a5, q5, k5⟩ := h5 enc w base spare held n _ y5 e5
    refine ⟨(a0, a1, a2, a3, a4, a5), ⟨q0, q1, q2, q3, q4, q5⟩, ?_⟩
    have hcs : cs = (cs.drop (0)).take d0.sz ++ ((cs.drop (d0.sz)).take d1.sz ++ ((cs.drop (d0.sz + d1.sz)).take d2.sz ++ ((cs.drop (d0.sz + d1.sz + d2.sz)).take d3.sz ++ ((cs.drop (d0.sz + d1.sz + d2.sz + d3.sz)).take d4.sz ++ ((cs.drop (d0.sz + d1.sz + d2.sz + d3.sz + d4.sz)).take d5.sz))))) := by
      have l5 : (cs.drop (d0.sz + d1.sz + d2.sz + d3.sz + d4.sz)).take d5.sz = cs.drop (d0.sz + d1.sz + d2.sz + d3.sz + d4.sz) := List.take_of_length_le (by simp; omega)
      rw [l5]
      have l4 : (cs.drop (d0.sz + d1.sz + d2.sz + d3.sz)).take d4.sz ++ cs.drop (d0.sz + d1.sz + d2.sz + d3.sz + d4.sz) = cs.drop (d0.sz + d1.sz + d2.sz + d3.sz) := take_drop_app cs (d0.sz + d1.sz + d2.sz + d3.sz) d4.sz
      rw [l4]
      have l3 : (cs.drop (d0.sz + d1.sz + d2.sz)).take d3.sz ++ cs.drop (d0.sz + d1.sz + d2.sz + d3.sz) = cs.drop (d0.sz + d1.sz + d2.sz) := take_drop_app cs (d0.sz + d1.sz + d2.sz) d3.sz
      rw [l3]
      have l2 : (cs.drop (d0.sz + d1.sz)).take d2.sz ++ cs.drop (d0.sz + d1.sz + d2.sz) = cs.drop (d0.sz + d1.sz) := take_drop_app cs (d0.sz + d1.sz) d2.sz
      rw [l2]
      have l1 : (cs.drop (d0.sz)).take d1.sz ++ cs.drop (d0.sz + d1.sz) = cs.drop (d0.sz) := take_drop_app cs (d0.sz) d1.sz
      rw [l1]
      have l0 : (cs.drop 0).take d0.sz ++ cs.drop (d0.sz) = cs := by simp
      rw [l0]
    rw [hcs]
    exact ⟨_, _, rfl, k0, ⟨_, _, rfl, k1, ⟨_, _, rfl, k2, ⟨_, _, rfl, k3, ⟨_, _, rfl, k4, k5⟩⟩⟩⟩⟩

end
end Go.Proofs.YtejmbmhehbcflaaDoor.Open
