/- Who starves, plain: the scripts' rounds by computing. -/
import Derived.Test.YtkmlefbdhdlfmaaGreatGood
import Derived.Test.YtkmlefbdhdlfmaaGreatStv5
namespace Go.Proofs.YtkmlefbdhdlfmaaGreat.Stv
open Stile
set_option linter.unusedSimpArgs false
set_option linter.unusedVariables false
def okN (x : Note) : Bool := !(decide (x.what = 11) && decide (x.task = 0))
def isN (o : Int) (x : Note) : Bool := decide (x.what = 11) && (decide (x.op = o) && decide (x.arg = 2))
def runB (o : Int) : W → List Pk → W × Bool × Nat
 | w, [] => (w, true, 0)
 | w, p :: ps => let d := pick w p.1 p.2; let e := runB o d.2 ps; (e.1, d.1.notes.all okN && e.2.1, (d.1.notes.filter (isN o)).length + e.2.2)
theorem runB_app (o : Int) (b : List Pk) : ∀ (a : List Pk) (w : W), runB o w (a ++ b) = ((runB o (runB o w a).1 b).1, (runB o w a).2.1 && (runB o (runB o w a).1 b).2.1, (runB o w a).2.2 + (runB o (runB o w a).1 b).2.2)
 | [], w => by simp [runB]
 | x :: a, w => by
  rw [List.cons_append, runB, runB_app o b a]
  simp [runB, Bool.and_assoc, Nat.add_assoc]
def S6 (m t a : Int) : W := ⟨6, m, 3, [(t + 1) * 65536 + t % 256 * 256, 0, 0, 0, 0, 0, 0, 0, 0, 0, 0, 0, 0, 0, if m = 2 then 1 else 0, 0, 0, 0, 0, 0], [⟨0, ⟨1, 2, a, 0, if m = 2 then 3 else 0, false, 0, 0, false, 0⟩⟩, ⟨2, .zero⟩, ⟨0, .zero⟩]⟩
def S5 (m : Int) : W := ⟨5, m, 3, [1, 0, 0, 0, 0, 0, 0, 0, 0, 0, 0, 0, 0, 0, if m = 2 then 1 else 0, 0, 0, 0, 0, 0], [⟨0, ⟨3, 2, 1, 0, if m = 2 then 3 else 0, false, 0, 0, false, 0⟩⟩, ⟨1, .zero⟩, ⟨0, .zero⟩]⟩
theorem b5 (m base : Int) (hm : m = 1 ∨ m = 2) : runB 1 (newW 5 m 3 base) begin5 = (S5 m, true, 1) := by
 refine (congrArg (fun w => runB 1 w begin5) (show newW 5 m 3 base = newW 5 m 3 0 from rfl)).trans ?_
 rcases hm with rfl | rfl
 ·exact (show runB 1 (newW 5 1 3 0) begin5 = (S5 1, true, 1) by kernel_rfl)
 ·exact (show runB 1 (newW 5 2 3 0) begin5 = (S5 2, true, 1) by kernel_rfl)
theorem r5 (m : Int) (hm : m = 1 ∨ m = 2) : runB 1 (S5 m) round5 = (S5 m, true, 2) := by
 rcases hm with rfl | rfl
 ·kernel_rfl
 ·kernel_rfl
theorem rounds5 (m : Int) (hm : m = 1 ∨ m = 2) : ∀ k, runB 1 (S5 m) (rep round5 k) = (S5 m, true, 2 * k)
 | 0 => rfl
 | k + 1 => by
  rw [rep, runB_app, r5 m hm, rounds5 m hm k]
  simp
  omega
theorem all5 (m base : Int) (hm : m = 1 ∨ m = 2) (k : Nat) : runB 1 (newW 5 m 3 base) (script5 k) = (S5 m, true, 1 + 2 * k) := by
 rw [script5, runB_app, b5 m base hm, rounds5 m hm k]
 simp
def Rnd (m : Int) (s : Nat) : Nat → Prop
 | 0 => True
 | k + 1 => (∀ a, runB 3 (S6 m ((s + k : Nat) : Int) a) round6 = (S6 m ((s + k + 2 : Nat) : Int) a, true, 2)) ∧ Rnd m s k
theorem Rnd.get {m : Int} {s : Nat} : ∀ {k : Nat}, Rnd m s k → ∀ t, s ≤ t → t < s + k → ∀ a, runB 3 (S6 m (t : Int) a) round6 = (S6 m ((t + 2 : Nat) : Int) a, true, 2)
 | 0, _, t, h1, h2 => absurd h2 (by omega)
 | k + 1, h, t, h1, h2 => by
  by_cases e : t = s + k
  ·subst e
   exact h.1
  ·exact Rnd.get h.2 t h1 (by omega)
theorem rnd1_0 : Rnd 1 0 94 := by
 iterate 94 (refine ⟨fun a => by kernel_rfl, ?_⟩)
 exact trivial
theorem rnd1_1 : Rnd 1 94 94 := by
 iterate 94 (refine ⟨fun a => by kernel_rfl, ?_⟩)
 exact trivial
theorem rnd1_2 : Rnd 1 188 94 := by
 iterate 94 (refine ⟨fun a => by kernel_rfl, ?_⟩)
 exact trivial
theorem rnd1_3 : Rnd 1 282 94 := by
 iterate 94 (refine ⟨fun a => by kernel_rfl, ?_⟩)
 exact trivial
theorem rnd2_0 : Rnd 2 0 94 := by
 iterate 94 (refine ⟨fun a => by kernel_rfl, ?_⟩)
 exact trivial
theorem rnd2_1 : Rnd 2 94 94 := by
 iterate 94 (refine ⟨fun a => by kernel_rfl, ?_⟩)
 exact trivial
theorem rnd2_2 : Rnd 2 188 94 := by
 iterate 94 (refine ⟨fun a => by kernel_rfl, ?_⟩)
 exact trivial
theorem rnd2_3 : Rnd 2 282 94 := by
 iterate 94 (refine ⟨fun a => by kernel_rfl, ?_⟩)
 exact trivial
theorem r6 (m : Int) (hm : m = 1 ∨ m = 2) (t : Nat) (ht : t < 376) (a : Int) : runB 3 (S6 m (t : Int) a) round6 = (S6 m ((t + 2 : Nat) : Int) a, true, 2) := by
 rcases hm with rfl | rfl
 ·rcases Nat.lt_or_ge t 188 with h | h
  ·rcases Nat.lt_or_ge t 94 with h2 | h2
   ·exact rnd1_0.get t (by omega) (by omega) a
   ·exact rnd1_1.get t (by omega) (by omega) a
  ·rcases Nat.lt_or_ge t 282 with h2 | h2
   ·exact rnd1_2.get t (by omega) (by omega) a
   ·exact rnd1_3.get t (by omega) (by omega) a
 ·rcases Nat.lt_or_ge t 188 with h | h
  ·rcases Nat.lt_or_ge t 94 with h2 | h2
   ·exact rnd2_0.get t (by omega) (by omega) a
   ·exact rnd2_1.get t (by omega) (by omega) a
  ·rcases Nat.lt_or_ge t 282 with h2 | h2
   ·exact rnd2_2.get t (by omega) (by omega) a
   ·exact rnd2_3.get t (by omega) (by omega) a
theorem rounds6 (m : Int) (hm : m = 1 ∨ m = 2) (a : Int) : ∀ (k t : Nat), t + 2 * k ≤ 376 → runB 3 (S6 m (t : Int) a) (rep round6 k) = (S6 m ((t + 2 * k : Nat) : Int) a, true, 2 * k)
 | 0, t, _ => rfl
 | k + 1, t, h => by
  rw [rep, runB_app, r6 m hm t (by omega) a, rounds6 m hm a k (t + 2) (by omega), show t + 2 + 2 * k = t + 2 * (k + 1) by omega]
  simp
  omega
def Beg (m : Int) (s : Nat) : Nat → Prop
 | 0 => True
 | k + 1 => runB 3 (newW 6 m 3 ((s + k : Nat) : Int)) begin6 = (S6 m ((s + k : Nat) : Int) (((s + k : Nat) : Int) * 65792 + 65536), true, 1) ∧ Beg m s k
theorem Beg.get {m : Int} {s : Nat} : ∀ {n : Nat}, Beg m s n → ∀ b, s ≤ b → b < s + n → runB 3 (newW 6 m 3 (b : Int)) begin6 = (S6 m (b : Int) ((b : Int) * 65792 + 65536), true, 1)
 | 0, _, b, h1, h2 => absurd h2 (by omega)
 | n + 1, h, b, h1, h2 => by
  by_cases e : b = s + n
  ·subst e
   exact h.1
  ·exact Beg.get h.2 b h1 (by omega)
theorem beg1_0 : Beg 1 0 64 := by
 iterate 64 (refine ⟨by kernel_rfl, ?_⟩)
 exact trivial
theorem beg1_1 : Beg 1 64 64 := by
 iterate 64 (refine ⟨by kernel_rfl, ?_⟩)
 exact trivial
theorem beg1_2 : Beg 1 128 64 := by
 iterate 64 (refine ⟨by kernel_rfl, ?_⟩)
 exact trivial
theorem beg1_3 : Beg 1 192 64 := by
 iterate 64 (refine ⟨by kernel_rfl, ?_⟩)
 exact trivial
theorem beg2_0 : Beg 2 0 64 := by
 iterate 64 (refine ⟨by kernel_rfl, ?_⟩)
 exact trivial
theorem beg2_1 : Beg 2 64 64 := by
 iterate 64 (refine ⟨by kernel_rfl, ?_⟩)
 exact trivial
theorem beg2_2 : Beg 2 128 64 := by
 iterate 64 (refine ⟨by kernel_rfl, ?_⟩)
 exact trivial
theorem beg2_3 : Beg 2 192 64 := by
 iterate 64 (refine ⟨by kernel_rfl, ?_⟩)
 exact trivial
theorem beg (m : Int) (hm : m = 1 ∨ m = 2) (b : Nat) (hb : b < 256) : runB 3 (newW 6 m 3 (b : Int)) begin6 = (S6 m (b : Int) ((b : Int) * 65792 + 65536), true, 1) := by
 rcases hm with rfl | rfl
 ·rcases Nat.lt_or_ge b 128 with h | h
  ·rcases Nat.lt_or_ge b 64 with h2 | h2
   ·exact beg1_0.get b (by omega) (by omega)
   ·exact beg1_1.get b (by omega) (by omega)
  ·rcases Nat.lt_or_ge b 192 with h2 | h2
   ·exact beg1_2.get b (by omega) (by omega)
   ·exact beg1_3.get b (by omega) (by omega)
 ·rcases Nat.lt_or_ge b 128 with h | h
  ·rcases Nat.lt_or_ge b 64 with h2 | h2
   ·exact beg2_0.get b (by omega) (by omega)
   ·exact beg2_1.get b (by omega) (by omega)
  ·rcases Nat.lt_or_ge b 192 with h2 | h2
   ·exact beg2_2.get b (by omega) (by omega)
   ·exact beg2_3.get b (by omega) (by omega)
theorem all6 (m base : Int) (hm : m = 1 ∨ m = 2) (k : Nat) (hk : k ≤ 60) : ∃ t a, runB 3 (newW 6 m 3 base) (script6 k) = (S6 m t a, true, 1 + 2 * k) := by
 obtain ⟨b, hb⟩ : ∃ b : Nat, (b : Int) = base % 256 := ⟨(base % 256).toNat, by omega⟩
 have hb2 : b < 256 := by omega
 have e : newW 6 m 3 base = newW 6 m 3 (b : Int) := by
  have e2 : (b : Int) % 256 = base % 256 := by omega
  show (⟨6, m, 3, (base % 256 * 65792 :: [0, 0, 0, 0, 0, 0, 0]) ++ List.replicate 12 0, List.replicate 3 ⟨0, .zero⟩⟩ : W) = ⟨6, m, 3, ((b : Int) % 256 * 65792 :: [0, 0, 0, 0, 0, 0, 0]) ++ List.replicate 12 0, List.replicate 3 ⟨0, .zero⟩⟩
  rw [e2]
 refine ⟨((b + 2 * k : Nat) : Int), (b : Int) * 65792 + 65536, ?_⟩
 rw [e, script6, runB_app, beg m hm b hb2, rounds6 m hm _ k b (by omega)]
 rfl
theorem end5 (m : Int) : busy (S5 m) 0 = 3 ∧ holdOf (S5 m) 0 = 0 ∧ holdOf (S5 m) 1 = 1 ∧ holdOf (S5 m) 2 = 0 := ⟨rfl, rfl, rfl, rfl⟩
theorem end6 (m t a : Int) : busy (S6 m t a) 0 = 1 ∧ holdOf (S6 m t a) 0 = 0 ∧ holdOf (S6 m t a) 1 = 2 ∧ holdOf (S6 m t a) 2 = 0 := ⟨rfl, rfl, rfl, rfl⟩
theorem pre_ok (o : Int) (w : W) (l : List Pk) (h : (runB o w l).2.1 = true) (k : Nat) (p : Pk) (hp : l[k]? = some p) : ((pick (runB o w (l.take k)).1 p.1 p.2).1.notes.all okN = true) ∧ runB o w (l.take (k + 1)) = ((pick (runB o w (l.take k)).1 p.1 p.2).2, (runB o w (l.take (k + 1))).2.1, (runB o w (l.take k)).2.2 + ((pick (runB o w (l.take k)).1 p.1 p.2).1.notes.filter (isN o)).length) ∧ (runB o w (l.take (k + 1))).2.2 ≤ (runB o w l).2.2 := by
 have e : l.take (k + 1) = l.take k ++ [p] := by rw [List.take_add_one, hp]; rfl
 have h1 : runB o w (l.take (k + 1)) = _ := (congrArg (runB o w) e).trans (runB_app o [p] (l.take k) w)
 have h2 : runB o w l = _ := (congrArg (runB o w) (List.take_append_drop (k + 1) l).symm).trans (runB_app o (l.drop (k + 1)) (l.take (k + 1)) w)
 rw [h2] at h ⊢
 have h3 : (runB o w (l.take (k + 1))).2.1 = true := (Bool.and_eq_true _ _ ▸ h).1
 rw [h1] at h3
 simp only [runB, Bool.and_eq_true, Bool.and_true] at h3
 refine ⟨h3.2, ?_, Nat.le_add_right _ _⟩
 rw [h1]
 simp [runB]
end Go.Proofs.YtkmlefbdhdlfmaaGreat.Stv
