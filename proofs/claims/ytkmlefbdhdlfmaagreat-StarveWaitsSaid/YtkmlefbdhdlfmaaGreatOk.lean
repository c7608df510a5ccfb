/- Words lie where a word of 32 bits lies: and so it stays through every access of a run. -/
import Derived.Test.YtkmlefbdhdlfmaaGreatLocks
namespace Stile
def W32 (v : Int) : Prop := 0 ≤ v ∧ v < 4294967296
instance (v : Int) : Decidable (W32 v) := by unfold W32; exact inferInstance
theorem w32_u32 (x : Int) : W32 (u32 x) := by unfold W32 u32; omega
structure Ok (r : Run) : Prop where
 words : ∀ i, W32 (r.l.getD i 0)
 a : W32 r.f.a
 b : W32 r.f.b
 old : W32 r.acc.old
theorem w32_zero : W32 0 := by unfold W32; omega
theorem words_set {l : List Int} (h : ∀ i, W32 (l.getD i 0)) (k : Nat) {x : Int} (hx : W32 x) : ∀ i, W32 ((l.set k x).getD i 0) := by
 intro i
 have := h i
 simp only [List.getD_eq_getElem?_getD] at this ⊢
 by_cases e : k = i
 ·subst e
  by_cases hl : k < l.length
  ·simpa [List.getElem?_set, hl] using hx
  ·simpa [List.getElem?_set, hl] using w32_zero
 ·rw [List.getElem?_set_ne e]
  exact this
theorem words_do {l : List Int} (h : ∀ i, W32 (l.getD i 0)) (k c : Int) {x y : Int} (hx : W32 x) (hy : W32 y) : (∀ i, W32 ((doAcc l k c x y).2.2.getD i 0)) ∧ W32 (doAcc l k c x y).1.old := by
 unfold doAcc
 split
 ·split
  ·exact ⟨h, h _⟩
  split
  ·exact ⟨words_set h _ (w32_u32 _), h _⟩
  split
  ·dsimp only
   split
   ·exact ⟨words_set h _ hy, h _⟩
   ·exact ⟨h, h _⟩
  split
  ·exact ⟨words_set h _ hx, h _⟩
  split
  ·exact ⟨words_set h _ hx, h _⟩
  ·exact ⟨h, w32_zero⟩
 ·exact ⟨h, w32_zero⟩
theorem Ok.acs {r : Run} (h : Ok r) (k c : Int) {x y : Int} (hx : W32 x) (hy : W32 y) : Ok (r.acs k c x y) :=
 ⟨(words_do h.words k c hx hy).1, h.a, h.b, (words_do h.words k c hx hy).2⟩
theorem Ok.load {r : Run} (h : Ok r) (c : Int) : Ok (r.load c) := h.acs 1 c w32_zero w32_zero
theorem Ok.store {r : Run} (h : Ok r) (c : Int) {x : Int} (hx : W32 x) : Ok (r.store c x) := h.acs 2 c hx w32_zero
theorem Ok.add {r : Run} (h : Ok r) (c : Int) {x : Int} (hx : W32 x) : Ok (r.add c x) := h.acs 3 c hx w32_zero
theorem Ok.swp {r : Run} (h : Ok r) (c : Int) {x : Int} (hx : W32 x) : Ok (r.swp c x) := h.acs 4 c hx w32_zero
theorem Ok.cas {r : Run} (h : Ok r) (c : Int) {x y : Int} (hx : W32 x) (hy : W32 y) : Ok (r.cas c x y) := h.acs 5 c hx hy
theorem Ok.setA {r : Run} (h : Ok r) {v : Int} (hv : W32 v) : Ok (r.setA v) := ⟨h.words, hv, h.b, h.old⟩
theorem Ok.setB {r : Run} (h : Ok r) {v : Int} (hv : W32 v) : Ok (r.setB v) := ⟨h.words, h.a, hv, h.old⟩
theorem Ok.go {r : Run} (h : Ok r) (n : Int) : Ok (r.go n) := ⟨h.words, h.a, h.b, h.old⟩
theorem Ok.note {r : Run} (h : Ok r) (w x : Int) : Ok (r.note w x) := ⟨h.words, h.a, h.b, h.old⟩
theorem Ok.fin {r : Run} (h : Ok r) (ok : Bool) : Ok (r.fin ok) := ⟨h.words, h.a, h.b, h.old⟩
theorem Ok.wake {r : Run} (h : Ok r) (c : Int) : Ok (r.wake c) := ⟨h.words, h.a, h.b, h.old⟩
theorem words_take {l : List Int} (h : ∀ i, W32 (l.getD i 0)) (n task : Int) : (∀ i, W32 ((takePermit l n task).2.2.getD i 0)) ∧ W32 (takePermit l n task).1.old := by
 unfold takePermit
 split
 ·exact words_do h _ _ w32_zero w32_zero
 ·exact ⟨h, w32_zero⟩
theorem words_wait {l : List Int} (h : ∀ i, W32 (l.getD i 0)) (n mode task st c : Int) (is : Int → Bool) : (∀ i, W32 ((waitStep l n mode task st c is).l.getD i 0)) ∧ W32 (waitStep l n mode task st c is).acc.old := by
 unfold waitStep
 dsimp only
 have h0 := (words_do h 1 c w32_zero w32_zero).2
 split
 ·split
  ·split
   ·exact ⟨h, h0⟩
   ·exact ⟨h, h0⟩
  ·exact ⟨h, h0⟩
 split
 ·exact words_do h 2 (pwatch n task) (w32_u32 _) w32_zero
 split
 ·exact words_take h n task
 ·exact words_do h 2 (pwatch n task) w32_zero w32_zero
theorem Ok.wait {r : Run} (h : Ok r) (c : Int) (is : Int → Bool) : Ok (r.wait c is) :=
 ⟨(words_wait h.words r.n r.mode r.task r.f.stage c is).1, h.a, h.b, (words_wait h.words r.n r.mode r.task r.f.stage c is).2⟩
end Stile
