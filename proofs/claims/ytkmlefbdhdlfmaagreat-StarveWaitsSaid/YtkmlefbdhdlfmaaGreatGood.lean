/- What a line leaves as it should be: words are words, the line behind it is one of the kind's, few notes. -/
import Derived.Test.YtkmlefbdhdlfmaaGreatValid
namespace Stile
set_option linter.unusedSimpArgs false
set_option linter.unusedVariables false
def Acd (l0 : List Int) (a : Acc) (l : List Int) : Prop := (a = .zero ∧ l = l0) ∨ ∃ k c x y, (doAcc l0 k c x y).2.1 = true ∧ a = (doAcc l0 k c x y).1 ∧ l = (doAcc l0 k c x y).2.2
theorem do_no {l : List Int} {k c x y : Int} (h : (doAcc l k c x y).2.1 = false) : (doAcc l k c x y).1 = .zero ∧ (doAcc l k c x y).2.2 = l := by
 unfold doAcc at h ⊢
 split at h
 ·rename_i hc
  rw [if_pos hc]
  dsimp only at h ⊢
  by_cases h1 : k = 1
  ·rw [if_pos h1] at h; cases h
  rw [if_neg h1] at h ⊢
  by_cases h2 : k = 3
  ·rw [if_pos h2] at h; cases h
  rw [if_neg h2] at h ⊢
  by_cases h3 : k = 5
  ·rw [if_pos h3] at h; cases h
  rw [if_neg h3] at h ⊢
  by_cases h4 : k = 2
  ·rw [if_pos h4] at h; cases h
  rw [if_neg h4] at h ⊢
  by_cases h5 : k = 4
  ·rw [if_pos h5] at h; cases h
  rw [if_neg h5]
  exact ⟨rfl, rfl⟩
 ·rename_i hc
  rw [if_neg hc]
  exact ⟨rfl, rfl⟩
theorem acd_do (l : List Int) (k c x y : Int) : Acd l (doAcc l k c x y).1 (doAcc l k c x y).2.2 := by
 cases h : (doAcc l k c x y).2.1 with
 | true => exact .inr ⟨k, c, x, y, h, rfl, rfl⟩
 | false => exact .inl (do_no h)
theorem acd_none (l : List Int) : Acd l .zero l := .inl ⟨rfl, rfl⟩
theorem acd_load (l : List Int) (c x y : Int) : Acd l (doAcc l 1 c x y).1 l := by
 have h := acd_do l 1 c x y
 have e : (doAcc l 1 c x y).2.2 = l := by unfold doAcc; split <;> simp
 rwa [e] at h
theorem acd_take (l : List Int) (n task : Int) : Acd l (takePermit l n task).1 (takePermit l n task).2.2 := by
 unfold takePermit
 split
 ·exact acd_do l _ _ _ _
 ·exact acd_none l
theorem acd_wait (l : List Int) (n mode task st c : Int) (is : Int → Bool) : Acd l (waitStep l n mode task st c is).acc (waitStep l n mode task st c is).l := by
 unfold waitStep
 dsimp only
 split
 ·split
  ·split
   ·exact acd_load l c 0 0
   ·exact acd_load l c 0 0
  ·exact acd_load l c 0 0
 split
 ·exact acd_do l _ _ _ _
 split
 ·exact acd_take l n task
 ·exact acd_do l _ _ _ _
structure St (r0 r : Run) (k : Nat) : Prop where
 ok : Ok r
 op : r.f.op = r0.f.op
 n : r.n = r0.n
 mode : r.mode = r0.mode
 task : r.task = r0.task
 len : r.l.length = r0.l.length
 notes : r.notes.length ≤ k
 wi : 0 ≤ r.f.wi ∧ r.f.wi ≤ 64
 args : ∀ x ∈ r.notes, x.arg ≠ 3
 ret : r.f.ret ≠ 3
 acc : Acd r0.l r.acc r.l
variable {r0 r : Run} {k j : Nat}
theorem St.mono (h : St r0 r k) (hk : k ≤ j) : St r0 r j := ⟨h.ok, h.op, h.n, h.mode, h.task, h.len, Nat.le_trans h.notes hk, h.wi, h.args, h.ret, h.acc⟩
theorem do_len (l : List Int) (k c x y : Int) : (doAcc l k c x y).2.2.length = l.length := by
 unfold doAcc
 split
 ·split
  ·rfl
  split
  ·simp
  split
  ·dsimp only; split <;> simp
  split
  ·simp
  split
  ·simp
  ·rfl
 ·rfl
theorem take_len (l : List Int) (n task : Int) : (takePermit l n task).2.2.length = l.length := by
 unfold takePermit
 split
 ·exact do_len l _ _ _ _
 ·rfl
theorem wait_len (l : List Int) (n mode task st c : Int) (is : Int → Bool) : (waitStep l n mode task st c is).l.length = l.length := by
 unfold waitStep
 dsimp only
 split
 ·split
  ·split <;> rfl
  ·rfl
 split
 ·exact do_len l _ _ _ _
 split
 ·exact take_len l n task
 ·exact do_len l _ _ _ _
theorem St.acs (h : St r0 r k) (a c : Int) {x y : Int} (hf : r.acc = .zero ∧ r.l = r0.l) (hx : W32 x) (hy : W32 y) : St r0 (r.acs a c x y) k := ⟨h.ok.acs a c hx hy, h.op, h.n, h.mode, h.task, (do_len r.l a c x y).trans h.len, h.notes, h.wi, h.args, h.ret, by rw [← hf.2]; exact acd_do r.l a c x y⟩
theorem St.load (h : St r0 r k) (c : Int) (hf : r.acc = .zero ∧ r.l = r0.l) : St r0 (r.load c) k := h.acs 1 c hf w32_zero w32_zero
theorem St.store (h : St r0 r k) (c : Int) {x : Int} (hf : r.acc = .zero ∧ r.l = r0.l) (hx : W32 x) : St r0 (r.store c x) k := h.acs 2 c hf hx w32_zero
theorem St.add (h : St r0 r k) (c : Int) {x : Int} (hf : r.acc = .zero ∧ r.l = r0.l) (hx : W32 x) : St r0 (r.add c x) k := h.acs 3 c hf hx w32_zero
theorem St.swp (h : St r0 r k) (c : Int) {x : Int} (hf : r.acc = .zero ∧ r.l = r0.l) (hx : W32 x) : St r0 (r.swp c x) k := h.acs 4 c hf hx w32_zero
theorem St.cas (h : St r0 r k) (c : Int) {x y : Int} (hf : r.acc = .zero ∧ r.l = r0.l) (hx : W32 x) (hy : W32 y) : St r0 (r.cas c x y) k := h.acs 5 c hf hx hy
theorem St.oldA (h : St r0 r k) : St r0 (r.setA r.old) k := ⟨h.ok.setA h.ok.old, h.op, h.n, h.mode, h.task, h.len, h.notes, h.wi, h.args, h.ret, h.acc⟩
theorem St.oldB (h : St r0 r k) : St r0 (r.setB r.old) k := ⟨h.ok.setB h.ok.old, h.op, h.n, h.mode, h.task, h.len, h.notes, h.wi, h.args, h.ret, h.acc⟩
theorem St.go (h : St r0 r k) (n : Int) : St r0 (r.go n) k := ⟨h.ok.go n, h.op, h.n, h.mode, h.task, h.len, h.notes, h.wi, h.args, h.ret, h.acc⟩
theorem St.note (h : St r0 r k) (w x : Int) (hx : x ≠ 3) : St r0 (r.note w x) (k + 1) := ⟨h.ok.note w x, h.op, h.n, h.mode, h.task, h.len, by simp [Run.note, h.notes], h.wi, fun y hy => by
 rcases List.mem_append.1 (show y ∈ r.notes ++ [⟨r.task, w, 0, x⟩] from hy) with q | q
 ·exact h.args y q
 ·simp only [List.mem_cons, List.not_mem_nil, or_false] at q
  rw [q]
  exact hx, h.ret, h.acc⟩
theorem St.fin (h : St r0 r k) (b : Bool) : St r0 (r.fin b) k := ⟨h.ok.fin b, h.op, h.n, h.mode, h.task, h.len, h.notes, h.wi, h.args, by show (if b then (2 : Int) else 1) ≠ 3; cases b <;> decide, h.acc⟩
theorem St.wake (h : St r0 r k) (c : Int) : St r0 (r.wake c) k := ⟨h.ok.wake c, h.op, h.n, h.mode, h.task, h.len, h.notes, by
 show 0 ≤ (wakeBegin r.mode c).i ∧ (wakeBegin r.mode c).i ≤ 64
 unfold wakeBegin
 split <;> (show (0:Int) ≤ 0 ∧ (0:Int) ≤ 64; omega), h.args, h.ret, h.acc⟩
theorem St.wait (h : St r0 r k) (c : Int) (is : Int → Bool) (hf : r.acc = .zero ∧ r.l = r0.l) : St r0 (r.wait c is) k := ⟨h.ok.wait c is, h.op, h.n, h.mode, h.task, (wait_len r.l r.n r.mode r.task r.f.stage c is).trans h.len, h.notes, h.wi, h.args, h.ret, by rw [← hf.2]; exact acd_wait r.l r.n r.mode r.task r.f.stage c is⟩
set_option maxHeartbeats 8000000 in
theorem Tf.good (hS : St r r 0) (hz : r.acc = Acc.zero) (hv : Tf.Valid r.f.op r.f.line) : St r (Tf.lines r) 10 ∧ ((Tf.lines r).f.ret ≠ 0 ∨ Tf.Valid r.f.op (Tf.lines r).f.line) := by
 rcases hv with ⟨hop, hln⟩ | ⟨hop, hln⟩ | ⟨hop, hln⟩ | ⟨hop, hln⟩ | ⟨hop, hln⟩ | ⟨hop, hln⟩ | ⟨hop, hln⟩ | ⟨hop, hln⟩ | ⟨hop, hln⟩ | ⟨hop, hln⟩ | ⟨hop, hln⟩ | ⟨hop, hln⟩ | ⟨hop, hln⟩ | ⟨hop, hln⟩ | ⟨hop, hln⟩ | ⟨hop, hln⟩ | ⟨hop, hln⟩ | ⟨hop, hln⟩ | ⟨hop, hln⟩ | ⟨hop, hln⟩
 all_goals
  simp only [Tf.lines, Tf.ticket, Tf.enter, Tf.look, Tf.take, Tf.tries, hop, hln, Int.reduceEq, Int.reduceSub, and_true, true_and, and_self, and_false, false_and, if_true, if_false, or_false, false_or, or_true, true_or, List.foldl, ne_eq, not_true, not_false_eq_true, apply_ite Prod.fst, apply_ite Prod.snd, Bool.false_eq_true, Bool.true_eq_false, ite_self, ite_true, ite_false, if_true_left, if_false_left]
 all_goals
  refine ⟨?_, ?_⟩
  ·(repeat' split) <;> (repeat (first | exact hS.mono (by omega) | refine St.go ?_ _ | refine St.note ?_ _ _ (by decide) | refine St.fin ?_ _ | refine St.wake ?_ _ | refine St.wait ?_ _ _ ⟨hz, rfl⟩ | refine St.oldA ?_ | refine St.oldB ?_ | refine St.load ?_ _ ⟨hz, rfl⟩ | refine St.add ?_ _ ⟨hz, rfl⟩ (by first | decide | exact w32_u32 _ | exact hS.ok.a | exact hS.ok.b | (unfold Pf.presence W32; omega)) | refine St.store ?_ _ ⟨hz, rfl⟩ (by first | decide | exact w32_u32 _ | exact hS.ok.a | exact hS.ok.b | (unfold Pf.presence W32; omega)) | refine St.swp ?_ _ ⟨hz, rfl⟩ (by first | decide | exact w32_u32 _ | exact hS.ok.a | exact hS.ok.b | (unfold Pf.presence W32; omega)) | refine St.cas ?_ _ ⟨hz, rfl⟩ (by first | decide | exact w32_u32 _ | exact hS.ok.a | exact hS.ok.b | (unfold Pf.presence W32; omega)) (by first | decide | exact w32_u32 _ | exact hS.ok.a | exact hS.ok.b | (unfold Pf.presence W32; omega)) | fail))
  ·(repeat' split) <;> first
    | (left; exact (by decide : (2 : Int) ≠ 0))
    | (left; exact (by decide : (1 : Int) ≠ 0))
    | (simp [Run.go, Run.setA, Run.setB, Run.acs, Run.note, Run.fin, Run.wake, Run.load, Run.store, Run.add, Run.swp, Run.cas, Run.wait, Tf.Valid, hop, hln]; done)
    | (simp [Run.go, Run.setA, Run.setB, Run.acs, Run.note, Run.fin, Run.wake, Run.load, Run.store, Run.add, Run.swp, Run.cas, Run.wait, Tf.Valid, hop, hln])
set_option maxHeartbeats 8000000 in
theorem Pf.good (hS : St r r 0) (hz : r.acc = Acc.zero) (hv : Pf.Valid r.f.op r.f.line) : St r (Pf.lines r) 10 ∧ ((Pf.lines r).f.ret ≠ 0 ∨ Pf.Valid r.f.op (Pf.lines r).f.line) := by
 rcases hv with ⟨hop, hln⟩ | ⟨hop, hln⟩ | ⟨hop, hln⟩ | ⟨hop, hln⟩ | ⟨hop, hln⟩ | ⟨hop, hln⟩ | ⟨hop, hln⟩ | ⟨hop, hln⟩ | ⟨hop, hln⟩ | ⟨hop, hln⟩ | ⟨hop, hln⟩ | ⟨hop, hln⟩ | ⟨hop, hln⟩ | ⟨hop, hln⟩ | ⟨hop, hln⟩ | ⟨hop, hln⟩ | ⟨hop, hln⟩ | ⟨hop, hln⟩ | ⟨hop, hln⟩ | ⟨hop, hln⟩ | ⟨hop, hln⟩ | ⟨hop, hln⟩ | ⟨hop, hln⟩ | ⟨hop, hln⟩ | ⟨hop, hln⟩ | ⟨hop, hln⟩ | ⟨hop, hln⟩ | ⟨hop, hln⟩ | ⟨hop, hln⟩ | ⟨hop, hln⟩ | ⟨hop, hln⟩ | ⟨hop, hln⟩ | ⟨hop, hln⟩ | ⟨hop, hln⟩ | ⟨hop, hln⟩ | ⟨hop, hln⟩ | ⟨hop, hln⟩
 all_goals
  simp only [Pf.lines, Pf.reader, Pf.pass, Pf.own, Pf.inside, Pf.last, Pf.tries, Pf.leaves, hop, hln, Int.reduceEq, Int.reduceSub, and_true, true_and, and_self, and_false, false_and, if_true, if_false, or_false, false_or, or_true, true_or, List.foldl, ne_eq, not_true, not_false_eq_true, apply_ite Prod.fst, apply_ite Prod.snd, Bool.false_eq_true, Bool.true_eq_false, ite_self, ite_true, ite_false, if_true_left, if_false_left]
 all_goals
  refine ⟨?_, ?_⟩
  ·(repeat' split) <;> (repeat (first | exact hS.mono (by omega) | refine St.go ?_ _ | refine St.note ?_ _ _ (by decide) | refine St.fin ?_ _ | refine St.wake ?_ _ | refine St.wait ?_ _ _ ⟨hz, rfl⟩ | refine St.oldA ?_ | refine St.oldB ?_ | refine St.load ?_ _ ⟨hz, rfl⟩ | refine St.add ?_ _ ⟨hz, rfl⟩ (by first | decide | exact w32_u32 _ | exact hS.ok.a | exact hS.ok.b | (unfold Pf.presence W32; omega)) | refine St.store ?_ _ ⟨hz, rfl⟩ (by first | decide | exact w32_u32 _ | exact hS.ok.a | exact hS.ok.b | (unfold Pf.presence W32; omega)) | refine St.swp ?_ _ ⟨hz, rfl⟩ (by first | decide | exact w32_u32 _ | exact hS.ok.a | exact hS.ok.b | (unfold Pf.presence W32; omega)) | refine St.cas ?_ _ ⟨hz, rfl⟩ (by first | decide | exact w32_u32 _ | exact hS.ok.a | exact hS.ok.b | (unfold Pf.presence W32; omega)) (by first | decide | exact w32_u32 _ | exact hS.ok.a | exact hS.ok.b | (unfold Pf.presence W32; omega)) | fail))
  ·(repeat' split) <;> first
    | (left; exact (by decide : (2 : Int) ≠ 0))
    | (left; exact (by decide : (1 : Int) ≠ 0))
    | (simp [Run.go, Run.setA, Run.setB, Run.acs, Run.note, Run.fin, Run.wake, Run.load, Run.store, Run.add, Run.swp, Run.cas, Run.wait, Pf.Valid, hop, hln]; done)
    | (simp [Run.go, Run.setA, Run.setB, Run.acs, Run.note, Run.fin, Run.wake, Run.load, Run.store, Run.add, Run.swp, Run.cas, Run.wait, Pf.Valid, hop, hln])
set_option maxHeartbeats 8000000 in
theorem Fq.good (hS : St r r 0) (hz : r.acc = Acc.zero) (hv : Fq.Valid r.f.op r.f.line) : St r (Fq.lines r) 10 ∧ ((Fq.lines r).f.ret ≠ 0 ∨ Fq.Valid r.f.op (Fq.lines r).f.line) := by
 rcases hv with ⟨hop, hln⟩ | ⟨hop, hln⟩ | ⟨hop, hln⟩ | ⟨hop, hln⟩ | ⟨hop, hln⟩ | ⟨hop, hln⟩ | ⟨hop, hln⟩ | ⟨hop, hln⟩ | ⟨hop, hln⟩ | ⟨hop, hln⟩ | ⟨hop, hln⟩ | ⟨hop, hln⟩ | ⟨hop, hln⟩ | ⟨hop, hln⟩ | ⟨hop, hln⟩ | ⟨hop, hln⟩ | ⟨hop, hln⟩ | ⟨hop, hln⟩ | ⟨hop, hln⟩ | ⟨hop, hln⟩ | ⟨hop, hln⟩ | ⟨hop, hln⟩ | ⟨hop, hln⟩ | ⟨hop, hln⟩ | ⟨hop, hln⟩ | ⟨hop, hln⟩ | ⟨hop, hln⟩ | ⟨hop, hln⟩ | ⟨hop, hln⟩ | ⟨hop, hln⟩ | ⟨hop, hln⟩ | ⟨hop, hln⟩ | ⟨hop, hln⟩ | ⟨hop, hln⟩ | ⟨hop, hln⟩ | ⟨hop, hln⟩ | ⟨hop, hln⟩ | ⟨hop, hln⟩ | ⟨hop, hln⟩ | ⟨hop, hln⟩ | ⟨hop, hln⟩ | ⟨hop, hln⟩ | ⟨hop, hln⟩ | ⟨hop, hln⟩ | ⟨hop, hln⟩ | ⟨hop, hln⟩ | ⟨hop, hln⟩ | ⟨hop, hln⟩
 all_goals
  simp only [Fq.lines, Fq.enter, Fq.give, Fq.try_, Fq.reader, Fq.writer, Fq.decide_, Fq.others, Mx.enter, Mx.give, Mx.try_, Mx.noted, hop, hln, Int.reduceEq, Int.reduceSub, and_true, true_and, and_self, and_false, false_and, if_true, if_false, or_false, false_or, or_true, true_or, List.foldl, ne_eq, not_true, not_false_eq_true, apply_ite Prod.fst, apply_ite Prod.snd, Bool.false_eq_true, Bool.true_eq_false, ite_self, ite_true, ite_false, if_true_left, if_false_left]
 all_goals
  refine ⟨?_, ?_⟩
  ·(repeat' split) <;> (repeat (first | exact hS.mono (by omega) | refine St.go ?_ _ | refine St.note ?_ _ _ (by decide) | refine St.fin ?_ _ | refine St.wake ?_ _ | refine St.wait ?_ _ _ ⟨hz, rfl⟩ | refine St.oldA ?_ | refine St.oldB ?_ | refine St.load ?_ _ ⟨hz, rfl⟩ | refine St.add ?_ _ ⟨hz, rfl⟩ (by first | decide | exact w32_u32 _ | exact hS.ok.a | exact hS.ok.b | (unfold Pf.presence W32; omega)) | refine St.store ?_ _ ⟨hz, rfl⟩ (by first | decide | exact w32_u32 _ | exact hS.ok.a | exact hS.ok.b | (unfold Pf.presence W32; omega)) | refine St.swp ?_ _ ⟨hz, rfl⟩ (by first | decide | exact w32_u32 _ | exact hS.ok.a | exact hS.ok.b | (unfold Pf.presence W32; omega)) | refine St.cas ?_ _ ⟨hz, rfl⟩ (by first | decide | exact w32_u32 _ | exact hS.ok.a | exact hS.ok.b | (unfold Pf.presence W32; omega)) (by first | decide | exact w32_u32 _ | exact hS.ok.a | exact hS.ok.b | (unfold Pf.presence W32; omega)) | fail))
  ·(repeat' split) <;> first
    | (left; exact (by decide : (2 : Int) ≠ 0))
    | (left; exact (by decide : (1 : Int) ≠ 0))
    | (simp [Run.go, Run.setA, Run.setB, Run.acs, Run.note, Run.fin, Run.wake, Run.load, Run.store, Run.add, Run.swp, Run.cas, Run.wait, Fq.Valid, hop, hln]; done)
    | (simp [Run.go, Run.setA, Run.setB, Run.acs, Run.note, Run.fin, Run.wake, Run.load, Run.store, Run.add, Run.swp, Run.cas, Run.wait, Fq.Valid, hop, hln])
set_option maxHeartbeats 8000000 in
theorem Pq.good (hS : St r r 0) (hz : r.acc = Acc.zero) (hv : Pq.Valid r.f.op r.f.line) : St r (Pq.lines r) 10 ∧ ((Pq.lines r).f.ret ≠ 0 ∨ Pq.Valid r.f.op (Pq.lines r).f.line) := by
 rcases hv with ⟨hop, hln⟩ | ⟨hop, hln⟩ | ⟨hop, hln⟩ | ⟨hop, hln⟩ | ⟨hop, hln⟩ | ⟨hop, hln⟩ | ⟨hop, hln⟩ | ⟨hop, hln⟩ | ⟨hop, hln⟩ | ⟨hop, hln⟩ | ⟨hop, hln⟩ | ⟨hop, hln⟩ | ⟨hop, hln⟩ | ⟨hop, hln⟩ | ⟨hop, hln⟩ | ⟨hop, hln⟩ | ⟨hop, hln⟩ | ⟨hop, hln⟩ | ⟨hop, hln⟩ | ⟨hop, hln⟩ | ⟨hop, hln⟩ | ⟨hop, hln⟩ | ⟨hop, hln⟩ | ⟨hop, hln⟩ | ⟨hop, hln⟩ | ⟨hop, hln⟩ | ⟨hop, hln⟩ | ⟨hop, hln⟩ | ⟨hop, hln⟩ | ⟨hop, hln⟩ | ⟨hop, hln⟩ | ⟨hop, hln⟩ | ⟨hop, hln⟩ | ⟨hop, hln⟩ | ⟨hop, hln⟩ | ⟨hop, hln⟩ | ⟨hop, hln⟩ | ⟨hop, hln⟩ | ⟨hop, hln⟩ | ⟨hop, hln⟩ | ⟨hop, hln⟩ | ⟨hop, hln⟩ | ⟨hop, hln⟩ | ⟨hop, hln⟩ | ⟨hop, hln⟩ | ⟨hop, hln⟩ | ⟨hop, hln⟩ | ⟨hop, hln⟩ | ⟨hop, hln⟩ | ⟨hop, hln⟩
 all_goals
  simp only [Pq.lines, Pq.lock, Pq.leave, Pq.try_, Pq.inside, Pq.last, Pq.decide_, Pf.reader, Mx.enter, Mx.give, Mx.try_, Mx.noted, hop, hln, Int.reduceEq, Int.reduceSub, and_true, true_and, and_self, and_false, false_and, if_true, if_false, or_false, false_or, or_true, true_or, List.foldl, ne_eq, not_true, not_false_eq_true, apply_ite Prod.fst, apply_ite Prod.snd, Bool.false_eq_true, Bool.true_eq_false, ite_self, ite_true, ite_false, if_true_left, if_false_left]
 all_goals
  refine ⟨?_, ?_⟩
  ·(repeat' split) <;> (repeat (first | exact hS.mono (by omega) | refine St.go ?_ _ | refine St.note ?_ _ _ (by decide) | refine St.fin ?_ _ | refine St.wake ?_ _ | refine St.wait ?_ _ _ ⟨hz, rfl⟩ | refine St.oldA ?_ | refine St.oldB ?_ | refine St.load ?_ _ ⟨hz, rfl⟩ | refine St.add ?_ _ ⟨hz, rfl⟩ (by first | decide | exact w32_u32 _ | exact hS.ok.a | exact hS.ok.b | (unfold Pf.presence W32; omega)) | refine St.store ?_ _ ⟨hz, rfl⟩ (by first | decide | exact w32_u32 _ | exact hS.ok.a | exact hS.ok.b | (unfold Pf.presence W32; omega)) | refine St.swp ?_ _ ⟨hz, rfl⟩ (by first | decide | exact w32_u32 _ | exact hS.ok.a | exact hS.ok.b | (unfold Pf.presence W32; omega)) | refine St.cas ?_ _ ⟨hz, rfl⟩ (by first | decide | exact w32_u32 _ | exact hS.ok.a | exact hS.ok.b | (unfold Pf.presence W32; omega)) (by first | decide | exact w32_u32 _ | exact hS.ok.a | exact hS.ok.b | (unfold Pf.presence W32; omega)) | fail))
  ·(repeat' split) <;> first
    | (left; exact (by decide : (2 : Int) ≠ 0))
    | (left; exact (by decide : (1 : Int) ≠ 0))
    | (simp [Run.go, Run.setA, Run.setB, Run.acs, Run.note, Run.fin, Run.wake, Run.load, Run.store, Run.add, Run.swp, Run.cas, Run.wait, Pq.Valid, hop, hln]; done)
    | (simp [Run.go, Run.setA, Run.setB, Run.acs, Run.note, Run.fin, Run.wake, Run.load, Run.store, Run.add, Run.swp, Run.cas, Run.wait, Pq.Valid, hop, hln])
set_option maxHeartbeats 8000000 in
theorem Rf.good (hS : St r r 0) (hz : r.acc = Acc.zero) (hv : Rf.Valid r.f.op r.f.line) : St r (Rf.lines r) 10 ∧ ((Rf.lines r).f.ret ≠ 0 ∨ Rf.Valid r.f.op (Rf.lines r).f.line) := by
 rcases hv with ⟨hop, hln⟩ | ⟨hop, hln⟩ | ⟨hop, hln⟩ | ⟨hop, hln⟩ | ⟨hop, hln⟩ | ⟨hop, hln⟩ | ⟨hop, hln⟩ | ⟨hop, hln⟩ | ⟨hop, hln⟩ | ⟨hop, hln⟩ | ⟨hop, hln⟩ | ⟨hop, hln⟩ | ⟨hop, hln⟩ | ⟨hop, hln⟩
 all_goals
  simp only [Rf.lines, Rf.tries, Rf.end_, Rf.refuse, Rf.choose, Rf.swap, hop, hln, Int.reduceEq, Int.reduceSub, and_true, true_and, and_self, and_false, false_and, if_true, if_false, or_false, false_or, or_true, true_or, List.foldl, ne_eq, not_true, not_false_eq_true, apply_ite Prod.fst, apply_ite Prod.snd, Bool.false_eq_true, Bool.true_eq_false, ite_self, ite_true, ite_false, if_true_left, if_false_left]
 all_goals
  refine ⟨?_, ?_⟩
  ·(repeat' split) <;> (repeat (first | exact hS.mono (by omega) | refine St.go ?_ _ | refine St.note ?_ _ _ (by decide) | refine St.fin ?_ _ | refine St.wake ?_ _ | refine St.wait ?_ _ _ ⟨hz, rfl⟩ | refine St.oldA ?_ | refine St.oldB ?_ | refine St.load ?_ _ ⟨hz, rfl⟩ | refine St.add ?_ _ ⟨hz, rfl⟩ (by first | decide | exact w32_u32 _ | exact hS.ok.a | exact hS.ok.b | (unfold Pf.presence W32; omega)) | refine St.store ?_ _ ⟨hz, rfl⟩ (by first | decide | exact w32_u32 _ | exact hS.ok.a | exact hS.ok.b | (unfold Pf.presence W32; omega)) | refine St.swp ?_ _ ⟨hz, rfl⟩ (by first | decide | exact w32_u32 _ | exact hS.ok.a | exact hS.ok.b | (unfold Pf.presence W32; omega)) | refine St.cas ?_ _ ⟨hz, rfl⟩ (by first | decide | exact w32_u32 _ | exact hS.ok.a | exact hS.ok.b | (unfold Pf.presence W32; omega)) (by first | decide | exact w32_u32 _ | exact hS.ok.a | exact hS.ok.b | (unfold Pf.presence W32; omega)) | fail))
  ·(repeat' split) <;> first
    | (left; exact (by decide : (2 : Int) ≠ 0))
    | (left; exact (by decide : (1 : Int) ≠ 0))
    | (simp [Run.go, Run.setA, Run.setB, Run.acs, Run.note, Run.fin, Run.wake, Run.load, Run.store, Run.add, Run.swp, Run.cas, Run.wait, Rf.Valid, hop, hln]; done)
    | (simp [Run.go, Run.setA, Run.setB, Run.acs, Run.note, Run.fin, Run.wake, Run.load, Run.store, Run.add, Run.swp, Run.cas, Run.wait, Rf.Valid, hop, hln])
set_option maxHeartbeats 8000000 in
theorem Wf.good (hS : St r r 0) (hz : r.acc = Acc.zero) (hv : Wf.Valid r.f.op r.f.line) : St r (Wf.lines r) 10 ∧ ((Wf.lines r).f.ret ≠ 0 ∨ Wf.Valid r.f.op (Wf.lines r).f.line) := by
 rcases hv with ⟨hop, hln⟩ | ⟨hop, hln⟩ | ⟨hop, hln⟩ | ⟨hop, hln⟩ | ⟨hop, hln⟩ | ⟨hop, hln⟩ | ⟨hop, hln⟩ | ⟨hop, hln⟩ | ⟨hop, hln⟩ | ⟨hop, hln⟩ | ⟨hop, hln⟩ | ⟨hop, hln⟩ | ⟨hop, hln⟩ | ⟨hop, hln⟩ | ⟨hop, hln⟩ | ⟨hop, hln⟩ | ⟨hop, hln⟩
 all_goals
  simp only [Wf.lines, Wf.calmly, Wf.choose, Wf.swap, Wf.leaves, Rf.end_, hop, hln, Int.reduceEq, Int.reduceSub, and_true, true_and, and_self, and_false, false_and, if_true, if_false, or_false, false_or, or_true, true_or, List.foldl, ne_eq, not_true, not_false_eq_true, apply_ite Prod.fst, apply_ite Prod.snd, Bool.false_eq_true, Bool.true_eq_false, ite_self, ite_true, ite_false, if_true_left, if_false_left]
 all_goals
  refine ⟨?_, ?_⟩
  ·(repeat' split) <;> (repeat (first | exact hS.mono (by omega) | refine St.go ?_ _ | refine St.note ?_ _ _ (by decide) | refine St.fin ?_ _ | refine St.wake ?_ _ | refine St.wait ?_ _ _ ⟨hz, rfl⟩ | refine St.oldA ?_ | refine St.oldB ?_ | refine St.load ?_ _ ⟨hz, rfl⟩ | refine St.add ?_ _ ⟨hz, rfl⟩ (by first | decide | exact w32_u32 _ | exact hS.ok.a | exact hS.ok.b | (unfold Pf.presence W32; omega)) | refine St.store ?_ _ ⟨hz, rfl⟩ (by first | decide | exact w32_u32 _ | exact hS.ok.a | exact hS.ok.b | (unfold Pf.presence W32; omega)) | refine St.swp ?_ _ ⟨hz, rfl⟩ (by first | decide | exact w32_u32 _ | exact hS.ok.a | exact hS.ok.b | (unfold Pf.presence W32; omega)) | refine St.cas ?_ _ ⟨hz, rfl⟩ (by first | decide | exact w32_u32 _ | exact hS.ok.a | exact hS.ok.b | (unfold Pf.presence W32; omega)) (by first | decide | exact w32_u32 _ | exact hS.ok.a | exact hS.ok.b | (unfold Pf.presence W32; omega)) | fail))
  ·(repeat' split) <;> first
    | (left; exact (by decide : (2 : Int) ≠ 0))
    | (left; exact (by decide : (1 : Int) ≠ 0))
    | (simp [Run.go, Run.setA, Run.setB, Run.acs, Run.note, Run.fin, Run.wake, Run.load, Run.store, Run.add, Run.swp, Run.cas, Run.wait, Wf.Valid, hop, hln]; done)
    | (simp [Run.go, Run.setA, Run.setB, Run.acs, Run.note, Run.fin, Run.wake, Run.load, Run.store, Run.add, Run.swp, Run.cas, Run.wait, Wf.Valid, hop, hln])
def KValid (kind op line : Int) : Prop := (kind = 1 ∧ Tf.Valid op line) ∨ (kind = 2 ∧ Pf.Valid op line) ∨ (kind = 3 ∧ Pq.Valid op line) ∨ (kind = 4 ∧ Fq.Valid op line) ∨ (kind = 5 ∧ Rf.Valid op line) ∨ (kind = 6 ∧ Wf.Valid op line)
theorem lines_good {kind : Int} (hS : St r r 0) (hz : r.acc = Acc.zero) (hk : KValid kind r.f.op r.f.line) : St r (linesOf kind r) 10 ∧ ((linesOf kind r).f.ret ≠ 0 ∨ KValid kind r.f.op (linesOf kind r).f.line) := by
 rcases hk with ⟨rfl, hv⟩ | ⟨rfl, hv⟩ | ⟨rfl, hv⟩ | ⟨rfl, hv⟩ | ⟨rfl, hv⟩ | ⟨rfl, hv⟩
 ·have h := Tf.good hS hz hv
  exact ⟨h.1, h.2.imp id (fun q => .inl ⟨rfl, q⟩)⟩
 ·have h := Pf.good hS hz hv
  exact ⟨h.1, h.2.imp id (fun q => .inr (.inl ⟨rfl, q⟩))⟩
 ·have h := Pq.good hS hz hv
  exact ⟨h.1, h.2.imp id (fun q => .inr (.inr (.inl ⟨rfl, q⟩)))⟩
 ·have h := Fq.good hS hz hv
  exact ⟨h.1, h.2.imp id (fun q => .inr (.inr (.inr (.inl ⟨rfl, q⟩))))⟩
 ·have h := Rf.good hS hz hv
  exact ⟨h.1, h.2.imp id (fun q => .inr (.inr (.inr (.inr (.inl ⟨rfl, q⟩)))))⟩
 ·have h := Wf.good hS hz hv
  exact ⟨h.1, h.2.imp id (fun q => .inr (.inr (.inr (.inr (.inr ⟨rfl, q⟩)))))⟩
theorem valid_first {kind op : Int} (hk : 1 ≤ kind ∧ kind ≤ 6) (ho : 1 ≤ op ∧ op ≤ 8) : KValid kind op 0 := by
 have h1 : op = 1 ∨ op = 2 ∨ op = 3 ∨ op = 4 ∨ op = 5 ∨ op = 6 ∨ op = 7 ∨ op = 8 := by omega
 have h2 : kind = 1 ∨ kind = 2 ∨ kind = 3 ∨ kind = 4 ∨ kind = 5 ∨ kind = 6 := by omega
 unfold KValid
 rcases h2 with rfl | rfl | rfl | rfl | rfl | rfl <;> rcases h1 with rfl | rfl | rfl | rfl | rfl | rfl | rfl | rfl <;> simp [Tf.Valid, Pf.Valid, Pq.Valid, Fq.Valid, Rf.Valid, Wf.Valid]
structure Fok (kind : Int) (f : Frame) : Prop where
 a : W32 f.a
 b : W32 f.b
 wi : 0 ≤ f.wi ∧ f.wi ≤ 64
 valid : f.op ≠ 0 → f.ret ≠ 0 ∨ KValid kind f.op f.line
 on : f.ret ≠ 0 → f.on = true
 ret : f.ret ≠ 3
theorem fok_zero (kind : Int) : Fok kind .zero := ⟨w32_zero, w32_zero, by decide, fun h => absurd rfl h, fun h => absurd rfl h, by decide⟩
theorem fok_begin {kind op : Int} (hk : 1 ≤ kind ∧ kind ≤ 6) (ho : 1 ≤ op ∧ op ≤ 8) : Fok kind { Frame.zero with op := op } :=
 ⟨w32_zero, w32_zero, (show (0 : Int) ≤ 0 ∧ (0 : Int) ≤ 64 by decide), fun _ => .inr (valid_first hk ho), fun h => absurd rfl h, (show (0 : Int) ≠ 3 by decide)⟩
structure Good (w : W) : Prop where
 kind : 1 ≤ w.kind ∧ w.kind ≤ 6
 mode : w.mode = 1 ∨ w.mode = 2
 n : w.n = w.t.length
 few : 1 ≤ w.n ∧ w.n ≤ 64
 words : ∀ i, W32 (w.l.getD i 0)
 size : w.l.length = 8 + 4 * w.t.length
 tasks : ∀ i, Fok w.kind (w.t.getD i ⟨0, .zero⟩).f
structure Sg (kind : Int) (r r2 : Run) : Prop where
 words : ∀ i, W32 (r2.l.getD i 0)
 a : W32 r2.f.a
 b : W32 r2.f.b
 op : r2.f.op = r.f.op
 len : r2.l.length = r.l.length
 notes : r2.notes.length ≤ 10
 wi : 0 ≤ r2.f.wi ∧ r2.f.wi ≤ 64
 valid : r2.f.ret ≠ 0 ∨ KValid kind r2.f.op r2.f.line
 args : ∀ x ∈ r2.notes, x.arg ≠ 3
 ret : r2.f.ret ≠ 3
 acc : Acd r.l r2.acc r2.l
theorem wake_good (l : List Int) (n : Int) (x : WakeSt) (hl : ∀ i, W32 (l.getD i 0)) (hi : 0 ≤ x.i ∧ x.i ≤ 64) (hn : n ≤ 64) : (∀ i, W32 ((wakeStep l n x).2.2.getD i 0)) ∧ (wakeStep l n x).2.2.length = l.length ∧ 0 ≤ (wakeStep l n x).1.i ∧ (wakeStep l n x).1.i ≤ 64 := by
 have hnext : 0 ≤ (wakeNext n x).i ∧ (wakeNext n x).i ≤ 64 := by
  unfold wakeNext
  split
  ·exact ⟨Int.le_refl 0, by decide⟩
  ·show 0 ≤ x.i + 1 ∧ x.i + 1 ≤ 64
   omega
 have h0 : (0 : Int) ≤ WakeSt.none.i ∧ WakeSt.none.i ≤ 64 := by decide
 unfold wakeStep
 dsimp only
 split
 ·exact ⟨hl, rfl, h0⟩
 split
 ·split
  ·exact ⟨(words_do hl 2 _ (by decide) w32_zero).1, do_len l _ _ _ _, hnext⟩
  ·exact ⟨(words_do hl 2 _ (by decide) w32_zero).1, do_len l _ _ _ _, h0⟩
 split
 ·exact ⟨hl, rfl, h0⟩
 split
 ·exact ⟨hl, rfl, hi⟩
 ·exact ⟨hl, rfl, hnext⟩
theorem wake_acd (l : List Int) (n : Int) (x : WakeSt) : Acd l (wakeStep l n x).2.1 (wakeStep l n x).2.2 := by
 unfold wakeStep
 dsimp only
 split
 ·exact acd_none l
 split
 ·split
  ·exact acd_do l _ _ _ _
  ·rename_i h
   show Acd l .zero (doAcc l 2 (ppermit n x.i) 1 0).2.2
   rw [(do_no (Bool.eq_false_iff.mpr h)).2]
   exact acd_none l
 split
 ·exact acd_load l _ _ _
 split
 ·exact acd_load l _ _ _
 ·exact acd_load l _ _ _
theorem stepRun_good {kind : Int} (r : Run) (hw : ∀ i, W32 (r.l.getD i 0)) (hf : Fok kind r.f) (hop : r.f.op ≠ 0) (hn : r.n ≤ 64) : Sg kind r (stepRun kind r) := by
 unfold stepRun
 dsimp only
 split
 ·rename_i hon
  have h := wake_good r.l r.n ⟨r.f.on, r.f.wc, r.f.wi, r.f.hit⟩ hw hf.wi hn
  exact ⟨h.1, hf.a, hf.b, rfl, h.2.1, Nat.zero_le _, h.2.2, hf.valid hop, (fun x hx => nomatch hx), hf.ret, wake_acd r.l r.n ⟨r.f.on, r.f.wc, r.f.wi, r.f.hit⟩⟩
 ·rename_i hon
  have hr : r.f.ret = 0 := by
   by_cases e : r.f.ret = 0
   ·exact e
   ·exact absurd (hf.on e) hon
  have hv : KValid kind r.f.op r.f.line := by
   rcases hf.valid hop with q | q
   ·exact absurd hr q
   ·exact q
  have hS : St { r with acc := Acc.zero, notes := [] } { r with acc := Acc.zero, notes := [] } 0 := ⟨⟨hw, hf.a, hf.b, w32_zero⟩, rfl, rfl, rfl, rfl, rfl, Nat.le_refl 0, hf.wi, (fun x hx => nomatch hx), hf.ret, acd_none _⟩
  obtain ⟨h1, h2⟩ := lines_good (kind := kind) hS rfl hv
  exact ⟨h1.ok.words, h1.ok.a, h1.ok.b, h1.op, h1.len, h1.notes, h1.wi, by rw [h1.op]; exact h2, h1.args, h1.ret, h1.acc⟩
theorem set_tasks {w : W} (h : Good w) (i : Nat) (x : Task) (hx : Fok w.kind x.f) (l : List Int) (hl : ∀ i, W32 (l.getD i 0)) (hs : l.length = w.l.length) : Good { w with l := l, t := w.t.set i x } := by
 refine ⟨h.kind, h.mode, by simpa using h.n, h.few, hl, by simpa [hs] using h.size, fun j => ?_⟩
 show Fok w.kind ((w.t.set i x).getD j ⟨0, .zero⟩).f
 by_cases e : i = j
 ·subst e
  by_cases hi : i < w.t.length
  ·simpa [List.getD_eq_getElem?_getD, hi] using hx
  ·have : (w.t.set i x).getD i ⟨0, .zero⟩ = ⟨0, .zero⟩ := by simp [List.getD_eq_getElem?_getD, hi]
   rw [this]
   exact fok_zero _
 ·rw [show (w.t.set i x).getD j ⟨0, .zero⟩ = w.t.getD j ⟨0, .zero⟩ from by simp [List.getD_eq_getElem?_getD, List.getElem?_set_ne e]]
  exact h.tasks j
theorem step_good {w : W} (h : Good w) (i : Int) (hop : (taskAt w i).f.op ≠ 0) : Good (step w i).2 ∧ (stepRun w.kind (runAt w i)).notes.length ≤ 10 := by
 have hf : Fok w.kind (runAt w i).f := h.tasks i.toNat
 have hs := stepRun_good (kind := w.kind) (runAt w i) h.words hf hop h.few.2
 refine ⟨?_, hs.notes⟩
 unfold step
 dsimp only
 split
 ·exact set_tasks h _ _ (fok_zero _) _ hs.words hs.len
 ·rename_i hov
  refine set_tasks h _ _ ⟨hs.a, hs.b, hs.wi, fun _ => hs.valid, fun hr => ?_, hs.ret⟩ _ hs.words hs.len
  cases hon : (stepRun w.kind (runAt w i)).f.on with
  | true => rfl
  | false => exact absurd (by unfold Run.over; rw [hon]; simp; exact hr) hov
theorem begin_set {w : W} (h : Good w) (i : Int) (op : Int) (ho : 1 ≤ op ∧ op ≤ 8) : Good { w with t := w.t.set i.toNat ⟨atHold op (taskAt w i).hold, { Frame.zero with op := op }⟩ } :=
 set_tasks h i.toNat ⟨atHold op (taskAt w i).hold, { Frame.zero with op := op }⟩ (fok_begin h.kind ho) w.l h.words rfl
theorem taskAt_set {w : W} (i : Int) (hi : there w i) (x : Task) : taskAt { w with t := w.t.set i.toNat x } i = x := by
 unfold taskAt there at *
 have : i.toNat < w.t.length := by omega
 simp [List.getD_eq_getElem?_getD, this]
theorem pick_good {w : W} (h : Good w) (i op : Int) : Good (pick w i op).2 := by
 unfold pick
 split
 ·rename_i hi
  split
  ·split
   ·rename_i ho
    unfold begin_
    dsimp only
    split
    ·refine (step_good (begin_set h i op ho) i ?_).1
     rw [taskAt_set i hi]
     show op ≠ 0
     omega
    ·exact h
   ·exact h
  ·split
   ·exact h
   ·rename_i hop _
    exact (step_good h i hop).1
 ·exact h
end Stile
