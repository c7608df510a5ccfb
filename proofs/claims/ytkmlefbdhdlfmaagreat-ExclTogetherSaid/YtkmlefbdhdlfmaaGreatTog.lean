/- Readers together: of every kind a script behind which all read, and what its notes make of it. Plain. -/
import Derived.Test.YtkmlefbdhdlfmaaGreatGood
namespace Stile
set_option linter.unusedSimpArgs false
set_option linter.unusedVariables false

/-- Picks of a task that is within an operation, until it is through. -/
def drive (w : W) (i : Int) : Nat → List Note × W
  | 0 => ([], w)
  | s + 1 => if busy w i ≠ 0 then ((pick w i 0).1.notes ++ (drive (pick w i 0).2 i s).1, (drive (pick w i 0).2 i s).2) else ([], w)
def readOne (w : W) (i : Int) : List Note × W :=
  ((pick w i 1).1.notes ++ (drive (pick w i 1).2 i 300).1, (drive (pick w i 1).2 i 300).2)
def readAll (w : W) : Nat → List Note × W
  | 0 => ([], w)
  | j + 1 => ((readAll w j).1 ++ (readOne (readAll w j).2 j).1, (readOne (readAll w j).2 j).2)

/-- What all hold behind a note; how many hold what. -/
def exStep (n : Int) (hs : List Int) (x : Note) : List Int :=
  if 0 ≤ x.task ∧ x.task < n then
    (if x.what = 1 ∧ may x.op (hs.getD x.task.toNat 0) = true then hs.set x.task.toNat (atHold x.op (hs.getD x.task.toNat 0))
     else if x.what = 11 then hs.set x.task.toNat (behind x.op x.arg (hs.getD x.task.toNat 0)) else hs)
  else hs
def exCount (hs : List Int) (v : Int) : Int := ((hs.filter (fun h => decide (h = v))).length : Int)
def exMost (n : Int) : List Note → List Int → Int → Int
  | [], _, m => m
  | x :: l, hs, m => exMost n l (exStep n hs x) (max m (exCount (exStep n hs x) 1))
def exHolds (n : Int) : List Note → List Int → List Int
  | [], hs => hs
  | x :: l, hs => exHolds n l (exStep n hs x)

/-! ### one reader -/
/-- The first j tasks read, the others are idle. -/
structure Rd (w : W) (n j : Nat) : Prop where
  wn : w.n = n
  right : 1 ≤ n ∧ n ≤ 64
  len : w.l.length = 8 + 4 * n
  tl : w.t.length = n
  t : ∀ x, x < n → w.t.getD x ⟨0, .zero⟩ = ⟨if x < j then 1 else 0, .zero⟩
def Cells (w : W) (j : Nat) : Prop :=
  if w.kind = 1 then (w.l.getD 0 0 = w.l.getD 1 0 ∧ ∀ c, 8 ≤ c → w.l.getD c 0 = 0)
  else if w.kind = 2 ∨ w.kind = 3 then w.l.getD 0 0 % 4 = 0
  else if w.kind = 4 then w.l.getD 0 0 = 0
  else if w.kind = 5 then w.l.getD 0 0 = j
  else if w.kind = 6 then ∃ b, 0 ≤ b ∧ b < 256 ∧ w.l.getD 0 0 = b * 65792 + j
  else False

theorem there_lt {w : W} {n i : Nat} (h : w.t.length = n) (hi : i < n) : there w i := by unfold there; omega
theorem taskAt_put {w : W} {i : Nat} (l : List Int) (x : Task) (hi : i < w.t.length) : taskAt { w with l := l, t := w.t.set i x } i = x := by
  unfold taskAt
  simp [List.getD_eq_getElem?_getD, hi]
/-- A step of a task whose frame is known. -/
theorem step_frame {w : W} {i : Nat} {hd : Int} {f : Frame} {r : Run} (h : taskAt w i = ⟨hd, f⟩) (hr : stepRun w.kind ⟨w.l, w.n, w.mode, i, f, .zero, []⟩ = r) :
    step w i = if r.over then (⟨true, r.acc, r.notes ++ [⟨i, 11, r.f.op, r.f.ret⟩]⟩, { w with l := r.l, t := w.t.set i ⟨behind r.f.op r.f.ret hd, .zero⟩ }) else (⟨true, r.acc, r.notes⟩, { w with l := r.l, t := w.t.set i ⟨hd, r.f⟩ }) := by
  subst hr
  unfold step runAt
  rw [h]
  simp
/-- From w on the task is through with k picks: it leaves w1 and has noted ns. -/
def Reads (w : W) (i : Int) (k : Nat) (w1 : W) (ns : List Note) : Prop := ∀ s, k ≤ s → drive w i s = (ns, w1)
def at_ (w : W) (i : Nat) (l : List Int) (f : Frame) : W := { w with l := l, t := w.t.set i ⟨0, f⟩ }
theorem busy_at {w : W} {i : Nat} (hi : i < w.t.length) (l : List Int) (f : Frame) : busy (at_ w i l f) i = f.op := by
  unfold busy
  rw [if_pos (there_lt (n := w.t.length) (by unfold at_; simp) hi)]
  unfold at_
  rw [taskAt_put l _ hi]
theorem stuck_at {w : W} {i : Nat} (hi : i < w.t.length) (l : List Int) (f : Frame) (hs : f.stage = 0) : stuck (at_ w i l f) i = false := by
  unfold stuck stuckRun runAt stageOf
  have h : taskAt (at_ w i l f) i = ⟨0, f⟩ := taskAt_put l _ hi
  rw [h]
  simp [hs]
theorem pick_at {w : W} {i : Nat} (hi : i < w.t.length) (l : List Int) (f : Frame) (hop : f.op = 1) (hs : f.stage = 0) (op : Int) : pick (at_ w i l f) i op = step (at_ w i l f) i := by
  unfold pick
  have h : taskAt (at_ w i l f) i = ⟨0, f⟩ := taskAt_put l _ hi
  rw [if_pos (there_lt (n := w.t.length) (by unfold at_; simp) hi), h, if_neg (by simp [hop]), stuck_at hi l f hs, if_neg (by simp)]
theorem step_at {w : W} {i : Nat} (hi : i < w.t.length) (l : List Int) (f : Frame) {r : Run} (hr : stepRun w.kind ⟨l, w.n, w.mode, i, f, .zero, []⟩ = r) :
    step (at_ w i l f) i = if r.over then (⟨true, r.acc, r.notes ++ [⟨i, 11, r.f.op, r.f.ret⟩]⟩, { w with l := r.l, t := w.t.set i ⟨behind r.f.op r.f.ret 0, .zero⟩ }) else (⟨true, r.acc, r.notes⟩, at_ w i r.l r.f) := by
  rw [step_frame (w := at_ w i l f) (taskAt_put l _ hi) hr]
  unfold at_
  simp
theorem mid_step {w w1 : W} {i k : Nat} {ns : List Note} (hi : i < w.t.length) (l : List Int) (f : Frame) (hop : f.op = 1) (hs : f.stage = 0) {r : Run} (hr : stepRun w.kind ⟨l, w.n, w.mode, i, f, .zero, []⟩ = r) (ho : r.over = false) (h : Reads (at_ w i r.l r.f) i k w1 ns) :
    Reads (at_ w i l f) i (k + 1) w1 (r.notes ++ ns) := by
  intro s hs1
  obtain ⟨s, rfl⟩ : ∃ s', s = s' + 1 := ⟨s - 1, by omega⟩
  unfold drive
  rw [if_pos (by rw [busy_at hi, hop]; decide), pick_at hi l f hop hs, step_at hi l f hr, ho]
  simp only [Bool.false_eq_true, if_false]
  rw [h s (by omega)]
theorem end_step {w : W} {i : Nat} (hi : i < w.t.length) (l : List Int) (f : Frame) (hop : f.op = 1) (hs : f.stage = 0) {r : Run} (hr : stepRun w.kind ⟨l, w.n, w.mode, i, f, .zero, []⟩ = r) (ho : r.over = true) (h2 : r.f.ret = 2) (h1 : r.f.op = 1) :
    Reads (at_ w i l f) i 1 { w with l := r.l, t := w.t.set i ⟨1, .zero⟩ } (r.notes ++ [⟨i, 11, 1, 2⟩]) := by
  intro s hs1
  obtain ⟨s, rfl⟩ : ∃ s', s = s' + 1 := ⟨s - 1, by omega⟩
  unfold drive
  rw [if_pos (by rw [busy_at hi, hop]; decide), pick_at hi l f hop hs, step_at hi l f hr, ho]
  simp only [if_true]
  have hb : busy { w with l := r.l, t := w.t.set i ⟨behind r.f.op r.f.ret 0, .zero⟩ } i = 0 := by
    unfold busy
    rw [if_pos (there_lt (n := w.t.length) (by simp) hi), taskAt_put r.l _ hi]
    rfl
  have hd : ∀ s, drive { w with l := r.l, t := w.t.set i ⟨behind r.f.op r.f.ret 0, .zero⟩ } i s = ([], { w with l := r.l, t := w.t.set i ⟨behind r.f.op r.f.ret 0, .zero⟩ }) := by
    intro s
    cases s with
    | zero => rfl
    | succ s => unfold drive; rw [if_neg (by rw [hb]; decide)]
  rw [hd, h1, h2]
  simp [behind]
theorem readOne_of {w w1 : W} {i k : Nat} {ns : List Note} (hi : i < w.t.length) (ht : taskAt w i = ⟨0, .zero⟩) (h : Reads (at_ w i w.l ⟨1, 0, 0, 0, 0, false, 0, 0, false, 0⟩) i k w1 ns) (hk : k ≤ 301) : readOne w i = (⟨i, 1, 1, 0⟩ :: ns, w1) := by
  have hd := h 301 hk
  unfold drive at hd
  rw [if_pos (by rw [busy_at hi]; simp), pick_at hi _ _ rfl rfl] at hd
  have hp : pick w i 1 = ({ (step (at_ w i w.l ⟨1, 0, 0, 0, 0, false, 0, 0, false, 0⟩) i).1 with notes := ⟨i, 1, 1, 0⟩ :: (step (at_ w i w.l ⟨1, 0, 0, 0, 0, false, 0, 0, false, 0⟩) i).1.notes }, (step (at_ w i w.l ⟨1, 0, 0, 0, 0, false, 0, 0, false, 0⟩) i).2) := by
    unfold pick
    rw [if_pos (there_lt rfl hi), ht, if_pos (show (⟨0, .zero⟩ : Task).f.op = 0 from rfl), if_pos (by decide)]
    unfold begin_
    rw [ht, if_pos (by decide)]
    rfl
  unfold readOne
  rw [hp]
  injection hd with e1 e2
  rw [← e1, ← e2]
  rfl

/-! ### kind by kind -/
def f0 : Frame := ⟨1, 0, 0, 0, 0, false, 0, 0, false, 0⟩
/-- One more reader is in, and what was noted between. -/
def Goes (w : W) (j : Nat) : Prop := ∃ k l' mid, k ≤ 301 ∧ Reads (at_ w j w.l f0) j k { w with l := l', t := w.t.set j ⟨1, .zero⟩ } (mid ++ [⟨j, 11, 1, 2⟩]) ∧ (∀ x ∈ mid, x.what ≠ 1 ∧ x.what ≠ 11) ∧ l'.length = w.l.length ∧ Cells { w with l := l', t := w.t.set j ⟨1, .zero⟩ } (j + 1)
theorem getD_set0 {l : List Int} (h : 0 < l.length) (x : Int) : (l.set 0 x).getD 0 0 = x := by
  simp [List.getD_eq_getElem?_getD, h]
variable {w : W} {n j : Nat}
theorem goes_rf (h : Rd w n j) (hj : j < n) (hk : w.kind = 5) (hc : w.l.getD 0 0 = j) : Goes w j := by
  have hl := h.len
  have hr := h.right
  have hi : j < w.t.length := by rw [h.tl]; exact hj
  refine ⟨1, w.l.set 0 (j + 1), [⟨j, 2, 0, 1⟩, ⟨j, 4, 0, 0⟩], by omega, end_step hi w.l f0 rfl rfl (r := ⟨w.l.set 0 (j + 1), w.n, w.mode, j, ⟨1, 0, j, 0, 0, false, 0, 0, false, 2⟩, ⟨3, 0, 1, 0, j⟩, [⟨j, 2, 0, 1⟩, ⟨j, 4, 0, 0⟩]⟩) ?_ rfl rfl rfl, by simp, by simp, ?_⟩
  · have h0 : cellOk w.l 0 := by unfold cellOk; omega
    have hu : u32 ((j : Int) + 1) = j + 1 := by unfold u32; omega
    have hw : Rf.inW (j : Int) = false := by unfold Rf.inW; simp; omega
    simp [-List.getD_eq_getElem?_getD, stepRun, linesOf, hk, Rf.lines, f0, Run.add, Run.acs, doAcc, h0, Run.setA, Run.note, Run.old, Rf.end_, Run.fin, hc, hu, hw]
  · unfold Cells
    simp [-List.getD_eq_getElem?_getD, hk, getD_set0 (by omega : 0 < w.l.length)]
theorem goes_pf (h : Rd w n j) (hj : j < n) (hk : w.kind = 2 ∨ w.kind = 3) (hc : w.l.getD 0 0 % 4 = 0) : Goes w j := by
  have hl := h.len
  have hr := h.right
  have hi : j < w.t.length := by rw [h.tl]; exact hj
  obtain ⟨v, hv⟩ : ∃ v, v = w.l.getD 0 0 := ⟨_, rfl⟩
  rw [← hv] at hc
  refine ⟨1, w.l.set 0 (u32 (v + 256)), [⟨j, 2, 0, 1⟩, ⟨j, 4, 0, 0⟩], by omega, end_step hi w.l f0 rfl rfl (r := ⟨w.l.set 0 (u32 (v + 256)), w.n, w.mode, j, ⟨1, 0, v, 0, 0, false, 0, 0, false, 2⟩, ⟨3, 0, 256, 0, v⟩, [⟨j, 2, 0, 1⟩, ⟨j, 4, 0, 0⟩]⟩) ?_ rfl rfl rfl, by simp, by simp, ?_⟩
  · have h0 : cellOk w.l 0 := by unfold cellOk; omega
    rcases hk with hk | hk
    · simp [-List.getD_eq_getElem?_getD, stepRun, linesOf, hk, Pf.lines, Pf.reader, Pf.bitsOf, f0, Run.add, Run.acs, doAcc, h0, Run.setA, Run.note, Run.old, Run.fin, ← hv, hc]
    · simp [-List.getD_eq_getElem?_getD, stepRun, linesOf, hk, Pq.lines, Pf.reader, Pf.bitsOf, f0, Run.add, Run.acs, doAcc, h0, Run.setA, Run.note, Run.old, Run.fin, ← hv, hc]
  · have hu : u32 (v + 256) % 4 = 0 := by unfold u32; omega
    unfold Cells
    rcases hk with hk | hk <;> simp [-List.getD_eq_getElem?_getD, hk, getD_set0 (by omega : 0 < w.l.length), hu]
theorem goes_wf (h : Rd w n j) (hj : j < n) (hk : w.kind = 6) (hc : ∃ b, 0 ≤ b ∧ b < 256 ∧ w.l.getD 0 0 = b * 65792 + j) : Goes w j := by
  have hl := h.len
  have hr := h.right
  have hi : j < w.t.length := by rw [h.tl]; exact hj
  obtain ⟨b, hb0, hb1, hc⟩ := hc
  obtain ⟨v, hv⟩ : ∃ v, v = w.l.getD 0 0 := ⟨_, rfl⟩
  rw [← hv] at hc
  have h0 : cellOk w.l 0 := by unfold cellOk; omega
  have hv1 : v / 65536 = b := by omega
  have hv2 : v / 256 = 257 * b := by omega
  have hcalm : Wf.calm v = true := by unfold Wf.calm Wf.fld; rw [hv1, hv2, beq_iff_eq]; omega
  have hu : u32 (v + 1) = v + 1 := by unfold u32; omega
  have e1 := end_step hi w.l ⟨1, 1, v, 0, 0, false, 0, 0, false, 0⟩ rfl rfl (r := ⟨w.l.set 0 (v + 1), w.n, w.mode, j, ⟨1, 1, v, 0, 0, false, 0, 0, false, 2⟩, ⟨5, 0, v, v + 1, v⟩, [⟨j, 4, 0, 0⟩]⟩) (by simp [-List.getD_eq_getElem?_getD, stepRun, linesOf, hk, Wf.lines, Run.cas, Run.acs, doAcc, h0, Run.hitCas, Rf.end_, Run.note, Run.fin, ← hv, hu]) rfl rfl rfl
  have e2 := mid_step hi w.l f0 rfl rfl (r := ⟨w.l, w.n, w.mode, j, ⟨1, 1, v, 0, 0, false, 0, 0, false, 0⟩, ⟨1, 0, 0, 0, v⟩, [⟨j, 2, 0, 1⟩]⟩) (by simp [-List.getD_eq_getElem?_getD, stepRun, linesOf, hk, Wf.lines, Wf.calmly, Run.load, Run.acs, doAcc, h0, Run.old, Run.setA, Run.go, f0, Run.note, ← hv, hcalm]) rfl e1
  refine ⟨2, w.l.set 0 (v + 1), [⟨j, 2, 0, 1⟩, ⟨j, 4, 0, 0⟩], by omega, e2, by simp, by simp, ?_⟩
  unfold Cells
  simp [-List.getD_eq_getElem?_getD, hk, getD_set0 (by omega : 0 < w.l.length)]
  exact ⟨b, hb0, hb1, by omega⟩
theorem goes_fq (h : Rd w n j) (hj : j < n) (hk : w.kind = 4) (hc : w.l.getD 0 0 = 0) : Goes w j := by
  have hl := h.len
  have hr := h.right
  have hwn := h.wn
  have hi : j < w.t.length := by rw [h.tl]; exact hj
  have hrt : right w.n := by unfold right; omega
  have hx : pnext w.n j = 8 + j := by unfold pnext pcell; rw [if_pos ⟨hrt, by omega, by omega⟩]; omega
  have hb : pblocked w.n j = 8 + n + j := by unfold pblocked pcell; rw [if_pos ⟨hrt, by omega, by omega⟩]; omega
  obtain ⟨p, hp⟩ : ∃ p : Nat, p = 8 + j := ⟨_, rfl⟩
  obtain ⟨q, hq⟩ : ∃ q : Nat, q = 8 + n + j := ⟨_, rfl⟩
  have hx' : pnext w.n j = (p : Int) := by rw [hx, hp]; omega
  have hb' : pblocked w.n j = (q : Int) := by rw [hb, hq]; omega
  have hp1 : p < w.l.length := by omega
  have hq1 : q < w.l.length := by omega
  have ho : u32 ((j : Int) + 1) = j + 1 := by unfold u32; omega
  have ok : ∀ (l : List Int) (c : Nat), l.length = w.l.length → c < w.l.length → cellOk l c := by intro l c h1 h2; unfold cellOk; omega
  obtain ⟨l1, hl1⟩ : ∃ l1, l1 = w.l.set p 0 := ⟨_, rfl⟩
  obtain ⟨l2, hl2⟩ : ∃ l2, l2 = l1.set q 1 := ⟨_, rfl⟩
  obtain ⟨l3, hl3⟩ : ∃ l3, l3 = l2.set 0 (j + 1) := ⟨_, rfl⟩
  obtain ⟨c1, hc1⟩ : ∃ c1, c1 = l3.getD 1 0 := ⟨_, rfl⟩
  obtain ⟨l4, hl4⟩ : ∃ l4, l4 = l3.set 1 (u32 (c1 + 1)) := ⟨_, rfl⟩
  obtain ⟨l5, hl5⟩ : ∃ l5, l5 = l4.set 0 0 := ⟨_, rfl⟩
  have n1 : l1.length = w.l.length := by rw [hl1]; simp
  have n2 : l2.length = w.l.length := by rw [hl2]; simp [n1]
  have n3 : l3.length = w.l.length := by rw [hl3]; simp [n2]
  have n4 : l4.length = w.l.length := by rw [hl4]; simp [n3]
  have n5 : l5.length = w.l.length := by rw [hl5]; simp [n4]
  have v2 : l2.getD 0 0 = 0 := by
    rw [hl2, hl1, List.getD_eq_getElem?_getD, List.getElem?_set_ne (by omega), List.getElem?_set_ne (by omega), ← List.getD_eq_getElem?_getD, hc]
  have v4 : l4.getD p 0 = 0 := by
    rw [hl4, hl3, hl2, hl1, List.getD_eq_getElem?_getD, List.getElem?_set_ne (by omega), List.getElem?_set_ne (by omega), List.getElem?_set_ne (by omega)]
    simp [hp1]
  have v40 : l4.getD 0 0 = j + 1 := by
    rw [hl4, List.getD_eq_getElem?_getD, List.getElem?_set_ne (by omega), ← List.getD_eq_getElem?_getD, hl3]
    exact getD_set0 (by omega) _
  have z : ((0 : Nat) : Int) = 0 := rfl
  have o1 : ((1 : Nat) : Int) = 1 := rfl
  have k0 := ok w.l p rfl hp1
  have k1 := ok l1 q n1 hq1
  have k2 : cellOk l2 0 := ok l2 0 n2 (by omega)
  have k3 : cellOk l3 1 := ok l3 1 n3 (by omega)
  have k4 := ok l4 p n4 hp1
  have k5 : cellOk l4 0 := ok l4 0 n4 (by omega)
  have e6 := end_step hi l4 ⟨1, 7, 0, 0, 0, false, 0, 0, false, 0⟩ rfl rfl (r := ⟨l5, w.n, w.mode, j, ⟨1, 7, 0, 0, 0, false, 0, 0, false, 2⟩, ⟨5, 0, j + 1, 0, j + 1⟩, [⟨j, 4, 0, 0⟩]⟩) (by simp [-List.getD_eq_getElem?_getD, stepRun, linesOf, hk, Fq.lines, Fq.reader, Fq.give, Mx.give, Mx.own, Mx.noted, Run.cas, Run.acs, doAcc, k5, v40, ho, Run.hitCas, Run.note, Run.fin, hl5]) rfl rfl rfl
  have e5 := mid_step hi l4 ⟨1, 6, 0, 0, 0, false, 0, 0, false, 0⟩ rfl rfl (r := ⟨l4, w.n, w.mode, j, ⟨1, 7, 0, 0, 0, false, 0, 0, false, 0⟩, ⟨1, p, 0, 0, 0⟩, []⟩) (by simp [-List.getD_eq_getElem?_getD, stepRun, linesOf, hk, Fq.lines, Fq.reader, Fq.give, Mx.give, hx', Run.load, Run.acs, doAcc, k4, v4, Run.old, Run.setA, Run.go]) rfl e6
  have e4 := mid_step hi l3 ⟨1, 5, 0, 0, 0, false, 0, 0, false, 0⟩ rfl rfl (r := ⟨l4, w.n, w.mode, j, ⟨1, 6, 0, 0, 0, false, 0, 0, false, 0⟩, ⟨3, 1, 1, 0, c1⟩, []⟩) (by simp [-List.getD_eq_getElem?_getD, stepRun, linesOf, hk, Fq.lines, Fq.reader, Run.add, Run.acs, doAcc, k3, Run.go, hl4, hc1]) rfl e5
  have e3 := mid_step hi l2 ⟨1, 2, 0, 0, 0, false, 0, 0, false, 0⟩ rfl rfl (r := ⟨l3, w.n, w.mode, j, ⟨1, 5, 0, 0, 0, false, 0, 0, false, 0⟩, ⟨4, 0, j + 1, 0, 0⟩, [⟨j, 2, 0, 1⟩]⟩) (by simp [-List.getD_eq_getElem?_getD, stepRun, linesOf, hk, Fq.lines, Fq.enter, Mx.enter, Mx.own, Run.swp, Run.acs, doAcc, k2, v2, ho, Run.old, Run.setA, Run.note, Run.go, hl3]) rfl e4
  have e2 := mid_step hi l1 ⟨1, 1, 0, 0, 0, false, 0, 0, false, 0⟩ rfl rfl (r := ⟨l2, w.n, w.mode, j, ⟨1, 2, 0, 0, 0, false, 0, 0, false, 0⟩, ⟨2, q, 1, 0, l1.getD q 0⟩, []⟩) (by simp [-List.getD_eq_getElem?_getD, stepRun, linesOf, hk, Fq.lines, Fq.enter, Mx.enter, hb', Run.store, Run.acs, doAcc, k1, Run.go, hl2]) rfl e3
  have e1 := mid_step hi w.l f0 rfl rfl (r := ⟨l1, w.n, w.mode, j, ⟨1, 1, 0, 0, 0, false, 0, 0, false, 0⟩, ⟨2, p, 0, 0, w.l.getD p 0⟩, []⟩) (by simp [-List.getD_eq_getElem?_getD, stepRun, linesOf, hk, Fq.lines, Fq.enter, Mx.enter, hx', Run.store, Run.acs, doAcc, k0, Run.go, f0, hl1]) rfl e2
  refine ⟨6, l5, [⟨j, 2, 0, 1⟩, ⟨j, 4, 0, 0⟩], by omega, e1, by simp, n5, ?_⟩
  unfold Cells
  simp [-List.getD_eq_getElem?_getD, hk, hl5, getD_set0 (by omega : 0 < l4.length)]

/-! ### the task-fair lock: a reader wakes the others one by one -/
theorem wakes (h : Rd w n j) (hj : j < n) (hk : w.kind = 1) (hm : w.mode = 2) (l : List Int) (hll : l.length = w.l.length) (hz : ∀ c, 8 ≤ c → l.getD c 0 = 0) (a : Int) : ∀ (d x : Nat), x + d + 1 = n → Reads (at_ w j l ⟨1, 2, a, 0, 0, true, 1, x, false, 2⟩) j (d + 1) { w with l := l, t := w.t.set j ⟨1, .zero⟩ } [⟨j, 11, 1, 2⟩] := by
  have hl := h.len
  have hr := h.right
  have hwn := h.wn
  have hi : j < w.t.length := by rw [h.tl]; exact hj
  have hrt : right w.n := by unfold right; omega
  have u1 : u32 (2 : Int) = 2 := by decide
  intro d
  induction d with
  | zero =>
    intro x hx
    have hw : pwatch w.n x = ((8 + 2 * n + x : Nat) : Int) := by unfold pwatch pcell; rw [if_pos ⟨hrt, by omega, by omega⟩]; omega
    have hok : cellOk l ((8 + 2 * n + x : Nat) : Int) := by unfold cellOk; omega
    have hv := hz (8 + 2 * n + x) (by omega)
    have e := end_step hi l ⟨1, 2, a, 0, 0, true, 1, x, false, 2⟩ rfl rfl (r := ⟨l, w.n, w.mode, j, ⟨1, 2, a, 0, 0, false, 0, 0, false, 2⟩, ⟨1, (8 + 2 * n + x : Nat), 0, 0, 0⟩, []⟩) (by
      have hge : (x : Int) + 1 ≥ w.n := by omega
      simp only [stepRun, if_true, wakeStep, hw, doAcc, if_pos hok, Int.toNat_natCast, hv, wakeNext, if_pos hge, WakeSt.none]
      simp [u1]) rfl rfl rfl
    exact e
  | succ d ih =>
    intro x hx
    have hw : pwatch w.n x = ((8 + 2 * n + x : Nat) : Int) := by unfold pwatch pcell; rw [if_pos ⟨hrt, by omega, by omega⟩]; omega
    have hok : cellOk l ((8 + 2 * n + x : Nat) : Int) := by unfold cellOk; omega
    have hv := hz (8 + 2 * n + x) (by omega)
    have e := mid_step hi l ⟨1, 2, a, 0, 0, true, 1, x, false, 2⟩ rfl rfl (r := ⟨l, w.n, w.mode, j, ⟨1, 2, a, 0, 0, true, 1, (x + 1 : Nat), false, 2⟩, ⟨1, (8 + 2 * n + x : Nat), 0, 0, 0⟩, []⟩) (by
      have hge : ¬ (x : Int) + 1 ≥ w.n := by omega
      simp only [stepRun, if_true, wakeStep, hw, doAcc, if_pos hok, Int.toNat_natCast, hv, wakeNext, if_neg hge, WakeSt.none]
      simp [u1]) rfl (ih (x + 1) (by omega))
    exact e
theorem goes_tf (h : Rd w n j) (hj : j < n) (hk : w.kind = 1) (hm : w.mode = 1 ∨ w.mode = 2) (hc : w.l.getD 0 0 = w.l.getD 1 0 ∧ ∀ c, 8 ≤ c → w.l.getD c 0 = 0) : Goes w j := by
  have hl := h.len
  have hr := h.right
  have hwn := h.wn
  have hi : j < w.t.length := by rw [h.tl]; exact hj
  obtain ⟨hc0, hcz⟩ := hc
  obtain ⟨v, hv⟩ : ∃ v, v = w.l.getD 1 0 := ⟨_, rfl⟩
  rw [← hv] at hc0
  obtain ⟨l1, hl1⟩ : ∃ l1, l1 = w.l.set 0 (u32 (v + 1)) := ⟨_, rfl⟩
  obtain ⟨l2, hl2⟩ : ∃ l2, l2 = l1.set 1 (u32 (v + 1)) := ⟨_, rfl⟩
  have n1 : l1.length = w.l.length := by rw [hl1]; simp
  have n2 : l2.length = w.l.length := by rw [hl2]; simp [n1]
  have k0 : cellOk w.l 0 := by unfold cellOk; omega
  have k1 : cellOk l1 1 := by unfold cellOk; omega
  have v1 : l1.getD 1 0 = v := by
    rw [hl1, List.getD_eq_getElem?_getD, List.getElem?_set_ne (by omega), ← List.getD_eq_getElem?_getD, hv]
  have z2 : ∀ c, 8 ≤ c → l2.getD c 0 = 0 := by
    intro c hc
    rw [hl2, hl1, List.getD_eq_getElem?_getD, List.getElem?_set_ne (by omega), List.getElem?_set_ne (by omega), ← List.getD_eq_getElem?_getD, hcz c hc]
  have w0 : l2.getD 0 0 = u32 (v + 1) := by
    rw [hl2, List.getD_eq_getElem?_getD, List.getElem?_set_ne (by omega), ← List.getD_eq_getElem?_getD, hl1]
    exact getD_set0 (by omega) _
  have w1 : l2.getD 1 0 = u32 (v + 1) := by
    rw [hl2, List.getD_eq_getElem?_getD, List.getElem?_set_self (by omega)]
    rfl
  have hcells : Cells { w with l := l2, t := w.t.set j ⟨1, .zero⟩ } (j + 1) := by
    unfold Cells
    rw [if_pos hk]
    exact ⟨w0.trans w1.symm, z2⟩
  have e3 : ∃ k, k ≤ 200 ∧ Reads (at_ w j l1 ⟨1, 2, v, 0, 0, false, 0, 0, false, 0⟩) j k { w with l := l2, t := w.t.set j ⟨1, .zero⟩ } ([⟨j, 4, 0, 0⟩] ++ [⟨j, 11, 1, 2⟩]) := by
    rcases hm with hm | hm
    · exact ⟨1, by omega, end_step hi l1 ⟨1, 2, v, 0, 0, false, 0, 0, false, 0⟩ rfl rfl (r := ⟨l2, w.n, w.mode, j, ⟨1, 2, v, 0, 0, false, 0, 0, false, 2⟩, ⟨3, 1, 1, 0, v⟩, [⟨j, 4, 0, 0⟩]⟩) (by simp [-List.getD_eq_getElem?_getD, stepRun, linesOf, hk, Tf.lines, Tf.enter, Run.add, Run.acs, doAcc, k1, v1, Run.note, Run.wake, wakeBegin, WakeSt.none, hm, Run.fin, hl2]) rfl rfl rfl⟩
    · exact ⟨_, by omega, mid_step hi l1 ⟨1, 2, v, 0, 0, false, 0, 0, false, 0⟩ rfl rfl (r := ⟨l2, w.n, w.mode, j, ⟨1, 2, v, 0, 0, true, 1, (0 : Nat), false, 2⟩, ⟨3, 1, 1, 0, v⟩, [⟨j, 4, 0, 0⟩]⟩) (by simp [-List.getD_eq_getElem?_getD, stepRun, linesOf, hk, Tf.lines, Tf.enter, Run.add, Run.acs, doAcc, k1, v1, Run.note, Run.wake, wakeBegin, WakeSt.none, hm, Run.fin, hl2]) rfl (wakes h hj hk hm l2 n2 z2 v (n - 1) 0 (by omega))⟩
  obtain ⟨k, hkk, e3⟩ := e3
  have hst : stageOf w.mode 0 = 0 := by unfold stageOf; split <;> rfl
  have e2 := mid_step hi l1 ⟨1, 1, v, 0, 0, false, 0, 0, false, 0⟩ rfl rfl (r := ⟨l1, w.n, w.mode, j, ⟨1, 2, v, 0, 0, false, 0, 0, false, 0⟩, ⟨1, 1, 0, 0, v⟩, []⟩) (by simp [-List.getD_eq_getElem?_getD, stepRun, linesOf, hk, Tf.lines, Run.waited, Run.wait, waitStep, hst, doAcc, k1, v1, Run.go]) rfl e3
  have e1 := mid_step hi w.l f0 rfl rfl (r := ⟨l1, w.n, w.mode, j, ⟨1, 1, v, 0, 0, false, 0, 0, false, 0⟩, ⟨3, 0, 1, 0, v⟩, [⟨j, 2, 0, 1⟩]⟩) (by simp [-List.getD_eq_getElem?_getD, stepRun, linesOf, hk, Tf.lines, Tf.ticket, Run.add, Run.acs, doAcc, k0, hc0, Run.old, Run.setA, Run.note, Run.go, f0, hl1]) rfl e2
  exact ⟨_, l2, [⟨j, 2, 0, 1⟩, ⟨j, 4, 0, 0⟩], by omega, e1, by simp, n2, hcells⟩
theorem goes (h : Rd w n j) (hj : j < n) (hk : 1 ≤ w.kind ∧ w.kind ≤ 6) (hm : w.mode = 1 ∨ w.mode = 2) (hc : Cells w j) : Goes w j := by
  unfold Cells at hc
  have : w.kind = 1 ∨ w.kind = 2 ∨ w.kind = 3 ∨ w.kind = 4 ∨ w.kind = 5 ∨ w.kind = 6 := by omega
  rcases this with e | e | e | e | e | e
  · rw [if_pos e] at hc; exact goes_tf h hj e hm hc
  · rw [if_neg (by omega), if_pos (by omega)] at hc; exact goes_pf h hj (.inl e) hc
  · rw [if_neg (by omega), if_pos (by omega)] at hc; exact goes_pf h hj (.inr e) hc
  · rw [if_neg (by omega), if_neg (by omega), if_pos e] at hc; exact goes_fq h hj e hc
  · rw [if_neg (by omega), if_neg (by omega), if_neg (by omega), if_pos e] at hc; exact goes_rf h hj e hc
  · rw [if_neg (by omega), if_neg (by omega), if_neg (by omega), if_neg (by omega), if_pos e] at hc; exact goes_wf h hj e hc

/-! ### all of them -/
def exH (n j : Nat) : List Int := List.replicate j 1 ++ List.replicate (n - j) 0
theorem exH_get (n j : Nat) : (exH n j).getD j 0 = 0 := by
  unfold exH
  rw [List.getD_eq_getElem?_getD, List.getElem?_append_right (by simp)]
  simp
  rcases Nat.lt_or_ge 0 (n - j) with h | h
  · rw [List.getElem?_replicate_of_lt h]; rfl
  · rw [show n - j = 0 by omega]; rfl
theorem exH_cons (n j : Nat) (h : j < n) : exH n j = List.replicate j 1 ++ 0 :: List.replicate (n - (j + 1)) 0 := by
  unfold exH
  rw [show n - j = n - (j + 1) + 1 by omega, List.replicate_succ]
theorem exH_set0 (n j : Nat) (h : j < n) : (exH n j).set j 0 = exH n j := by
  rw [exH_cons n j h, List.set_append_right _ _ (by simp)]
  simp
theorem exH_set1 (n j : Nat) (h : j < n) : (exH n j).set j 1 = exH n (j + 1) := by
  rw [exH_cons n j h, List.set_append_right _ _ (by simp)]
  simp [exH, List.replicate_succ']
theorem exH_count (n j : Nat) : exCount (exH n j) 1 = j := by
  unfold exCount exH
  rw [List.filter_append, List.filter_replicate, List.filter_replicate]
  simp
theorem exMost_app (n : Int) (b : List Note) : ∀ (a : List Note) (hs : List Int) (m : Int), exMost n (a ++ b) hs m = exMost n b (exHolds n a hs) (exMost n a hs m)
  | [], _, _ => rfl
  | x :: a, hs, m => exMost_app n b a (exStep n hs x) (max m (exCount (exStep n hs x) 1))
theorem exHolds_app (n : Int) (b : List Note) : ∀ (a : List Note) (hs : List Int), exHolds n (a ++ b) hs = exHolds n b (exHolds n a hs)
  | [], _ => rfl
  | x :: a, hs => exHolds_app n b a (exStep n hs x)
theorem ex_mid (n j : Nat) : ∀ (mid : List Note), (∀ x ∈ mid, x.what ≠ 1 ∧ x.what ≠ 11) → exMost n mid (exH n j) j = j ∧ exHolds n mid (exH n j) = exH n j
  | [], _ => ⟨rfl, rfl⟩
  | x :: mid, h => by
    have h1 := h x List.mem_cons_self
    have e : exStep n (exH n j) x = exH n j := by
      unfold exStep
      split
      · rw [if_neg (fun q => h1.1 q.1), if_neg h1.2]
      · rfl
    unfold exMost exHolds
    rw [e, exH_count, show max (j : Int) (j : Int) = j by omega]
    exact ex_mid n j mid (fun y hy => h y (List.mem_cons_of_mem _ hy))
theorem ex_one (n j : Nat) (hj : j < n) (mid : List Note) (h : ∀ x ∈ mid, x.what ≠ 1 ∧ x.what ≠ 11) : exMost n (⟨j, 1, 1, 0⟩ :: (mid ++ [⟨j, 11, 1, 2⟩])) (exH n j) j = (j + 1 : Nat) ∧ exHolds n (⟨j, 1, 1, 0⟩ :: (mid ++ [⟨j, 11, 1, 2⟩])) (exH n j) = exH n (j + 1) := by
  have e1 : exStep n (exH n j) ⟨j, 1, 1, 0⟩ = exH n j := by
    unfold exStep
    simp only [Int.toNat_natCast]
    rw [if_pos ⟨by omega, by omega⟩, exH_get, if_pos ⟨trivial, by decide⟩, show atHold 1 0 = 0 by decide, exH_set0 n j hj]
  have e2 : exStep n (exH n j) ⟨j, 11, 1, 2⟩ = exH n (j + 1) := by
    unfold exStep
    simp only [Int.toNat_natCast]
    rw [if_pos ⟨by omega, by omega⟩, exH_get, if_neg (by intro q; exact absurd q.1 (by decide)), if_pos trivial, show behind 1 2 0 = 1 by decide, exH_set1 n j hj]
  have hm := ex_mid n j mid h
  constructor
  · unfold exMost
    rw [e1, exH_count, show max (j : Int) (j : Int) = j by omega, exMost_app, hm.1, hm.2]
    unfold exMost
    rw [e2, exH_count]
    unfold exMost
    omega
  · unfold exHolds
    rw [e1, exHolds_app, hm.2]
    unfold exHolds
    rw [e2]
    rfl
theorem rd_next (h : Rd w n j) (hj : j < n) {l' : List Int} (hl : l'.length = w.l.length) : Rd { w with l := l', t := w.t.set j ⟨1, .zero⟩ } n (j + 1) := by
  refine ⟨h.wn, h.right, hl.trans h.len, by simp [h.tl], fun x hx => ?_⟩
  have hi : j < w.t.length := by rw [h.tl]; exact hj
  by_cases e : x = j
  · subst e
    rw [List.getD_eq_getElem?_getD, List.getElem?_set_self hi, if_pos (by omega)]
    rfl
  · rw [List.getD_eq_getElem?_getD, List.getElem?_set_ne (Ne.symm e), ← List.getD_eq_getElem?_getD, h.t x hx]
    by_cases e2 : x < j
    · rw [if_pos e2, if_pos (by omega)]
    · rw [if_neg e2, if_neg (by omega)]
theorem read_one (h : Rd w n j) (hj : j < n) (hk : 1 ≤ w.kind ∧ w.kind ≤ 6) (hm : w.mode = 1 ∨ w.mode = 2) (hc : Cells w j) :
    Rd (readOne w j).2 n (j + 1) ∧ Cells (readOne w j).2 (j + 1) ∧ (readOne w j).2.kind = w.kind ∧ (readOne w j).2.mode = w.mode ∧ exMost n (readOne w j).1 (exH n j) j = (j + 1 : Nat) ∧ exHolds n (readOne w j).1 (exH n j) = exH n (j + 1) := by
  obtain ⟨k, l', mid, hk3, hr, hmid, hl, hc'⟩ := goes h hj hk hm hc
  have hi : j < w.t.length := by rw [h.tl]; exact hj
  have ht : taskAt w j = ⟨0, .zero⟩ := by
    unfold taskAt
    rw [Int.toNat_natCast, h.t j hj, if_neg (Nat.lt_irrefl j)]
  rw [readOne_of hi ht hr hk3]
  exact ⟨rd_next h hj hl, hc', rfl, rfl, ex_one n j hj mid hmid⟩
theorem read_all (h : Rd w n 0) (hk : 1 ≤ w.kind ∧ w.kind ≤ 6) (hm : w.mode = 1 ∨ w.mode = 2) (hc : Cells w 0) : ∀ j, j ≤ n →
    Rd (readAll w j).2 n j ∧ Cells (readAll w j).2 j ∧ (readAll w j).2.kind = w.kind ∧ (readAll w j).2.mode = w.mode ∧ exMost n (readAll w j).1 (exH n 0) 0 = (j : Nat) ∧ exHolds n (readAll w j).1 (exH n 0) = exH n j
  | 0, _ => ⟨h, hc, rfl, rfl, rfl, rfl⟩
  | j + 1, hj => by
    obtain ⟨a1, a2, a3, a4, a5, a6⟩ := read_all h hk hm hc j (by omega)
    obtain ⟨b1, b2, b3, b4, b5, b6⟩ := read_one a1 (by omega) (by rw [a3]; exact hk) (by rw [a4]; exact hm) a2
    refine ⟨b1, b2, b3.trans a3, b4.trans a4, ?_, ?_⟩
    · show exMost n ((readAll w j).1 ++ (readOne (readAll w j).2 j).1) (exH n 0) 0 = _
      rw [exMost_app, a5, a6, b5]
    · show exHolds n ((readAll w j).1 ++ (readOne (readAll w j).2 j).1) (exH n 0) = _
      rw [exHolds_app, a6, b6]
theorem new_rd (kind mode base : Int) (n : Nat) (hk : 1 ≤ kind ∧ kind ≤ 6) (hn : 1 ≤ n ∧ n ≤ 64) : Rd (newW kind mode n base) n 0 ∧ Cells (newW kind mode n base) 0 := by
  have hfl : (first kind n base).length = 8 + 4 * n := by
    unfold first
    rw [List.length_append, List.length_replicate, Int.toNat_natCast]
    repeat' split
    all_goals rfl
  refine ⟨⟨rfl, hn, hfl, by simp [newW], fun x hx => ?_⟩, ?_⟩
  · rw [if_neg (by omega)]
    simp [newW, hx]
  · have hz : ∀ (c : Nat) (a : List Int), a.length = 8 → 8 ≤ c → (a ++ List.replicate (4 * n) (0 : Int)).getD c 0 = 0 := by
      intro c a ha hc
      rw [List.getD_eq_getElem?_getD, List.getElem?_append_right (by omega)]
      rcases Nat.lt_or_ge (c - a.length) (4 * n) with q | q
      · rw [List.getElem?_replicate_of_lt q]; rfl
      · rw [List.getElem?_eq_none (by simpa using q)]; rfl
    have : kind = 1 ∨ kind = 2 ∨ kind = 3 ∨ kind = 4 ∨ kind = 5 ∨ kind = 6 := by omega
    unfold Cells newW
    dsimp only
    rcases this with rfl | rfl | rfl | rfl | rfl | rfl
    · rw [if_pos rfl]
      exact ⟨rfl, fun c hc => hz c _ rfl hc⟩
    · rw [if_neg (by decide), if_pos (by decide)]
      show u32 (base * 256) % 4 = 0
      unfold u32
      omega
    · rw [if_neg (by decide), if_pos (by decide)]
      show u32 (base * 256) % 4 = 0
      unfold u32
      omega
    · rfl
    · rfl
    · refine ⟨base % 256, by omega, by omega, ?_⟩
      show base % 256 * 65792 = base % 256 * 65792 + ((0 : Nat) : Int)
      omega
/-- All of them read at once. -/
theorem together (kind mode base : Int) (n : Nat) (hk : 1 ≤ kind ∧ kind ≤ 6) (hm : mode = 1 ∨ mode = 2) (hn : 1 ≤ n ∧ n ≤ 64) : exMost n (readAll (newW kind mode n base) n).1 (List.replicate n 0) 0 = n := by
  obtain ⟨h1, h2⟩ := new_rd kind mode base n hk hn
  exact (read_all h1 hk hm h2 n (Nat.le_refl n)).2.2.2.2.1
end Stile
