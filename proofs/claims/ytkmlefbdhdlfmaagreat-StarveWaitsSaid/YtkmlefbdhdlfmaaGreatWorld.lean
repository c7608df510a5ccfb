/- Packages suite and world as plain Lean functions. -/
import Derived.Test.YtkmlefbdhdlfmaaGreatOk
namespace Stile

def needs (op : Int) : Int :=
  if op = 1 ∨ op = 3 ∨ op = 5 ∨ op = 6 then 0 else if op = 2 ∨ op = 7 then 1 else if op = 4 ∨ op = 8 then 2 else -1
def may (op hold : Int) : Bool := decide (needs op ≥ 0 ∧ needs op = hold)
def atHold (op hold : Int) : Int := if op = 2 ∨ op = 4 then 0 else if op = 8 then 1 else hold
def behind (op ret hold : Int) : Int :=
  if ret ≠ 2 then hold else if op = 1 ∨ op = 5 then 1 else if op = 3 ∨ op = 6 ∨ op = 7 then 2 else hold

def linesOf (kind : Int) (r : Run) : Run :=
  if kind = 1 then Tf.lines r else if kind = 2 then Pf.lines r else if kind = 3 then Pq.lines r
  else if kind = 4 then Fq.lines r else if kind = 5 then Rf.lines r else if kind = 6 then Wf.lines r else r

/-- line.Run.Step: the run behind it; whether the operation is over. -/
def stepRun (kind : Int) (r : Run) : Run :=
  let r0 := { r with acc := Acc.zero, notes := [] }
  if r0.f.on then
    let d := wakeStep r0.l r0.n ⟨r0.f.on, r0.f.wc, r0.f.wi, r0.f.hit⟩
    { r0 with l := d.2.2, acc := d.2.1, f := { r0.f with on := d.1.on, wc := d.1.cell, wi := d.1.i, hit := d.1.hit } }
  else linesOf kind r0
def Run.over (r : Run) : Bool := decide (r.f.ret ≠ 0) && !r.f.on

structure W where
  kind : Int
  mode : Int
  n : Int
  l : List Int
  t : List Task
  deriving DecidableEq

structure Event where
  ran : Bool
  acc : Acc
  notes : List Note
  deriving DecidableEq
def Event.none : Event := ⟨false, .zero, []⟩

def there (w : W) (i : Int) : Prop := 0 ≤ i ∧ i < w.t.length
instance (w : W) (i : Int) : Decidable (there w i) := by unfold there; exact inferInstance
def taskAt (w : W) (i : Int) : Task := w.t.getD i.toNat ⟨0, .zero⟩

def runAt (w : W) (i : Int) : Run := ⟨w.l, w.n, w.mode, i, (taskAt w i).f, .zero, []⟩

/-- A task that waits for a permit that isn't there. -/
def stuckRun (r : Run) : Bool := !r.f.on && decide (stageOf r.mode r.f.stage = 3 ∧ (doAcc r.l 1 (ppermit r.n r.task) 0 0).1.old = 0)
def busy (w : W) (i : Int) : Int := if there w i then (taskAt w i).f.op else 0
def holdOf (w : W) (i : Int) : Int := if there w i then (taskAt w i).hold else 0
def stuck (w : W) (i : Int) : Bool := decide (busy w i ≠ 0) && stuckRun (runAt w i)

def step (w : W) (i : Int) : Event × W :=
  let r := stepRun w.kind (runAt w i)
  let h := (taskAt w i).hold
  if r.over then
    (⟨true, r.acc, r.notes ++ [⟨i, 11, r.f.op, r.f.ret⟩]⟩, { w with l := r.l, t := w.t.set i.toNat ⟨behind r.f.op r.f.ret h, .zero⟩ })
  else (⟨true, r.acc, r.notes⟩, { w with l := r.l, t := w.t.set i.toNat ⟨h, r.f⟩ })

def begin_ (w : W) (i op : Int) : Event × W :=
  let h := (taskAt w i).hold
  if may op h then
    let d := step { w with t := w.t.set i.toNat ⟨atHold op h, { Frame.zero with op := op }⟩ } i
    ({ d.1 with notes := ⟨i, 1, op, 0⟩ :: d.1.notes }, d.2)
  else (⟨true, .zero, [⟨i, 1, op, 0⟩, ⟨i, 11, op, 3⟩]⟩, w)

def pick (w : W) (i op : Int) : Event × W :=
  if there w i then
    if (taskAt w i).f.op = 0 then (if 1 ≤ op ∧ op ≤ 8 then begin_ w i op else (.none, w))
    else if stuck w i then (.none, w) else step w i
  else (.none, w)

/-- place.First for a kind and a number of tasks that are right. -/
def first (kind n base : Int) : List Int :=
  (if kind = 1 then [base, base, base, 0, 0, 0, 0, 0]
   else if kind = 2 then [u32 (base * 256), u32 (base * 256), base, base, base, 0, 0, 0]
   else if kind = 3 then [u32 (base * 256), u32 (base * 256), 0, base, 0, 0, 0, 0]
   else if kind = 6 then [base % 256 * 65792, 0, 0, 0, 0, 0, 0, 0]
   else [0, 0, 0, 0, 0, 0, 0, 0]) ++ List.replicate (4 * n.toNat) 0

def newW (kind mode n base : Int) : W := ⟨kind, mode, n, first kind n base, List.replicate n.toNat ⟨0, .zero⟩⟩

end Stile
