/- The lines of the six locks as plain Lean functions on a task's run (what packages wake, line, tf, pf, mutex, fq, pq, rf, wf compute). -/
import Derived.Test.YtkmlefbdhdlfmaaGreatCore
namespace Stile

structure WakeSt where
  on : Bool
  cell : Int
  i : Int
  hit : Bool

def WakeSt.none : WakeSt := ⟨false, 0, 0, false⟩

def wakeBegin (mode c : Int) : WakeSt := if mode = 2 then ⟨true, c, 0, false⟩ else .none
def wakeNext (n : Int) (w : WakeSt) : WakeSt := if w.i + 1 ≥ n then .none else ⟨w.on, w.cell, w.i + 1, false⟩

/-- wake.Step: the wake-up behind it, the access, the words. -/
def wakeStep (l : List Int) (n : Int) (w : WakeSt) : WakeSt × Acc × List Int :=
  if w.on = false then (.none, .zero, l)
  else if w.hit then
    let d := doAcc l 2 (ppermit n w.i) 1 0
    if d.2.1 then (wakeNext n w, d.1, d.2.2) else (.none, .zero, d.2.2)
  else
    let d := doAcc l 1 (pwatch n w.i) 0 0
    if d.2.1 = false then (.none, d.1, l)
    else if d.1.old = u32 (w.cell + 1) then (⟨w.on, w.cell, w.i, true⟩, d.1, l)
    else (wakeNext n w, d.1, l)

namespace Run
def fr (r : Run) (f : Frame) : Run := { r with f := f }
/-- An access of the run. -/
def go (r : Run) (n : Int) : Run := { r with f := { r.f with line := n } }
def setA (r : Run) (v : Int) : Run := { r with f := { r.f with a := v } }
def setB (r : Run) (v : Int) : Run := { r with f := { r.f with b := v } }
def acs (r : Run) (k c x y : Int) : Run := { r with acc := (doAcc r.l k c x y).1, l := (doAcc r.l k c x y).2.2 }
def note (r : Run) (what arg : Int) : Run := { r with notes := r.notes ++ [⟨r.task, what, 0, arg⟩] }
def fin (r : Run) (ok : Bool) : Run := { r with f := { r.f with ret := if ok then 2 else 1 } }
def wake (r : Run) (c : Int) : Run :=
  let w := wakeBegin r.mode c
  { r with f := { r.f with on := w.on, wc := w.cell, wi := w.i, hit := w.hit } }
def load (r : Run) (c : Int) : Run := r.acs 1 c 0 0
def store (r : Run) (c x : Int) : Run := r.acs 2 c x 0
def add (r : Run) (c x : Int) : Run := r.acs 3 c x 0
def swp (r : Run) (c x : Int) : Run := r.acs 4 c x 0
def cas (r : Run) (c x y : Int) : Run := r.acs 5 c x y
/-- What the last access saw. -/
def old (r : Run) : Int := r.acc.old
/-- Whether a compare-and-swap that expected x was done. -/
def hitCas (r : Run) (x : Int) : Bool := decide (r.acc.kind = 5 ∧ r.acc.old = x)
def waited (r : Run) (c : Int) (is : Int → Bool) : Waited := waitStep r.l r.n r.mode r.task r.f.stage c is
def wait (r : Run) (c : Int) (is : Int → Bool) : Run :=
  let w := r.waited c is
  { r with l := w.l, acc := w.acc, f := { r.f with stage := w.stage } }
end Run

open Run

/-! ### tf -/
namespace Tf
def ticket (r : Run) (cls : Int) : Run := let r1 := r.add 0 1; ((r1.setA r1.old).note 2 cls).go 1
def enter (r : Run) (what : Int) : Run := (((r.add 1 1).note what 0).wake 1).fin true
def look (r : Run) (c may : Int) : Run :=
  let r1 := r.load c
  let r2 := r1.setB r1.old
  let n := ahead r2.f.a r2.f.b
  if n > may then (r2.note 5 0).fin false else if n < may then r2.go 0 else r2.go 2
def take (r : Run) : Run × Bool :=
  let r1 := r.cas 0 r.f.a (u32 (r.f.a + 1))
  if r1.hitCas r.f.a then (r1, true) else (r1.go 0, false)
def tries (r : Run) : Run :=
  if r.f.line = 0 then (if r.f.op = 5 ∨ r.f.op = 6 ∨ r.f.op = 7 then (let r1 := r.load 0; (r1.setA r1.old).go 1) else r)
  else if r.f.line = 1 then
    (if r.f.op = 5 then look r 1 0 else if r.f.op = 6 then look r 2 0 else if r.f.op = 7 then look r 2 1 else r)
  else if r.f.line = 2 then
    (if r.f.op = 5 then (let t := take r; if t.2 then (t.1.note 2 1).go 3 else t.1)
     else if r.f.op = 6 then (let t := take r; if t.2 then ((t.1.note 2 2).note 4 0).fin true else t.1)
     else if r.f.op = 7 then (let t := take r; if t.2 then (t.1.note 9 0).go 3 else t.1)
     else r)
  else if r.f.line = 3 then (if r.f.op = 7 then (r.add 2 1).fin true else r)
  else r
def lines (r : Run) : Run :=
  if r.f.op = 1 ∧ r.f.line = 0 then ticket r 1
  else if r.f.op = 1 ∧ r.f.line = 1 then
    (if (r.waited 1 (· == r.f.a)).done then (r.wait 1 (· == r.f.a)).go 2 else r.wait 1 (· == r.f.a))
  else if (r.f.op = 1 ∧ r.f.line = 2) ∨ (r.f.op = 5 ∧ r.f.line = 3) then enter r 4
  else if r.f.op = 8 ∧ r.f.line = 0 then enter r 10
  else if r.f.op = 2 ∧ r.f.line = 0 then (((r.add 2 1).note 6 0).wake 2).fin true
  else if r.f.op = 3 ∧ r.f.line = 0 then ticket r 2
  else if r.f.op = 3 ∧ r.f.line = 1 then
    (let w := r.waited 2 (· == r.f.a)
     let r1 := r.wait 2 (· == r.f.a)
     let r2 := if w.seen then r1.note 4 0 else r1
     if w.done then r2.fin true else r2)
  else if r.f.op = 4 ∧ r.f.line = 0 then (((r.add 1 1).note 7 0).wake 1).go 1
  else if r.f.op = 4 ∧ r.f.line = 1 then (((r.add 2 1).note 8 0).wake 2).fin true
  else tries r
end Tf


/-! ### pf -/
namespace Pf
def bitsOf (v : Int) : Int := v % 4
def presence (b : Int) : Int := 2 + b % 2
/-- A reader's lines, on the cells of those that came and went; the flag: was it one of them? -/
def reader (r : Run) (i o : Int) : Run × Bool :=
  if r.f.op = 1 ∧ r.f.line = 0 then
    (let r1 := r.add i 256
     let r2 := (r1.setA r1.old).note 2 1
     if bitsOf r2.f.a = 0 then ((r2.note 4 0).fin true, true) else (r2.go 1, true))
  else if r.f.op = 1 ∧ r.f.line = 1 then
    (let was := bitsOf r.f.a
     let w := r.waited i (fun v => bitsOf v != was)
     let r1 := r.wait i (fun v => bitsOf v != was)
     let r2 := if w.seen then r1.note 4 0 else r1
     (if w.done then r2.fin true else r2, true))
  else if r.f.op = 2 ∧ r.f.line = 0 then ((((r.add o 256).note 6 0).wake o).fin true, true)
  else if r.f.op = 5 ∧ r.f.line = 0 then
    (let r1 := r.load i
     let r2 := r1.setA r1.old
     if bitsOf r2.f.a ≠ 0 then ((r2.note 5 0).fin false, true) else (r2.go 1, true))
  else if r.f.op = 5 ∧ r.f.line = 1 then
    (let r1 := r.cas i r.f.a (u32 (r.f.a + 256))
     if r1.hitCas r.f.a then (((r1.note 2 1).note 4 0).fin true, true) else (r1.go 0, true))
  else (r, false)
def pass (r : Run) (ok : Bool) : Run := (((r.add 3 1).note 8 0).wake 3).fin ok
def own (r : Run) : Int := if r.f.op = 7 then 256 else 0
def inside (r : Run) : Run :=
  let r1 := r.load 1
  let r2 := r1.setB r1.old
  if ahead r2.f.a r2.f.b > own r2 then (r2.note 5 0).go 9 else r2.go 5
def last (r : Run) : Run :=
  let a := u32 (r.f.a - own r)
  let what := if r.f.op = 7 then 9 else 4
  let w := r.waited 1 (· == a)
  let r1 := r.wait 1 (· == a)
  let r2 := if w.seen then r1.note what 0 else r1
  if w.done then (if r.f.op = 7 then r2.go 8 else r2.fin true) else r2
def tries (r : Run) : Run :=
  if r.f.line = 0 then (let r1 := r.load 2; (r1.setA r1.old).go 1)
  else if r.f.line = 1 then
    (let r1 := r.load 3
     let r2 := r1.setB r1.old
     let n := ahead r2.f.a r2.f.b
     if n > 0 then (r2.note 5 0).fin false else if n < 0 then r2.go 0 else r2.go 2)
  else if r.f.line = 2 then
    (let r1 := r.cas 2 r.f.a (u32 (r.f.a + 1))
     if r1.hitCas r.f.a then (r1.note 2 2).go 3 else r1.go 0)
  else if r.f.line = 3 then (let r1 := r.load 0; (r1.setA r1.old).go 4)
  else if r.f.line = 4 then inside r
  else if r.f.line = 5 then (let r1 := r.load 4; (r1.setB r1.old).go 6)
  else if r.f.line = 6 then (let r1 := r.add 0 (presence r.f.b); ((r1.setA r1.old).note 3 0).go 7)
  else if r.f.line = 7 then last r
  else if r.f.line = 8 then (if r.f.op = 7 then (r.add 1 256).fin true else r)
  else if r.f.line = 9 then pass r false
  else r
def leaves (r : Run) : Run :=
  if (r.f.op = 4 ∨ r.f.op = 8) ∧ r.f.line = 0 then (let r1 := r.load 4; (r1.setB r1.old).go 1)
  else if r.f.op = 4 ∧ r.f.line = 1 then (((r.add 0 (u32 (- presence r.f.b))).note 7 0).wake 0).go 2
  else if r.f.op = 8 ∧ r.f.line = 1 then (((r.add 0 (u32 (256 - presence r.f.b))).note 10 0).wake 0).go 2
  else if (r.f.op = 4 ∨ r.f.op = 8) ∧ r.f.line = 2 then (r.store 4 (u32 (r.f.b + 1))).go 3
  else if (r.f.op = 4 ∨ r.f.op = 8) ∧ r.f.line = 3 then pass r true
  else if r.f.op = 6 ∨ r.f.op = 7 then tries r
  else r
def lines (r : Run) : Run :=
  if (reader r 0 1).2 then (reader r 0 1).1
  else if r.f.op = 3 ∧ r.f.line = 0 then (let r1 := r.add 2 1; ((r1.setA r1.old).note 2 2).go 1)
  else if r.f.op = 3 ∧ r.f.line = 1 then
    (if (r.waited 3 (· == r.f.a)).done then (r.wait 3 (· == r.f.a)).go 2 else r.wait 3 (· == r.f.a))
  else if r.f.op = 3 ∧ r.f.line = 2 then (let r1 := r.load 4; (r1.setB r1.old).go 3)
  else if r.f.op = 3 ∧ r.f.line = 3 then (let r1 := r.add 0 (presence r.f.b); ((r1.setA r1.old).note 3 0).go 4)
  else if r.f.op = 3 ∧ r.f.line = 4 then
    (let w := r.waited 1 (· == r.f.a)
     let r1 := r.wait 1 (· == r.f.a)
     let r2 := if w.seen then r1.note 4 0 else r1
     if w.done then r2.fin true else r2)
  else leaves r
end Pf

/-! ### mutex -/
namespace Mx
def own (r : Run) : Int := u32 (r.task + 1)
/-- mutex.Enter: the run, and whether the task is in. -/
def enter (r : Run) (tail cls : Int) : Run × Bool :=
  if r.f.line = 0 then ((r.store (pnext r.n r.task) 0).go 1, false)
  else if r.f.line = 1 then ((r.store (pblocked r.n r.task) 1).go 2, false)
  else if r.f.line = 2 then
    (let r1 := r.swp tail (own r)
     let r2 := (r1.setA r1.old).note 2 cls
     if r2.f.a = 0 then (r2, true) else (r2.go 3, false))
  else if r.f.line = 3 then
    (let c := pnext r.n (r.f.a - 1)
     (((r.store c (own r)).wake c).go 4, false))
  else if r.f.line = 4 then
    (r.wait (pblocked r.n r.task) (· == 0), (r.waited (pblocked r.n r.task) (· == 0)).done)
  else (r, false)
def noted (r : Run) (l : List Int) : Run := l.foldl (fun r w => r.note w 0) r
/-- mutex.Give -/
def give (r : Run) (tail a : Int) (notes : List Int) : Run × Bool :=
  let mine := pnext r.n r.task
  if r.f.line - a = 0 then
    (let r1 := r.load mine
     let r2 := r1.setA r1.old
     if r2.f.a ≠ 0 then (r2.go (a + 3), false) else (r2.go (a + 1), false))
  else if r.f.line - a = 1 then
    (let r1 := r.cas tail (own r) 0
     if r1.hitCas (own r) then (noted r1 notes, true) else (r1.go (a + 2), false))
  else if r.f.line - a = 2 then
    (let w := r.waited mine (· != 0)
     let r1 := r.wait mine (· != 0)
     let r2 := if w.seen then r1.setA r1.old else r1
     if w.done then (r2.go (a + 3), false) else (r2, false))
  else if r.f.line - a = 3 then
    (let c := pblocked r.n (r.f.a - 1)
     (((noted (r.store c 0) notes).wake c), true))
  else (r, false)
/-- mutex.Try: done, in. -/
def try_ (r : Run) (tail a : Int) : Run × Bool × Bool :=
  if r.f.line - a = 0 then ((r.store (pnext r.n r.task) 0).go (a + 1), false, false)
  else if r.f.line - a = 1 then
    (let r1 := r.cas tail 0 (own r)
     (r1, true, r1.hitCas 0))
  else (r, false, false)
end Mx

/-! ### fq -/
namespace Fq
def enter (r : Run) (cls : Int) : Run := let t := Mx.enter r 0 cls; if t.2 then t.1.go 5 else t.1
def give (r : Run) (a : Int) (ok : Bool) (notes : List Int) : Run := let t := Mx.give r 0 a notes; if t.2 then t.1.fin ok else t.1
def try_ (r : Run) (cls next : Int) : Run :=
  let t := Mx.try_ r 0 0
  if t.2.1 = false then t.1 else if t.2.2 then (t.1.note 2 cls).go next else (t.1.note 5 0).fin false
def reader (r : Run) : Run := if r.f.line = 5 then (r.add 1 1).go 6 else give r 6 true [4]
def writer (r : Run) : Run :=
  if r.f.line ≠ 5 then r
  else
    let w := r.waited 1 (· == 0)
    let r1 := r.wait 1 (· == 0)
    let r2 := if w.seen then r1.note 4 0 else r1
    if w.done then r2.fin true else r2
def decide_ (r : Run) : Run :=
  if r.f.op = 6 ∧ r.f.line = 2 then
    (let r1 := r.load 1
     let r2 := r1.setA r1.old
     if r2.f.a = 0 then (r2.note 4 0).fin true else (r2.note 5 0).go 6)
  else if r.f.op = 7 ∧ r.f.line = 2 then
    (let r1 := r.load 1
     let r2 := r1.setA r1.old
     if r2.f.a = 1 then r2.go 3 else (r2.note 5 0).go 6)
  else if r.f.op = 7 ∧ r.f.line = 3 then ((r.add 1 4294967295).note 9 0).fin true
  else give r 6 false [8]
def others (r : Run) : Run :=
  if r.f.op = 2 ∧ r.f.line = 0 then (((r.add 1 4294967295).note 6 0).wake 1).fin true
  else if r.f.op = 8 ∧ r.f.line = 0 then (r.add 1 1).go 1
  else if r.f.op = 8 then give r 1 true [10]
  else r
def lines (r : Run) : Run :=
  if r.f.op = 1 then (if r.f.line ≤ 4 then enter r 1 else reader r)
  else if r.f.op = 5 then (if r.f.line ≤ 1 then try_ r 1 5 else reader r)
  else if r.f.op = 3 then (if r.f.line ≤ 4 then enter r 2 else writer r)
  else if r.f.op = 4 then give r 0 true [7, 8]
  else if r.f.op = 6 ∨ r.f.op = 7 then (if r.f.line ≤ 1 then try_ r 2 2 else decide_ r)
  else others r
end Fq

/-! ### pq -/
namespace Pq
def lock (r : Run) : Run :=
  if r.f.line = 5 then (let r1 := r.load 3; (r1.setB r1.old).go 6)
  else if r.f.line = 6 then (let r1 := r.add 0 (Pf.presence r.f.b); ((r1.setA r1.old).note 3 0).go 7)
  else if r.f.line = 7 then
    (let w := r.waited 1 (· == r.f.a)
     let r1 := r.wait 1 (· == r.f.a)
     let r2 := if w.seen then r1.note 4 0 else r1
     if w.done then r2.fin true else r2)
  else (let t := Mx.enter r 2 2; if t.2 then t.1.go 5 else t.1)
def leave (r : Run) : Run :=
  if (r.f.op = 4 ∨ r.f.op = 8) ∧ r.f.line = 0 then (let r1 := r.load 3; (r1.setB r1.old).go 1)
  else if r.f.op = 4 ∧ r.f.line = 1 then (((r.add 0 (u32 (- Pf.presence r.f.b))).note 7 0).wake 0).go 2
  else if r.f.op = 8 ∧ r.f.line = 1 then (((r.add 0 (u32 (256 - Pf.presence r.f.b))).note 10 0).wake 0).go 2
  else if (r.f.op = 4 ∨ r.f.op = 8) ∧ r.f.line = 2 then (r.store 3 (u32 (r.f.b + 1))).go 3
  else (let t := Mx.give r 2 3 [8]; if t.2 then t.1.fin true else t.1)
def try_ (r : Run) : Run :=
  let t := Mx.try_ r 2 0
  if t.2.1 = false then t.1 else if t.2.2 then (t.1.note 2 2).go 2 else (t.1.note 5 0).fin false
def inside (r : Run) : Run :=
  let r1 := r.load 1
  let r2 := r1.setB r1.old
  if ahead r2.f.a r2.f.b > Pf.own r2 then (r2.note 5 0).go 8 else r2.go 4
def last (r : Run) : Run :=
  let a := u32 (r.f.a - Pf.own r)
  let what := if r.f.op = 7 then 9 else 4
  let w := r.waited 1 (· == a)
  let r1 := r.wait 1 (· == a)
  let r2 := if w.seen then r1.note what 0 else r1
  if w.done then (if r.f.op = 7 then r2.go 7 else r2.fin true) else r2
def decide_ (r : Run) : Run :=
  if r.f.line = 2 then (let r1 := r.load 0; (r1.setA r1.old).go 3)
  else if r.f.line = 3 then inside r
  else if r.f.line = 4 then (let r1 := r.load 3; (r1.setB r1.old).go 5)
  else if r.f.line = 5 then (let r1 := r.add 0 (Pf.presence r.f.b); ((r1.setA r1.old).note 3 0).go 6)
  else if r.f.line = 6 then last r
  else if r.f.line = 7 then (if r.f.op = 7 then (r.add 1 256).fin true else r)
  else (let t := Mx.give r 2 8 [8]; if t.2 then t.1.fin false else t.1)
def lines (r : Run) : Run :=
  if (Pf.reader r 0 1).2 then (Pf.reader r 0 1).1
  else if r.f.op = 3 then lock r
  else if r.f.op = 4 ∨ r.f.op = 8 then leave r
  else if r.f.op = 6 ∨ r.f.op = 7 then (if r.f.line ≤ 1 then try_ r else decide_ r)
  else r
end Pq

/-! ### rf -/
namespace Rf
def inW (v : Int) : Bool := decide (v / 65536 % 2 ≠ 0)
def end_ (r : Run) (wake : Bool) (notes : List Int) : Run :=
  let r1 := notes.foldl (fun r w => r.note w 0) r
  let r2 := if wake then r1.wake 0 else r1
  r2.fin true
def refuse (r : Run) : Run := (r.note 5 0).fin false
def choose (r : Run) (may : Int → Bool) : Run :=
  let r1 := r.load 0
  let r2 := r1.setA r1.old
  if may r2.f.a then r2.go 1 else refuse r2
def swap (r : Run) (fr to : Int) (first : Run → Run) (note : Int) : Run :=
  let r1 := r.cas 0 fr to
  if r1.hitCas fr then end_ (first r1) false [note] else r1.go 0
def tries (r : Run) : Run :=
  if r.f.op = 5 ∧ r.f.line = 0 then choose r (fun v => !inW v)
  else if r.f.op = 6 ∧ r.f.line = 0 then choose r (· == 0)
  else if r.f.op = 7 ∧ r.f.line = 0 then choose r (· == 1)
  else if r.f.op = 5 ∧ r.f.line = 1 then swap r r.f.a (u32 (r.f.a + 1)) (fun r => r.note 2 1) 4
  else if r.f.op = 6 ∧ r.f.line = 1 then swap r 0 65536 (fun r => r.note 2 2) 4
  else if r.f.op = 7 ∧ r.f.line = 1 then swap r 1 65536 (fun r => r) 9
  else r
def lines (r : Run) : Run :=
  if r.f.op = 1 ∧ r.f.line = 0 then
    (let r1 := r.add 0 1
     let r2 := (r1.setA r1.old).note 2 1
     if inW r2.f.a then r2.go 1 else end_ r2 false [4])
  else if r.f.op = 1 ∧ r.f.line = 1 then
    (let w := r.waited 0 (fun v => !inW v)
     let r1 := r.wait 0 (fun v => !inW v)
     let r2 := if w.seen then r1.note 4 0 else r1
     if w.done then r2.fin true else r2)
  else if r.f.op = 2 ∧ r.f.line = 0 then end_ (r.add 0 4294967295) true [6]
  else if r.f.op = 3 ∧ r.f.line = 0 then
    (let r1 := r.load 0
     let r2 := ((r1.setA r1.old).note 2 2).go 2
     if r2.f.a = 0 then r2.go 1 else r2)
  else if r.f.op = 3 ∧ r.f.line = 1 then
    (let r1 := r.cas 0 0 65536
     if r1.hitCas 0 then end_ r1 false [4] else r1.go 2)
  else if r.f.op = 3 ∧ r.f.line = 2 then
    (if (r.waited 0 (· == 0)).done then (r.wait 0 (· == 0)).go 1 else r.wait 0 (· == 0))
  else if r.f.op = 4 ∧ r.f.line = 0 then end_ (r.add 0 4294901760) true [7, 8]
  else if r.f.op = 8 ∧ r.f.line = 0 then end_ (r.add 0 4294901761) true [10]
  else tries r
end Rf

/-! ### wf -/
namespace Wf
def fld (v sh : Int) : Int := v / sh % 256
def readers (v : Int) : Int := v % 256
def calm (v : Int) : Bool := fld v 256 == fld v 65536
/-- What makes it the next writer's turn. -/
def next (v : Int) : Int := u32 ((fld v 256 + 1) % 256 * 256 - fld v 256 * 256)
def calmly (r : Run) : Run :=
  let r1 := r.load 0
  let r2 := (r1.setA r1.old).go 2
  if calm r2.f.a then r2.go 1 else r2
def choose (r : Run) (may : Int → Bool) : Run :=
  let r1 := r.load 0
  let r2 := r1.setA r1.old
  if calm r2.f.a && may r2.f.a then r2.go 1 else (r2.note 5 0).fin false
def swap (r : Run) (more cls note : Int) : Run :=
  let r1 := r.cas 0 r.f.a (u32 (r.f.a + more))
  if r1.hitCas r.f.a then Rf.end_ (if cls ≠ 0 then r1.note 2 cls else r1) false [note] else r1.go 0
def leaves (r : Run) : Run :=
  if (r.f.op = 4 ∨ r.f.op = 8) ∧ r.f.line = 0 then (let r1 := r.load 0; (r1.setA r1.old).go 1)
  else if r.f.op = 4 ∧ r.f.line = 1 then Rf.end_ (r.add 0 (next r.f.a)) true [7, 8]
  else if r.f.op = 8 ∧ r.f.line = 1 then Rf.end_ (r.add 0 (u32 (next r.f.a + 1))) true [10]
  else if r.f.op = 5 ∧ r.f.line = 0 then choose r (fun _ => true)
  else if r.f.op = 6 ∧ r.f.line = 0 then choose r (fun v => readers v == 0)
  else if r.f.op = 7 ∧ r.f.line = 0 then choose r (fun v => readers v == 1)
  else if r.f.op = 5 ∧ r.f.line = 1 then swap r 1 1 4
  else if r.f.op = 6 ∧ r.f.line = 1 then swap r 65536 2 4
  else if r.f.op = 7 ∧ r.f.line = 1 then swap r 65535 0 9
  else r
def lines (r : Run) : Run :=
  if r.f.op = 1 ∧ r.f.line = 0 then (calmly r).note 2 1
  else if r.f.op = 1 ∧ r.f.line = 1 then
    (let r1 := r.cas 0 r.f.a (u32 (r.f.a + 1))
     if r1.hitCas r.f.a then Rf.end_ r1 false [4] else r1.go 3)
  else if r.f.op = 1 ∧ r.f.line = 2 then
    (let w := r.waited 0 calm
     let r1 := r.wait 0 calm
     let r2 := if w.seen then r1.setA r1.old else r1
     if w.done then r2.go 1 else r2)
  else if r.f.op = 1 ∧ r.f.line = 3 then calmly r
  else if r.f.op = 2 ∧ r.f.line = 0 then Rf.end_ (r.add 0 4294967295) true [6]
  else if r.f.op = 3 ∧ r.f.line = 0 then (let r1 := r.add 0 65536; ((r1.setA r1.old).note 2 2).go 1)
  else if r.f.op = 3 ∧ r.f.line = 1 then
    (let mine := fld r.f.a 65536
     let is := fun v => fld v 256 == mine && readers v == 0
     let w := r.waited 0 is
     let r1 := r.wait 0 is
     let r2 := if w.seen then r1.note 4 0 else r1
     if w.done then r2.fin true else r2)
  else leaves r
end Wf

end Stile
