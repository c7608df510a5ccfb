/- The rule of a kind as a plain Lean function on notes: what it knows of the tasks, and which notes it takes. -/
import Derived.Test.YtkmlefbdhdlfmaaGreatWorld
namespace Stile

/-- What is known of a task. -/
structure RT where
  op : Int
  hold : Int
  req : Int
  rank : Int
  presence : Int
  seen : Int
  bar : Int
  leaving : Bool
  refused : Bool
  deriving DecidableEq
def RT.zero : RT := ⟨0, 0, 0, 0, 0, 0, 0, false, false⟩

structure RS where
  kind : Int
  t : List RT
  ranks : Int
  presences : Int
  deriving DecidableEq

namespace RS
/-- A task. -/
def at_ (r : RS) (i : Nat) : RT := r.t.getD i RT.zero
/-- Whether something is so of another task. -/
def oth (r : RS) (me : Nat) (p : RT → Bool) : Bool := (List.range r.t.length).any fun j => decide (j ≠ me) && p (r.at_ j)
def put (r : RS) (i : Nat) (x : RT) : RS := { r with t := r.t.set i x }
def fair (r : RS) : Bool := decide (r.kind = 1 ∨ r.kind = 4)
def phases (r : RS) : Bool := decide (r.kind = 2 ∨ r.kind = 3)
def writes (x : RT) : Bool := decide (x.hold = 2)
def holds (x : RT) : Bool := decide (x.hold ≠ 0)
def wants (x : RT) : Bool := decide (x.req ≠ 0)
def wantsRead (x : RT) : Bool := decide (x.req = 1)
def wantsWrite (x : RT) : Bool := decide (x.req = 2)
def leaves (x : RT) : Bool := x.leaving
def present (x : RT) : Bool := decide (x.presence > 0)
def before (m x : RT) : Bool := decide (x.req ≠ 0 ∧ x.rank < m.rank)
def beforeW (m x : RT) : Bool := decide (x.req = 2 ∧ x.rank < m.rank)
def early (m x : RT) : Bool := decide (x.req = 1 ∧ x.rank ≤ m.seen)
def barred (m x : RT) : Bool := decide (m.bar ≠ 0 ∧ x.presence = m.bar)

/-- May a task's request be admitted? -/
def admission (r : RS) (me : Nat) : Bool :=
  let m := r.at_ me
  if m.req = 1 then !r.oth me writes && !(r.fair && r.oth me (before m)) && !(r.phases && r.oth me (barred m)) && !(decide (r.kind = 6) && r.oth me wantsWrite)
  else if r.oth me holds then false
  else if r.fair then !r.oth me leaves && !r.oth me (before m)
  else if r.phases then decide (m.presence > 0) && !r.oth me (early m)
  else if r.kind = 5 then !r.oth me wantsRead
  else !r.oth me (beforeW m)
/-- May a task's try be refused? -/
def refusal (r : RS) (me : Nat) : Bool :=
  if (r.at_ me).op = 5 then
    (if r.fair then r.oth me writes || r.oth me wants
     else if r.phases then r.oth me present
     else if r.kind = 5 then r.oth me writes
     else r.oth me writes || r.oth me wantsWrite)
  else if r.kind = 5 then r.oth me holds || r.oth me wantsRead
  else if r.kind = 6 then r.oth me holds || r.oth me wantsWrite
  else r.oth me holds || r.oth me wants || r.oth me leaves
/-- May a reader become the writer? -/
def ascent (r : RS) (me : Nat) : Bool :=
  let m := r.at_ me
  if m.hold ≠ 1 ∨ r.oth me holds = true then false
  else if r.kind = 1 then decide (m.req = 0) && !r.oth me wants && !r.oth me leaves
  else if r.kind = 4 then decide (m.req = 2) && !r.oth me (before m)
  else if r.phases then decide (m.req = 2 ∧ m.presence > 0) && !r.oth me (early m)
  else if r.kind = 5 then decide (m.req = 0) && !r.oth me wantsRead
  else decide (m.req ≠ 2) && !r.oth me wantsWrite
def leads (op : Int) : Int := if op = 1 ∨ op = 5 ∨ op = 8 then 1 else if op = 3 ∨ op = 6 ∨ op = 7 then 2 else 0
/-- The presence of one that is present (0: there is none). -/
def bar (r : RS) : Int := (r.t.foldl (fun b x => if x.presence > 0 then x.presence else b) 0)
def register (r : RS) (me : Nat) (cls : Int) : Option RS :=
  let m := r.at_ me
  if m.req ≠ 0 then none
  else if cls = 1 ∧ ¬ ((m.op = 1 ∨ m.op = 5) ∧ m.hold = 0) then none
  else if cls = 2 ∧ ¬ ((m.op = 3 ∨ m.op = 6) ∧ m.hold = 0) ∧ ¬ (m.op = 7 ∧ m.hold = 1) then none
  else
    let b := if cls = 1 ∧ r.phases = true then r.bar else 0
    some { r.put me { m with req := cls, rank := r.ranks + 1, bar := b } with ranks := r.ranks + 1 }
/-- A note of a task that is there: taken, or not. -/
def take (r : RS) (x : Note) : Option RS :=
  let me := x.task.toNat
  let m := r.at_ me
  if x.what = 1 then (if m.op ≠ 0 then none else some (r.put me { m with op := x.op }))
  else if x.what = 2 then r.register me x.arg
  else if x.what = 3 then
    (if r.phases = false ∨ m.req ≠ 2 ∨ m.presence > 0 ∨ m.hold = 2 ∨ m.leaving = true ∨ r.oth me present = true ∨ r.oth me writes = true ∨ r.oth me leaves = true ∨ r.oth me (beforeW m) = true then none
     else some { r.put me { m with presence := r.presences + 1, seen := r.ranks } with presences := r.presences + 1 })
  else if x.what = 4 then
    (if ¬ (m.op = 1 ∨ m.op = 3 ∨ m.op = 5 ∨ m.op = 6) ∨ m.refused = true ∨ m.req = 0 ∨ r.admission me = false then none
     else some (r.put me { m with hold := m.req, req := 0 }))
  else if x.what = 5 then
    (if m.op < 5 ∨ m.op > 7 ∨ m.refused = true ∨ r.refusal me = false then none
     else some (r.put me { m with refused := true }))
  else if x.what = 6 then (if m.op ≠ 2 ∨ m.hold ≠ 1 then none else some (r.put me { m with hold := 0 }))
  else if x.what = 7 then
    (if m.op ≠ 4 ∨ m.hold ≠ 2 then none else some (r.put me { m with hold := 0, presence := 0, leaving := true }))
  else if x.what = 8 then
    (if m.leaving = false ∧ ¬ (m.refused = true ∧ m.req ≠ 0) then none else some (r.put me { m with leaving := false, req := 0 }))
  else if x.what = 9 then
    (if m.op ≠ 7 ∨ m.refused = true ∨ r.ascent me = false then none else some (r.put me { m with hold := 2, req := 0 }))
  else if x.what = 10 then
    (if m.op ≠ 8 ∨ m.hold ≠ 2 then none else some (r.put me { m with hold := 1, presence := 0, leaving := r.phases }))
  else if x.what = 11 then
    (if m.op ≠ x.op ∨ m.req ≠ 0 ∨ m.leaving = true then none
     else if (x.arg = 1 ∧ m.refused = false) ∨ (x.arg ≠ 1 ∧ m.refused = true) then none
     else if (x.arg = 2 ∧ m.hold ≠ leads x.op) ∨ (x.arg = 3 ∧ may x.op m.hold = true) then none
     else some (r.put me { m with op := 0, refused := false }))
  else none
def new (kind : Int) (n : Nat) : RS := ⟨kind, List.replicate n RT.zero, 0, 0⟩
end RS

end Stile
