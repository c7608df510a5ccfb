/- The locks' step machines as plain Lean functions: what the program's packages cells .. world compute, with no Go in sight. -/
namespace Stile
structure Acc where
 kind : Int
 cell : Int
 x : Int
 y : Int
 old : Int
 deriving DecidableEq
def Acc.zero : Acc := ⟨0, 0, 0, 0, 0⟩
structure Note where
 task : Int
 what : Int
 op : Int
 arg : Int
 deriving DecidableEq
structure Frame where
 op : Int
 line : Int
 a : Int
 b : Int
 stage : Int
 on : Bool
 wc : Int
 wi : Int
 hit : Bool
 ret : Int
 deriving DecidableEq
def Frame.zero : Frame := ⟨0, 0, 0, 0, 0, false, 0, 0, false, 0⟩
structure Task where
 hold : Int
 f : Frame
 deriving DecidableEq
structure Run where
 l : List Int
 n : Int
 mode : Int
 task : Int
 f : Frame
 acc : Acc
 notes : List Note
 deriving DecidableEq
def u32 (x : Int) : Int := x % 4294967296
def ahead (a b : Int) : Int := (a - b + 2147483648) % 4294967296 - 2147483648
def cellOk (l : List Int) (c : Int) : Prop := 0 ≤ c ∧ c < l.length
instance (l : List Int) (c : Int) : Decidable (cellOk l c) := by unfold cellOk; exact inferInstance
def doAcc (l : List Int) (k c x y : Int) : Acc × Bool × List Int :=
 if cellOk l c then
  let old := l.getD c.toNat 0
  if k = 1 then (⟨k, c, x, y, old⟩, true, l)
  else if k = 3 then (⟨k, c, x, y, old⟩, true, l.set c.toNat (u32 (old + x)))
  else if k = 5 then (⟨k, c, x, y, old⟩, true, if old = x then l.set c.toNat y else l)
  else if k = 2 then (⟨k, c, x, y, old⟩, true, l.set c.toNat x)
  else if k = 4 then (⟨k, c, x, y, old⟩, true, l.set c.toNat x)
  else (.zero, false, l)
 else (.zero, false, l)
def right (n : Int) : Prop := 1 ≤ n ∧ n ≤ 64
instance (n : Int) : Decidable (right n) := by unfold right; exact inferInstance
def pcell (n row i : Int) : Int := if right n ∧ 0 ≤ i ∧ i < n then 8 + row * n + i else -1
def pnext (n i : Int) : Int := pcell n 0 i
def pblocked (n i : Int) : Int := pcell n 1 i
def pwatch (n i : Int) : Int := pcell n 2 i
def ppermit (n i : Int) : Int := pcell n 3 i
def takePermit (l : List Int) (n task : Int) : Acc × Bool × List Int :=
 if (doAcc l 1 (ppermit n task) 0 0).1.old ≠ 0 then doAcc l 4 (ppermit n task) 0 0 else (.zero, false, l)
def stageOf (mode st : Int) : Int := if mode = 2 ∧ 0 ≤ st ∧ st ≤ 4 then st else 0
structure Waited where
 stage : Int
 acc : Acc
 seen : Bool
 done : Bool
 l : List Int
def waitStep (l : List Int) (n mode task st c : Int) (is : Int → Bool) : Waited :=
 let s := stageOf mode st
 if s = 0 ∨ s = 2 then
  let a := (doAcc l 1 c 0 0).1
  if is a.old then (if s = 2 then ⟨4, a, true, false, l⟩ else ⟨0, a, true, true, l⟩)
  else ⟨if mode = 2 then s + 1 else 0, a, false, false, l⟩
 else if s = 1 then
  let d := doAcc l 2 (pwatch n task) (u32 (c + 1)) 0
  ⟨2, d.1, false, false, d.2.2⟩
 else if s = 3 then
  let d := takePermit l n task
  ⟨if d.2.1 then 2 else 3, d.1, false, false, d.2.2⟩
 else
  let d := doAcc l 2 (pwatch n task) 0 0
  ⟨0, d.1, false, true, d.2.2⟩
end Stile
