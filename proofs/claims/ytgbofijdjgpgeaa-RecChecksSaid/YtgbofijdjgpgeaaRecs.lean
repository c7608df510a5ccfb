/- What rec.Calls keeps: a map of rows of whole numbers, and a row of calls, each with a row of whole numbers. -/
import Derived.Test.YtgbofijdjgpgeaaFam
import Derived.Test.YtgbofijdjgpgeaaMapsI
namespace Go.Proofs.Ytgbofijdjgpgeaa.Recs
open Go.RowKit Go.Proofs.YtgbofijdjgpgeaaW.PrintWords Go.Proofs.Ytgbofijdjgpgeaa.Fam

/-! ### The plain thing -/
structure C where
  task : Int
  op : Int
  frm : Int
  til : Int
  ret : Int
  pts : List Int
abbrev Sl := Option Addr × Nat × Nat
abbrev slv (s : Sl) : Value := .slice s.1 s.2.1 s.2.2
abbrev nilS : Sl := (none, 0, 0)

def gget {α : Type} : List (Int × α) → Int → Option α
  | [], _ => none
  | (a, x) :: m, k => if a = k then some x else gget m k
def gput {α : Type} : List (Int × α) → Int → α → List (Int × α)
  | [], k, v => [(k, v)]
  | (a, x) :: m, k, v => if a = k then (a, v) :: m else (a, x) :: gput m k v
def gdel {α : Type} : List (Int × α) → Int → List (Int × α)
  | [], _ => []
  | (a, x) :: m, k => if a = k then m else (a, x) :: gdel m k
theorem gget_map {α β : Type} (f : α → β) (k : Int) : ∀ m : List (Int × α), gget (m.map fun e => (e.1, f e.2)) k = (gget m k).map f
  | [] => rfl
  | (a, x) :: m => by
    simp only [List.map_cons, gget]
    split
    · rfl
    · exact gget_map f k m
theorem gput_map {α β : Type} (f : α → β) (k : Int) (v : α) : ∀ m : List (Int × α), gput (m.map fun e => (e.1, f e.2)) k (f v) = (gput m k v).map fun e => (e.1, f e.2)
  | [] => rfl
  | (a, x) :: m => by
    simp only [List.map_cons, gput]
    split
    · rfl
    · rw [gput_map f k v m]; rfl
theorem gdel_map {α β : Type} (f : α → β) (k : Int) : ∀ m : List (Int × α), gdel (m.map fun e => (e.1, f e.2)) k = (gdel m k).map fun e => (e.1, f e.2)
  | [] => rfl
  | (a, x) :: m => by
    simp only [List.map_cons, gdel]
    split
    · rfl
    · rw [gdel_map f k m]; rfl
theorem get_eq (k : Int) : ∀ m : List (Int × Value), IMap.get m k = gget m k
  | [] => rfl
  | (a, x) :: m => by simp only [IMap.get, gget, get_eq k m]
theorem put_eq (k : Int) (v : Value) : ∀ m : List (Int × Value), IMap.put m k v = gput m k v
  | [] => rfl
  | (a, x) :: m => by simp only [IMap.put, gput, put_eq k v m]
theorem del_eq (k : Int) : ∀ m : List (Int × Value), IMap.del m k = gdel m k
  | [] => rfl
  | (a, x) :: m => by simp only [IMap.del, gdel, del_eq k m]
/-- An entry that is there: the list is it and the others. -/
theorem gget_perm {α : Type} (k : Int) (v : α) : ∀ m : List (Int × α), gget m k = some v → ∃ m', m.Perm ((k, v) :: m') ∧ (∀ u, (gput m k u).Perm ((k, u) :: m')) ∧ gdel m k = gdel m k ∧ (gdel m k).Perm m'
  | [], h => by cases h
  | (a, x) :: m, h => by
    by_cases ha : a = k
    · subst ha
      simp only [gget, if_true, Option.some.injEq] at h
      subst h
      exact ⟨m, .refl _, fun u => by simp only [gput, if_true]; exact .refl _, rfl, by simp only [gdel, if_true]; exact .refl _⟩
    · simp only [gget, if_neg ha] at h
      obtain ⟨m', h1, h2, _, h3⟩ := gget_perm k v m h
      refine ⟨(a, x) :: m', (h1.cons _).trans (.swap _ _ _), fun u => ?_, rfl, ?_⟩
      · simp only [gput, if_neg ha]
        exact ((h2 u).cons _).trans (.swap _ _ _)
      · simp only [gdel, if_neg ha]
        exact h3.cons _
theorem gput_none {α : Type} (k : Int) (u : α) : ∀ m : List (Int × α), gget m k = none → gput m k u = m ++ [(k, u)]
  | [], _ => rfl
  | (a, x) :: m, h => by
    by_cases ha : a = k
    · simp [gget, ha] at h
    · simp only [gget, if_neg ha] at h
      simp only [gput, if_neg ha, gput_none k u m h, List.cons_append]
theorem gdel_none {α : Type} (k : Int) : ∀ m : List (Int × α), gget m k = none → gdel m k = m
  | [], _ => rfl
  | (a, x) :: m, h => by
    by_cases ha : a = k
    · simp [gget, ha] at h
    · simp only [gget, if_neg ha] at h
      simp only [gdel, if_neg ha, gdel_none k m h]

abbrev O := List (Int × List Int)
def closed (at_ arg : Int) (c : List C) (i : Int) : List C := c.modify i.toNat fun x => { x with til := at_, ret := arg }
def pointed (at_ : Int) (c : List C) (i : Int) : List C := c.modify i.toNat fun x => { x with pts := x.pts ++ [at_] }
/-- One note: task, what, operation, argument. -/
def step (at_ : Int) (n : Int × Int × Int × Int) (s : O × List C) : O × List C :=
  if n.2.1 = 1 then (gput s.1 n.1 ((gget s.1 n.1).getD [] ++ [(s.2.length : Int)]), s.2 ++ [⟨n.1, n.2.2.1, at_, -1, 0, []⟩])
  else if n.2.1 = 11 then (gdel s.1 n.1, ((gget s.1 n.1).getD []).foldl (closed at_ n.2.2.2) s.2)
  else (s.1, ((gget s.1 n.1).getD []).foldl (pointed at_) s.2)
def run : Nat → List (Int × Int × Int × Int) → O × List C → O × List C
  | _, [], s => s
  | k, n :: l, s => run (k + 1) l (step k n s)
/-- The calls of a history. -/
def calls (l : List (Int × Int × Int × Int)) : List C := (run 0 l ([], [])).2
end Go.Proofs.Ytgbofijdjgpgeaa.Recs
