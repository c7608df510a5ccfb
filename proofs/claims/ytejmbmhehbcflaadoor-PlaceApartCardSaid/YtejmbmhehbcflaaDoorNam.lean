/- place.names: the walk. -/
import Derived.Test.YtejmbmhehbcflaaDoorR1
import Derived.Test.YtejmbmhehbcflaaDoorMapsI
import Derived.Lib.Hide
import Derived.Deep.DeepMust
import Derived.WalkSpells
namespace Go.Proofs.YtejmbmhehbcflaaDoor.Nam
open Go.RowKit Go.Proofs.YtejmbmhehbcflaaDoor.Pr Go.Proofs.YtejmbmhehbcflaaDoorW.PrintWords Go.Proofs.YtejmbmhehbcflaaDoorW.PrintLast


/-- Block b is a row of strings. -/
def StrRow (w : World) (b : Nat) (l : List ByteArray) : Prop := w.heap[b]? = some (.cells (l.map Value.string).toArray 9 (0, 0))
theorem StrRow.lt {w : World} {b : Nat} {l : List ByteArray} (h : StrRow w b l) : b < w.heap.size := (Array.getElem?_eq_some_iff.1 h).1
theorem StrRow.below {w w' : World} {b B : Nat} {l : List ByteArray} (h : StrRow w b l) (hb : Below B w w') (hB : b < B) : StrRow w' b l := (hb.block b hB).trans h
theorem StrRow.alloc {w : World} {b : Nat} {l : List ByteArray} (h : StrRow w b l) (o : Obj) : StrRow (w.alloc o) b l := (Below.heap_alloc w o b h.lt).trans h
theorem StrRow.step {w w' : World} {r b : Nat} {l : List ByteArray} (h : StrRow w b l) (o : Obj) (t : IMap.Turned (w.alloc o) w' r) (hb : b ≠ r) : StrRow w' b l :=
  (t.other b hb).trans ((Below.heap_alloc w o b h.lt).trans h)
theorem StrRow.new {w w' : World} {r : Nat} (l : List ByteArray) (o : Obj) (ho : o = .cells (l.map Value.string).toArray 9 (0, 0)) (t : IMap.Turned (w.alloc o) w' r) (hb : w.heap.size ≠ r) : StrRow w' w.heap.size l := by
  subst ho; exact (t.other _ hb).trans (heap_alloc_new w _)

/-- The names of the own cells, by kinds. -/
def own (kind : Int) : List ByteArray :=
  if kind = 1 then [⟨#[117, 115, 101, 114, 115]⟩, ⟨#[114, 101, 97, 100, 115]⟩, ⟨#[119, 114, 105, 116, 101, 115]⟩] else if kind = 2 then [⟨#[114, 105, 110]⟩, ⟨#[114, 111, 117, 116]⟩, ⟨#[119, 105, 110]⟩, ⟨#[119, 111, 117, 116]⟩, ⟨#[112, 104, 97, 115, 101]⟩] else if kind = 3 then [⟨#[114, 105, 110]⟩, ⟨#[114, 111, 117, 116]⟩, ⟨#[116, 97, 105, 108]⟩, ⟨#[112, 104, 97, 115, 101]⟩] else if kind = 4 then [⟨#[116, 97, 105, 108]⟩, ⟨#[99, 111, 117, 110, 116]⟩] else if kind = 5 then [⟨#[119, 111, 114, 100]⟩] else if kind = 6 then [⟨#[119, 111, 114, 100]⟩] else []

set_option maxRecDepth 100000 in
set_option maxHeartbeats 2000000 in
theorem names (w : World) :
    Calls Tryd.prog 59 #[] w fun e w' => e = .returned (.map (some w.heap.size)) ∧ Below w.heap.size w w' ∧ ∃ b1 b2 b3 b4 b5 b6, 
      IMap.Is w' w.heap.size [(1, .slice (some ⟨b1, 0, none⟩) 3 3), (2, .slice (some ⟨b2, 0, none⟩) 5 5), (3, .slice (some ⟨b3, 0, none⟩) 4 4), (4, .slice (some ⟨b4, 0, none⟩) 2 2), (5, .slice (some ⟨b5, 0, none⟩) 1 1), (6, .slice (some ⟨b6, 0, none⟩) 1 1)] ∧ (StrRow w' b1 (own 1) ∧ w.heap.size < b1) ∧ (StrRow w' b2 (own 2) ∧ w.heap.size < b2) ∧ (StrRow w' b3 (own 3) ∧ w.heap.size < b3) ∧ (StrRow w' b4 (own 4) ∧ w.heap.size < b4) ∧ (StrRow w' b5 (own 5) ∧ w.heap.size < b5) ∧ (StrRow w' b6 (own 6) ∧ w.heap.size < b6) := by
  have hmm := @run_makeMap Tryd.prog
  go_enter Tryd.func59, Tryd.ntmps59
  go_wp2_with (first
    | (refine IMap.wp_insert rfl 87 (.tmp 1) (.const (.int .i64 1)) (.tmp 2) rfl 3 40 Tryd.underlying87 Tryd.underlying3 w.heap.size _ 1 _ rfl rfl rfl ((IMap.Is.made w).alloc _) ?_; intro w1 h1 t1)
    | (refine IMap.wp_insert rfl 87 (.tmp 1) (.const (.int .i64 2)) (.tmp 3) rfl 3 40 Tryd.underlying87 Tryd.underlying3 w.heap.size _ 2 _ rfl rfl rfl (h1.alloc _) ?_; intro w2 h2 t2)
    | (refine IMap.wp_insert rfl 87 (.tmp 1) (.const (.int .i64 3)) (.tmp 4) rfl 3 40 Tryd.underlying87 Tryd.underlying3 w.heap.size _ 3 _ rfl rfl rfl (h2.alloc _) ?_; intro w3 h3 t3)
    | (refine IMap.wp_insert rfl 87 (.tmp 1) (.const (.int .i64 4)) (.tmp 5) rfl 3 40 Tryd.underlying87 Tryd.underlying3 w.heap.size _ 4 _ rfl rfl rfl (h3.alloc _) ?_; intro w4 h4 t4)
    | (refine IMap.wp_insert rfl 87 (.tmp 1) (.const (.int .i64 5)) (.tmp 6) rfl 3 40 Tryd.underlying87 Tryd.underlying3 w.heap.size _ 5 _ rfl rfl rfl (h4.alloc _) ?_; intro w5 h5 t5)
    | (refine IMap.wp_insert rfl 87 (.tmp 1) (.const (.int .i64 6)) (.tmp 7) rfl 3 40 Tryd.underlying87 Tryd.underlying3 w.heap.size _ 6 _ rfl rfl rfl (h5.alloc _) ?_; intro w6 h6 t6))
  go_ret
  have s1 := t1.size; have s2 := t2.size; have s3 := t3.size; have s4 := t4.size; have s5 := t5.size; have s6 := t6.size
  simp only [World.size_alloc] at s1 s2 s3 s4 s5 s6
  have r1 : StrRow w1 (w.heap.size + 1) (own 1) := by have := StrRow.new (own 1) _ rfl t1 (by simp); simpa using this
  have r2 : StrRow w2 w1.heap.size (own 2) := StrRow.new (own 2) _ rfl t2 (by omega)
  have r1 := r1.step _ t2 (by omega)
  have r3 : StrRow w3 w2.heap.size (own 3) := StrRow.new (own 3) _ rfl t3 (by omega)
  have r1 := r1.step _ t3 (by omega)
  have r2 := r2.step _ t3 (by omega)
  have r4 : StrRow w4 w3.heap.size (own 4) := StrRow.new (own 4) _ rfl t4 (by omega)
  have r1 := r1.step _ t4 (by omega)
  have r2 := r2.step _ t4 (by omega)
  have r3 := r3.step _ t4 (by omega)
  have r5 : StrRow w5 w4.heap.size (own 5) := StrRow.new (own 5) _ rfl t5 (by omega)
  have r1 := r1.step _ t5 (by omega)
  have r2 := r2.step _ t5 (by omega)
  have r3 := r3.step _ t5 (by omega)
  have r4 := r4.step _ t5 (by omega)
  have r6 : StrRow w6 w5.heap.size (own 6) := StrRow.new (own 6) _ rfl t6 (by omega)
  have r1 := r1.step _ t6 (by omega)
  have r2 := r2.step _ t6 (by omega)
  have r3 := r3.step _ t6 (by omega)
  have r4 := r4.step _ t6 (by omega)
  have r5 := r5.step _ t6 (by omega)
  have c1 := t1.below (Nat.le_refl _) (below_alloc (below_alloc (Below.refl _ w) _) _)
  have c2 := t2.below (Nat.le_refl _) (below_alloc c1 _)
  have c3 := t3.below (Nat.le_refl _) (below_alloc c2 _)
  have c4 := t4.below (Nat.le_refl _) (below_alloc c3 _)
  have c5 := t5.below (Nat.le_refl _) (below_alloc c4 _)
  have c6 := t6.below (Nat.le_refl _) (below_alloc c5 _)
  exact ⟨rfl, c6, _, _, _, _, _, _, h6, ⟨r1, by omega⟩, ⟨r2, by omega⟩, ⟨r3, by omega⟩, ⟨r4, by omega⟩, ⟨r5, by omega⟩, ⟨r6, by omega⟩⟩

theorem own_other {k : Int} (h : ¬ (1 ≤ k ∧ k ≤ 6)) : own k = [] := by
  unfold own
  rw [if_neg (by omega), if_neg (by omega), if_neg (by omega), if_neg (by omega), if_neg (by omega), if_neg (by omega)]

/-- The map of names, as a look-up finds it. -/
def Named (w w' : World) (m : IMap.M) : Prop := ∀ k, (own k = [] ∧ IMap.get m k = none) ∨
  (own k ≠ [] ∧ ∃ b, IMap.get m k = some (.slice (some ⟨b, 0, none⟩) (own k).length (own k).length) ∧ StrRow w' b (own k) ∧ w.heap.size < b)

theorem names_map (w : World) :
    Calls Tryd.prog 59 #[] w fun e w' => e = .returned (.map (some w.heap.size)) ∧ Below w.heap.size w w' ∧ ∃ m, IMap.Is w' w.heap.size m ∧ Named w w' m := by
  refine (names w).mono ?_
  rintro e w' ⟨rfl, hb, b1, b2, b3, b4, b5, b6, hi, h1, h2, h3, h4, h5, h6⟩
  refine ⟨rfl, hb, _, hi, fun k => ?_⟩
  by_cases e1 : k = 1
  · subst e1; exact .inr ⟨by decide, b1, rfl, h1⟩
  by_cases e2 : k = 2
  · subst e2; exact .inr ⟨by decide, b2, rfl, h2⟩
  by_cases e3 : k = 3
  · subst e3; exact .inr ⟨by decide, b3, rfl, h3⟩
  by_cases e4 : k = 4
  · subst e4; exact .inr ⟨by decide, b4, rfl, h4⟩
  by_cases e5 : k = 5
  · subst e5; exact .inr ⟨by decide, b5, rfl, h5⟩
  by_cases e6 : k = 6
  · subst e6; exact .inr ⟨by decide, b6, rfl, h6⟩
  refine .inl ⟨own_other (by omega), ?_⟩
  simp only [IMap.get]
  rw [if_neg (Ne.symm e1), if_neg (Ne.symm e2), if_neg (Ne.symm e3), if_neg (Ne.symm e4), if_neg (Ne.symm e5), if_neg (Ne.symm e6)]

theorem zeroS (w : World) : (zeroValue 40).run Tryd.prog w = .ok (.slice none 0 0) w := by kernel_rfl
end Go.Proofs.YtejmbmhehbcflaaDoor.Nam
