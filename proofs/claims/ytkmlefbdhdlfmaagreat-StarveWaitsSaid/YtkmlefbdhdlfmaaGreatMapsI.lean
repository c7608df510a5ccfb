/- Maps keyed by int, as lists of pairs in the order of their first insertion: what an insertion, a look-up, a deletion, a length do to them, over any program. -/
import Derived.WalkKit
import Derived.OwnWalk
import Derived.Maps.OwnOps
import Derived.Maps.OwnSet
namespace Go.IMap
open Go.RowKit
abbrev M := List (Int × Value)
def get : M → Int → Option Value
 | [], _ => none
 | (a, x) :: m, k => if a = k then some x else get m k
def put : M → Int → Value → M
 | [], k, v => [(k, v)]
 | (a, x) :: m, k, v => if a = k then (a, v) :: m else (a, x) :: put m k v
def del : M → Int → M
 | [], _ => []
 | (a, x) :: m, k => if a = k then m else (a, x) :: del m k
def Is (w : World) (r : Nat) (m : M) : Prop :=
 ∃ es c, w.heap[r]? = some (.map es c) ∧ es.toList.map (fun e => (e.key, e.val)) = m.map fun p => (Value.int .i64 p.1, p.2)
theorem Is.of_block {w w' : World} {r : Nat} {m : M} (h : Is w r m) (hb : w'.heap[r]? = w.heap[r]?) : Is w' r m := by
 obtain ⟨es, c, e, k⟩ := h; exact ⟨es, c, hb.trans e, k⟩
theorem Is.lt {w : World} {r : Nat} {m : M} (h : Is w r m) : r < w.heap.size := by
 obtain ⟨es, c, e, k⟩ := h; exact (Array.getElem?_eq_some_iff.1 e).1
theorem Is.below {w w' : World} {B r : Nat} {m : M} (h : Is w r m) (hb : Below B w w') (hr : r < B) : Is w' r m := h.of_block (hb.block r hr)
theorem Is.alloc {w : World} {r : Nat} {m : M} (h : Is w r m) (o : Obj) : Is (w.alloc o) r m := h.of_block (Below.heap_alloc w o r h.lt)
theorem Is.setCell {w : World} {r : Nat} {m : M} (h : Is w r m) {a : Addr} (hr : r ≠ a.block) (v : Value) : Is (w.setCell a v) r m := h.of_block (Below.heap_setCell w a v r hr)
theorem Is.made (w : World) : Is (w.alloc (.map #[] 0)) w.heap.size [] := ⟨#[], 0, heap_alloc_new w _, rfl⟩
theorem findNow_get (k : Int) : ∀ (es : List MapEntry) (m : M) (i : Nat), es.map (fun e => (e.key, e.val)) = m.map (fun p => (Value.int .i64 p.1, p.2)) →
  (∃ j, Instr.findNow (.int .i64) (.int .i64 k) es i = some (match get m k with | some v => some (i + j, v) | none => none) ∧
   (∀ v, get m k = some v → (es[j]?).map (·.key) = some (.int .i64 k) ∧
    ∀ u, (es.modify j fun e => { e with key := .int .i64 k, val := u }).map (fun e => (e.key, e.val)) = (put m k u).map fun p => (Value.int .i64 p.1, p.2)) ∧
   (∀ v, get m k = some v → (es.eraseIdx j).map (fun e => (e.key, e.val)) = (del m k).map fun p => (Value.int .i64 p.1, p.2)))
 | [], [], i, _ => ⟨0, rfl, by simp [get], by simp [get]⟩
 | [], _ :: _, _, h => by simp at h
 | _ :: _, [], _, h => by simp at h
 | e :: es, (a, x) :: m, i, h => by
  simp only [List.map_cons, List.cons.injEq, Prod.mk.injEq] at h
  obtain ⟨⟨h1, h2⟩, h3⟩ := h
  by_cases hk : a = k
  ·subst hk
   refine ⟨0, ?_, ?_, ?_⟩
   ·simp [Instr.findNow, Instr.sameNow, h1, h2, get]
   ·intro v _
    refine ⟨by simp [h1], fun u => ?_⟩
    simp [put, h3]
   ·intro v _
    simp [del, h3]
  ·obtain ⟨j, hj, hp, hd⟩ := findNow_get k es m (i + 1) h3
   refine ⟨j + 1, ?_, ?_, ?_⟩
   ·have hs : Instr.sameNow (.int .i64) (.int .i64 k) e.key = some false := by
     rw [h1]; simp [Instr.sameNow]; exact fun h => hk h.symm
    simp only [Instr.findNow, hs, get, if_neg hk]
    rw [hj]
    cases get m k <;> simp; omega
   ·intro v hv
    rw [get, if_neg hk] at hv
    obtain ⟨p1, p2⟩ := hp v hv
    refine ⟨by simpa using p1, fun u => ?_⟩
    simp [put, hk, p2 u, h1, h2]
   ·intro v hv
    rw [get, if_neg hk] at hv
    simp [del, hk, hd v hv, h1, h2]
section
variable {P : Program} {w : World} {r : Nat} {m : M} {t kt et : TypeId}
theorem run_checkKey_int (b : Bool) (k : Int) (hk : P.underlying kt = some (.int .i64)) : (Instr.checkKey b 10000 kt (.int .i64 k)).run P w = .ok () w := by
 show (Instr.checkKey b (9999 + 1) kt (.int .i64 k)).run P w = _
 unfold Instr.checkKey
 simp [run_underlying hk]
theorem run_findKey_int (k : Int) (hk : P.underlying kt = some (.int .i64)) (es : List MapEntry) (a) (h : Instr.findNow (.int .i64) (.int .i64 k) es 0 = some a) :
  (Instr.findKey kt (.int .i64 k) es).run P w = .ok a w := by
 unfold Instr.findKey
 simp [run_underlying hk, h]
theorem run_lookup (h : Is w r m) (ht : P.underlying t = some (.map kt et)) (hk : P.underlying kt = some (.int .i64)) {z : Value}
  (hz : (zeroValue et).run P w = .ok z w) (k : Int) (ok : Bool) :
  (Instr.lookup t (.map (some r)) (.int .i64 k) ok).run P w =
   .ok (if ok then .tuple #[(get m k).getD z, .bool (get m k).isSome] else (get m k).getD z) w := by
 obtain ⟨es, c, e, hm⟩ := h
 obtain ⟨j, hj, _, _⟩ := findNow_get k es.toList m 0 hm
 unfold Instr.lookup
 have hg : (getObj r).run P w = .ok (.map es c) w := by simp [getObj, Sem.run, e]
 have hf := run_findKey_int (P := P) (w := w) k hk _ _ hj
 have hc := fun b => run_checkKey_int (P := P) (w := w) b k hk
 cases hget : get m k with
 | none => simp [run_underlying ht, hg, hc, hf, hz, hget]
 | some v => simp [run_underlying ht, hg, hc, hf, hget]
def setMap (w : World) (r : Nat) (es : Array MapEntry) (c : Nat) : World := { w with heap := w.heap.setIfInBounds r (.map es c) }
structure Turned (w w' : World) (r : Nat) : Prop where
 size : w'.heap.size = w.heap.size
 other : ∀ b, b ≠ r → w'.heap[b]? = w.heap[b]?
 os : w'.os = w.os
 tape : w'.tape = w.tape
 output : w'.output = w.output
theorem Turned.of_setMap (w : World) (r : Nat) (es : Array MapEntry) (c : Nat) : Turned w (setMap w r es c) r :=
 ⟨by simp [setMap], fun b hb => by simp [setMap, Array.getElem?_setIfInBounds_ne (Ne.symm hb)], rfl, rfl, rfl⟩
theorem Turned.below {w w' : World} {r B : Nat} (h : Turned w w' r) (hB : B ≤ r) {w0 : World} (k : Below B w0 w) : Below B w0 w' :=
 ⟨h.os.trans k.os, h.tape.trans k.tape, h.output.trans k.output, h.size ▸ k.size, fun b hb => (h.other b (by omega)).trans (k.block b hb)⟩
theorem Is.of_setMap {w : World} {r : Nat} {es : Array MapEntry} {c : Nat} {m : M} (hr : r < w.heap.size)
  (h : es.toList.map (fun e => (e.key, e.val)) = m.map fun p => (Value.int .i64 p.1, p.2)) : Is (setMap w r es c) r m :=
 ⟨es, c, by simp [setMap, hr], h⟩
theorem put_new {k : Int} {v : Value} : ∀ {m : M}, get m k = none → put m k v = m ++ [(k, v)]
 | [], _ => rfl
 | (a, x) :: m, h => by
  by_cases ha : a = k
  ·simp [get, ha] at h
  ·rw [get, if_neg ha] at h
   simp [put, ha, put_new h]
theorem run_update (h : Is w r m) (ht : P.underlying t = some (.map kt et)) (hk : P.underlying kt = some (.int .i64)) (k : Int) (v : Value) :
  ∃ w', (Instr.mapUpdate t (.map (some r)) (.int .i64 k) v).run P w = .ok () w' ∧ Is w' r (put m k v) ∧ Turned w w' r := by
 obtain ⟨es, c, e, hm⟩ := h
 obtain ⟨j, hj, hp, _⟩ := findNow_get k es.toList m 0 hm
 have hr : r < w.heap.size := (Array.getElem?_eq_some_iff.1 e).1
 have hg : (getObj r).run P w = .ok (.map es c) w := by simp [getObj, Sem.run, e]
 have hf := run_findKey_int (P := P) (w := w) k hk _ _ hj
 have hc := fun b => run_checkKey_int (P := P) (w := w) b k hk
 have hs : ∀ es' c', (setObj r (.map es' c')).run P w = .ok () (setMap w r es' c') := fun es' c' => by simp [setObj, Sem.run, e, setMap]
 cases hget : get m k with
 | none =>
  refine ⟨setMap w r (es.push ⟨.int .i64 k, v, c⟩) (c + 1), ?_, .of_setMap hr ?_, .of_setMap ..⟩
  ·unfold Instr.mapUpdate
   simp [run_underlying ht, hg, hc, hf, hs, hget]
  ·rw [put_new hget]; simp [hm]
 | some u =>
  obtain ⟨p1, p2⟩ := hp u hget
  have hkey : ((es[j]?).map (·.key)).getD (.int .i64 k) = .int .i64 k := by
   have : (es[j]?).map (·.key) = some (.int .i64 k) := by simpa using p1
   rw [this]; rfl
  have hstay : (Instr.keyThatStays (.int .i64 k) (.int .i64 k)).run P w = .ok (.int .i64 k) w := by
   unfold Instr.keyThatStays
   simp [Instr.sameBits]
  refine ⟨setMap w r (es.modify j fun e => { e with key := .int .i64 k, val := v }) c, ?_, .of_setMap hr ?_, .of_setMap ..⟩
  ·unfold Instr.mapUpdate
   simp [run_underlying ht, hg, hc, hf, hs, hget, hkey, hstay]
  ·simpa using p2 v
variable {ops : Array Oper} {rest : List Oper} {o : Oper} {a : Act} {Q : Exit → Act → World → Prop}
theorem wp_insert (hg : o.guard = none) (t : TypeId) (mo ko vo : Operand) (hop : o.op = Op.insert t mo ko vo) (kt et : TypeId) (ht : P.underlying t = some (.map kt et))
  (hk : P.underlying kt = some (.int .i64)) (r : Nat) (m : M) (k : Int) (v : Value) (hm : a.eval mo = .map (some r)) (hkv : a.eval ko = .int .i64 k) (hv : a.eval vo = v) (h : Is w r m)
  (hK : ∀ w', Is w' r (put m k v) → Turned w w' r → wpList P ops Q rest (a.put o.dst undef) w') : wpList P ops Q (o :: rest) a w := by
 refine wpList_plain hg fun K' hK' => ?_
 obtain ⟨w', hrun, hi, hu⟩ := run_update h ht hk k v
 unfold Oper.wp
 simp [execOp, hop, hm, hkv, hv, hrun, Result.andThen]
 exact hK' _ _ (hK w' hi hu)
theorem wp_lookup (hg : o.guard = none) (t : TypeId) (mo ko : Operand) (hop : o.op = Op.lookup t mo ko false) (kt et : TypeId) (ht : P.underlying t = some (.map kt et))
  (hk : P.underlying kt = some (.int .i64)) {z : Value} (hz : (zeroValue et).run P w = .ok z w) (r : Nat) (m : M) (k : Int) (hm : a.eval mo = .map (some r)) (hkv : a.eval ko = .int .i64 k) (h : Is w r m)
  (hK : ∀ v, (get m k).getD z = v → wpList P ops Q rest (a.put o.dst v) w) : wpList P ops Q (o :: rest) a w := by
 refine wpList_plain hg fun K' hK' => ?_
 have hrun := run_lookup h ht hk hz k false
 unfold Oper.wp
 simp [execOp, hop, hm, hkv, hrun, Result.andThen]
 exact hK' _ _ (hK _ rfl)
end
end Go.IMap
