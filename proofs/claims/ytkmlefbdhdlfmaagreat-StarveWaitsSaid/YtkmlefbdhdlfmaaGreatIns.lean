/- slices.Insert of one note ahead of all others: the library's own text, walked. -/
import Derived.Test.YtkmlefbdhdlfmaaGreatWs
import Derived.Test.YtkmlefbdhdlfmaaGreatWApart
import Derived.Test.YtkmlefbdhdlfmaaGreatWWords
import Derived.Laws.CopyRow
import Derived.Lib.Overlaps
import Derived.Lib.AppendZerosOnto
namespace Go.Proofs.YtkmlefbdhdlfmaaGreat.Wo
open Go.RowKit Go.Proofs.YtkmlefbdhdlfmaaGreatW.PrintWords Go.Proofs.YtkmlefbdhdlfmaaGreatW.PrintMore Go.Proofs.YtkmlefbdhdlfmaaGreatW.PrintLast
open Stile
set_option linter.unusedSimpArgs false
set_option linter.unusedVariables false
set_option maxRecDepth 100000
abbrev noteC (x : Note) : List Value := [.int .i64 x.task, .int .i64 x.what, .int .i64 x.op, .int .i64 x.arg]
def flatN : List Note → List Value
 | [] => []
 | x :: l => .int .i64 x.task :: .int .i64 x.what :: .int .i64 x.op :: .int .i64 x.arg :: flatN l
theorem flatN_length : ∀ l, (flatN l).length = l.length * 4
 | [] => rfl
 | x :: l => by simp only [flatN, List.length_cons, flatN_length l]; omega
theorem flatN_one : ∀ l, ∀ v ∈ flatN l, v.oneCell' = true
 | [], v, h => by cases h
 | x :: l, v, h => by
  simp only [flatN, List.mem_cons] at h
  rcases h with rfl | rfl | rfl | rfl | h
  ·rfl
  ·rfl
  ·rfl
  ·rfl
  ·exact flatN_one l v h
theorem nk_open {w : World} {B : Nat} {ok : Nat → Prop} {x : Note} {cs : List Value} (h : nk.M w B ok x cs) : cs = noteC x := by
 obtain ⟨_, _, rfl, rfl, ⟨_, _, rfl, rfl, ⟨_, _, rfl, rfl, rfl⟩⟩⟩ := h
 exact rfl
theorem reps_flatN {Q : Note → List Value → Prop} (hQ : ∀ x cs, Q x cs → cs = noteC x) : ∀ (ys : List Note) (cs : List Value), Reps Q 4 ys cs → cs = flatN ys
 | [], cs, h => List.eq_nil_of_length_eq_zero (by rw [h.1]; rfl)
 | y :: ys, cs, h => by
  have h0 := hQ _ _ (h.2 0 y rfl)
  rw [Nat.zero_mul, List.drop_zero] at h0
  have hd : cs.drop 4 = flatN ys := by
   refine reps_flatN hQ ys (cs.drop 4) ⟨by rw [List.length_drop, h.1, List.length_cons]; omega, fun j p hj => ?_⟩
   have := h.2 (j + 1) p hj
   rw [List.drop_drop]
   have e : 4 + j * 4 = (j + 1) * 4 := by omega
   rw [e]
   exact this
  rw [← List.take_append_drop 4 cs, h0, hd]
  rfl
theorem flatN_reps {Q : Note → List Value → Prop} (hQ : ∀ x, Q x (noteC x)) : ∀ (ys : List Note), Reps Q 4 ys (flatN ys)
 | [] => Reps.none _ _
 | y :: ys => by
  refine ⟨by rw [flatN_length], fun j p hj => ?_⟩
  cases j with
  | zero =>
   cases hj
   exact hQ y
  | succ j =>
   have e : (j + 1) * 4 = j * 4 + 1 + 1 + 1 + 1 := by omega
   simp only [flatN, e, List.drop_succ_cons]
   exact (flatN_reps hQ ys).2 j p hj
variable {w w1 : World} {B g n cap : Nat} {v : Value} {ys : List Note} {ok : Nat → Prop}
theorem own_of_R (h : nk.R 44 w B ok v ys) : w.ownsRow B 44 4 v ys.length (flatN ys) := by
 obtain ⟨_, inner, ho, hr⟩ := h
 rw [← reps_flatN (fun x cs h => nk_open h) ys inner hr]
 exact ho
theorem R_of_own (h : w.ownsRow B 44 4 v ys.length (flatN ys)) : nk.R 44 w B (fun _ => True) v ys :=
 ⟨fun _ _ => trivial, flatN ys, h, flatN_reps (fun x => nk_M x) ys⟩
theorem run_copyN {P : Program} (w : World) (dT sT ty elem : TypeId) (g o dLen dCap sz : Nat) (a : Addr) (sLen sCap : Nat) (cur : Array Value) (t : TypeId) (cs : List Value)
  (hu : P.underlying dT = some (.slice elem)) (hs : (P.info? elem).map (·.size) = some sz)
  (hg : w.heap[g]? = some (.cells cur t (0, 0))) (hn : cs.length = Nat.min sLen dLen * sz)
  (hsrc : ∀ j v, cs[j]? = some v → w.cell? (a.add j) = some v) (hfit : o + cs.length ≤ cur.size) (h1 : ∀ v ∈ cs, v.oneCell' = true) :
  (Builtin.copy_ #[dT, sT] ty #[.slice (some ⟨g, o, none⟩) dLen dCap, .slice (some a) sLen sCap]).run P w =
   .ok (goInt ((Nat.min sLen dLen : Nat) : Int)) (w.setRow g (cur.toList.take o ++ cs ++ cur.toList.drop (o + cs.length)).toArray) := by
 have hl := run_loadCells_list (P := P) w a cs hsrc
 have hst := run_storeCells_at P g o t cs 0 cur w hg (by simpa using hfit) h1
 cases hq : P.info? elem with
 | none => simp [hq] at hs
 | some i =>
  have hi : i.size = sz := by simpa [hq] using hs
  simp [Builtin.copy_, run_underlying hu, Builtin.lenOf, Builtin.firstCells, sizeOf, typeInfo, hq, hi, ← hn, hl, hst]
theorem grown_setRow (w : World) (g : Nat) (cs : Array Value) : w.grownBy (w.setRow g cs) (some g) :=
 ⟨rfl, rfl, rfl, by simp [World.setRow], fun k _ hk => setRow_other w g k cs (fun e => hk (by rw [e]))⟩
theorem below_setRow {W : World} {b : Nat} (h : Below b w W) (hg : b ≤ g) (cs : Array Value) : Below b w (W.setRow g cs) :=
 have q := grown_setRow W g cs
 ⟨q.os.trans h.os, q.tape.trans h.tape, q.output.trans h.output, Nat.le_trans h.size q.size, fun k hk => (setRow_other W g k cs (by omega)).trans (h.block k hk)⟩
theorem copy_exec {P : Program} {oi : Oper} {a : Act} {x y : Operand} {t t' : TypeId} {xv yv v : Value} (hop : oi.op = .call { callee := .builtin .copy, args := #[x, y], argTypes := #[t, t'] }) (hx : a.eval x = xv) (hy : a.eval y = yv) (h : (Builtin.copy_ #[t, t'] oi.type #[xv, yv]).run P w = .ok v w1) : (execOp a.eval oi).run P w = .ok (.value v) w1 := by
 unfold execOp
 simp [hop, hx, hy, resolve, invoke, Go.builtin, h]
theorem app_exec {P : Program} {oi : Oper} {a : Act} {x y : Operand} {t t' : TypeId} {xv yv v : Value} (hop : oi.op = .call { callee := .builtin .append, args := #[x, y], argTypes := #[t, t'] }) (hx : a.eval x = xv) (hy : a.eval y = yv) (h : (Builtin.append_ #[t, t'] oi.type #[xv, yv]).run P w = .ok v w1) : (execOp a.eval oi).run P w = .ok (.value v) w1 := by
 unfold execOp
 simp [hop, hx, hy, resolve, invoke, Go.builtin, h]
theorem wp_value {P : Program} {oi : Oper} {a : Act} {ops : Array Oper} {rest : List Oper} {Q : Exit → Act → World → Prop} {v : Value} (N : Option Tmp) (hN : oi.dst = N) (hg : oi.guard = none) (hrun : (execOp a.eval oi).run P w = .ok (.value v) w1)
  (h : wpList P ops Q rest (a.put N v) w1) : wpList P ops Q (oi :: rest) a w := by
 subst hN
 refine wpList_plain hg fun K hK => ?_
 unfold Oper.wp
 rw [hrun]
 exact hK _ _ h
theorem infoN : ∃ i, Tryz.prog.info? 44 = some i ∧ i.zero = some (.agg #[.int .i64 0, .int .i64 0, .int .i64 0, .int .i64 0]) ∧ i.size = 4 ∧ i.bytes = 32 := by
 have h := info_note
 cases hq : Tryz.prog.info? 44 with
 | none => rw [hq] at h; cases h
 | some i =>
  rw [hq] at h
  simp only [Option.map_some, Option.some.injEq, Prod.mk.injEq] at h
  exact ⟨i, rfl, h.1, h.2.1, h.2.2⟩
theorem sizeN : (Tryz.prog.info? 44).map (·.size) = some 4 := by kernel_rfl
theorem insert_none (hR : nk.R 44 w B ok v []) (hB : B ≤ w.heap.size) (x : Note) : Calls Tryz.prog 87 #[v, .int .i64 0, .slice (some ⟨w.heap.size, 0, none⟩) 1 1] (w.alloc (.cells #[.int .i64 x.task, .int .i64 x.what, .int .i64 x.op, .int .i64 x.arg] 44)) fun e w' => ∃ v', e = .returned v' ∧ nk.R 44 w' B (fun _ => True) v' [x] ∧ w.grownBy w' v.ownBlock ∧ Below B w w' := by
 obtain ⟨A, c, rfl⟩ := Kd.R_slice hR
 replace hR := Lib.hid (Kd.R_mono hR (fun _ _ => trivial : ∀ k, ok k → (fun _ => True : Nat → Prop) k))
 have hBw := Lib.hid (Below.refl B w)
 go_enter Tryz.func87, Tryz.ntmps87
 go_wp2_with ((with_reducible refine gate_builtin (b := .append) (xs := #[.tmp 23, .tmp 24]) rfl ?_); at_builtin; refine Kd.R_append nk (w0 := w) (W := w) B rfl (.tmp 23) (.tmp 24) 39 44 (.agg #[.int .i64 0, .int .i64 0, .int .i64 0, .int .i64 0]) 32 rfl Tryz.underlying39 info_note rfl (by decide) (by decide) (.slice A 0 c) [] x [.int .i64 x.task, .int .i64 x.what, .int .i64 x.op, .int .i64 x.arg] (fun _ => True) (fun _ => False) rfl rfl (nk_M x) (fun _ hk => hk.elim) (fun q hq => trivial) hR.out hBw.out hB (by decide) ?_; intro v7 w7 hR7 hB7 hg7 _; obtain ⟨A7, c7, rfl⟩ := Kd.R_slice hR7; replace hR7 := Lib.hid hR7; replace hB7 := Lib.hid hB7; replace hg7 := Lib.hid hg7)
 go_ret
 exact ⟨_, rfl, hR7.out, hg7.out, hB7.out⟩
theorem wrap_succ (n : Nat) (h : n ≤ 1500) : wrap64 ((n : Int) + 1) = (n : Int) + 1 := by unfold wrap64; omega
theorem wrap_one : wrap64 1 = 1 := by unfold wrap64; omega
theorem two_runs (R c l : List Value) (hc : c.length = 4) (hR : 4 + l.length ≤ R.length) :
  ((R.take 0 ++ c ++ R.drop (0 + c.length)).take 4 ++ l ++ (R.take 0 ++ c ++ R.drop (0 + c.length)).drop (4 + l.length)).length = R.length ∧
  ((R.take 0 ++ c ++ R.drop (0 + c.length)).take 4 ++ l ++ (R.take 0 ++ c ++ R.drop (0 + c.length)).drop (4 + l.length)).take (4 + l.length) = c ++ l := by
 simp only [List.take_zero, List.nil_append, Nat.zero_add]
 have h1 : (c ++ R.drop c.length).take 4 = c := by rw [← hc, List.take_left]
 rw [h1]
 constructor
 ·simp; omega
 ·rw [show 4 + l.length = (c ++ l).length from by simp [hc], List.take_left]
theorem two_runs' (R c l : List Value) (hc : c.length = 4) (hR : 4 + l.length ≤ R.length) :
  ((R.take 4 ++ l ++ R.drop (4 + l.length)).take 0 ++ c ++ (R.take 4 ++ l ++ R.drop (4 + l.length)).drop (0 + c.length)).length = R.length ∧
  ((R.take 4 ++ l ++ R.drop (4 + l.length)).take 0 ++ c ++ (R.take 4 ++ l ++ R.drop (4 + l.length)).drop (0 + c.length)).take (4 + l.length) = c ++ l := by
 simp only [List.take_zero, List.nil_append, Nat.zero_add]
 have h1 : (R.take 4 ++ l ++ R.drop (4 + l.length)).drop c.length = l ++ R.drop (4 + l.length) := by
  rw [List.append_assoc, hc]
  have : (R.take 4).length = 4 := by rw [List.length_take]; omega
  rw [List.drop_append_of_le_length (by omega), List.drop_eq_nil_of_le (by omega), List.nil_append]
 rw [h1]
 constructor
 ·simp; omega
 ·rw [← List.append_assoc, show 4 + l.length = (c ++ l).length from by simp [hc], List.take_left]
theorem getElem_cell {a : Array Value} {T : TypeId} {k : Nat} {cs : List Value} (h : w.heap[k]? = some (.cells a T (0, 0))) (hp : ∀ (j : Nat) (v : Value), cs[j]? = some v → a[j]? = some v) : ∀ (j : Nat) (v : Value), cs[j]? = some v → w.cell? ((⟨k, 0, none⟩ : Addr).add j) = some v := by
 intro j v hv
 have := hp j v hv
 rw [show (⟨k, 0, none⟩ : Addr).add j = ⟨k, j, none⟩ from by simp [Addr.add]; exact fun h => h.symm]
 exact cell_of_heap h this
theorem cells_of_take {a : Array Value} {m : Nat} {cs : List Value} (h : a.toList.take m = cs) : ∀ (j : Nat) (v : Value), cs[j]? = some v → a[j]? = some v := by
 intro j v hv
 rw [← h, List.getElem?_take] at hv
 split at hv
 ·rw [← Array.getElem?_toList]; exact hv
 ·cases hv
theorem grow_facts (hn : n = ys.length) (h1 : 1 ≤ n) (h2 : n ≤ 1500) (hcap : cap < n + 1) {cur : Array Value} (hb : B ≤ g) (hh : w.heap[g]? = some (.cells cur 44 (0, 0))) (ht : cur.toList.take (n * 4) = flatN ys) (hle : n ≤ cap) (x : Note) : ∃ (G g2 : Nat) (W1 W2 W3 : World), n + 1 ≤ G ∧
  (∀ ty, (Builtin.append_ #[39, 3] ty #[.slice (some ⟨g, 0, none⟩) 0 cap, .int .i64 ((n : Int) + 1)]).run Tryz.prog (w.alloc (.cells #[.int .i64 x.task, .int .i64 x.what, .int .i64 x.op, .int .i64 x.arg] 44)) = .ok (.slice (some ⟨g2, 0, none⟩) (n + 1) G) W1) ∧
  (∀ ty, (Builtin.copy_ #[39, 39] ty #[.slice (some ⟨g2, 0, none⟩) (n + 1) G, .slice (some ⟨w.heap.size, 0, none⟩) 1 1]).run Tryz.prog W1 = .ok (goInt 1) W2) ∧
  (∀ ty dc sc, (Builtin.copy_ #[39, 39] ty #[.slice (some ⟨g2, 4, none⟩) n dc, .slice (some ⟨g, 0, none⟩) n sc]).run Tryz.prog W2.drew = .ok (goInt ((n : Nat) : Int)) W3) ∧
  nk.R 44 W3 B (fun _ => True) (.slice (some ⟨g2, 0, none⟩) (n + 1) G) (x :: ys) ∧ Below w.heap.size w W3 := by
 have hgl : g < w.heap.size := blk_lt hh
 obtain ⟨vb, hvb⟩ : ∃ vb, vb = w.heap.size := ⟨_, rfl⟩
 obtain ⟨W0, hW0⟩ : ∃ W0, W0 = w.alloc (.cells #[.int .i64 x.task, .int .i64 x.what, .int .i64 x.op, .int .i64 x.arg] 44) := ⟨_, rfl⟩
 have hx0 : W0.heap[vb]? = some (.cells #[.int .i64 x.task, .int .i64 x.what, .int .i64 x.op, .int .i64 x.arg] 44 (0, 0)) := by rw [hW0, hvb]; exact heap_alloc_new _ _
 have hg0 : W0.heap[g]? = some (.cells cur 44 (0, 0)) := by rw [hW0]; exact blk_alloc hh _
 have hB0 : Below w.heap.size w W0 := by rw [hW0]; exact below_alloc (Below.refl _ _) _
 have hs0 : W0.heap.size = w.heap.size + 1 := by rw [hW0]; simp
 obtain ⟨i0, hi0, hz0, hzs, hzb⟩ := infoN
 obtain ⟨G, hG⟩ : ∃ G, G = grownCap W0 (n + 1) cap 44 := ⟨_, rfl⟩
 have hGe : n + 1 ≤ G := by rw [hG]; exact grownCap_ge _ _ _ _
 have hGm : G ≤ maxLen := by rw [hG]; exact grownCap_le_maxLen _ _ _ _ (by unfold maxLen; omega)
 obtain ⟨ROW, hROW⟩ : ∃ ROW : Array Value, ROW = ([] : List Value).toArray ++ Builtin.zeroCells (Value.agg #[.int .i64 0, .int .i64 0, .int .i64 0, .int .i64 0]).cells (n + 1) ++ Builtin.zeroCells (Value.agg #[.int .i64 0, .int .i64 0, .int .i64 0, .int .i64 0]).cells (G - (n + 1)) := ⟨_, rfl⟩
 have hRs : ROW.size = G * 4 := by
  rw [hROW]
  simp [Builtin.zeroCells, Value.cells]
  omega
 obtain ⟨g2, hg2⟩ : ∃ g2, g2 = W0.heap.size := ⟨_, rfl⟩
 obtain ⟨W1, hW1⟩ : ∃ W1, W1 = W0.drew.alloc (.cells ROW 44) := ⟨_, rfl⟩
 have hap : ∀ ty, (Builtin.append_ #[39, 3] ty #[.slice (some ⟨g, 0, none⟩) 0 cap, .int .i64 ((n : Int) + 1)]).run Tryz.prog W0 = .ok (.slice (some ⟨g2, 0, none⟩) (n + 1) G) W1 := fun ty => by
  have hf : (Builtin.firstCells i0.size 0 (.slice (some ⟨g, 0, none⟩) 0 cap)).run Tryz.prog W0.drew = .ok ([] : List Value).toArray W0.drew := run_firstCells_some (w := W0.drew) i0.size 0 ⟨g, 0, none⟩ 0 cap [] (by simp) (fun j v hj => by simp at hj)
  have h := Lib.run_append_grow_zeros W0 39 3 ty 44 i0 _ .i64 .i64 Tryz.underlying39 Tryz.underlying3 hi0 hz0 (some ⟨g, 0, none⟩) 0 cap [] hf (n + 1) (by omega) (by omega) (by omega) (by omega) (by rw [hzb]; omega) (by rw [hzb]; exact growslice_fits (by omega) (by omega))
  rw [Nat.zero_add, ← hG, ← hROW, ← hW1, ← hg2] at h
  exact h
 have hr1 : W1.heap[g2]? = some (.cells ROW 44 (0, 0)) := by rw [hW1, hg2]; exact heap_alloc_new W0.drew _
 have hx1 : W1.heap[vb]? = some (.cells #[.int .i64 x.task, .int .i64 x.what, .int .i64 x.op, .int .i64 x.arg] 44 (0, 0)) := by rw [hW1]; exact blk_alloc (w := W0.drew) hx0 _
 have hg1 : W1.heap[g]? = some (.cells cur 44 (0, 0)) := by rw [hW1]; exact blk_alloc (w := W0.drew) hg0 _
 have hB1 : Below w.heap.size w W1 := by
  have q := below_alloc (Below.refl _ W0.drew) (.cells ROW 44)
  rw [hW1]
  exact ⟨q.os.trans hB0.os, q.tape.trans hB0.tape, q.output.trans hB0.output, Nat.le_trans hB0.size q.size, fun k hk => (q.block k (by show k < W0.heap.size; omega)).trans (hB0.block k hk)⟩
 obtain ⟨W2, hW2⟩ : ∃ W2, W2 = W1.setRow g2 (ROW.toList.take 0 ++ noteC x ++ ROW.toList.drop (0 + (noteC x).length)).toArray := ⟨_, rfl⟩
 have hc1 : ∀ ty, (Builtin.copy_ #[39, 39] ty #[.slice (some ⟨g2, 0, none⟩) (n + 1) G, .slice (some ⟨vb, 0, none⟩) 1 1]).run Tryz.prog W1 = .ok (goInt 1) W2 := fun ty => by
  have h := run_copyN (P := Tryz.prog) W1 39 39 ty 44 g2 0 (n + 1) G 4 ⟨vb, 0, none⟩ 1 1 ROW 44 (noteC x) Tryz.underlying39 sizeN hr1 (by simp [Nat.min_def]) (getElem_cell hx1 (fun j v hj => by simpa using hj)) (by rw [hRs]; simp; omega) (by simp [noteC, Value.oneCell'])
  rw [← hW2, show Nat.min 1 (n + 1) = 1 from by simp [Nat.min_def]] at h
  exact h
 have hr2 : W2.heap[g2]? = some (.cells (ROW.toList.take 0 ++ noteC x ++ ROW.toList.drop (0 + (noteC x).length)).toArray 44 (0, 0)) := by rw [hW2]; exact setRow_heap W1 g2 ROW _ _ _ hr1
 have hg2' : W2.heap[g]? = some (.cells cur 44 (0, 0)) := by rw [hW2, setRow_other W1 g2 g _ (by omega)]; exact hg1
 obtain ⟨W3, hW3⟩ : ∃ W3, W3 = W2.drew.setRow g2 ((ROW.toList.take 0 ++ noteC x ++ ROW.toList.drop (0 + (noteC x).length)).take 4 ++ flatN ys ++ (ROW.toList.take 0 ++ noteC x ++ ROW.toList.drop (0 + (noteC x).length)).drop (4 + (flatN ys).length)).toArray := ⟨_, rfl⟩
 have hc2 : ∀ ty dc sc, (Builtin.copy_ #[39, 39] ty #[.slice (some ⟨g2, 4, none⟩) n dc, .slice (some ⟨g, 0, none⟩) n sc]).run Tryz.prog W2.drew = .ok (goInt ((n : Nat) : Int)) W3 := fun ty dc sc => by
  have h := run_copyN (P := Tryz.prog) W2.drew 39 39 ty 44 g2 4 n dc 4 ⟨g, 0, none⟩ n sc _ 44 (flatN ys) Tryz.underlying39 sizeN (blk_drew hr2) (by rw [flatN_length, ← hn]; simp) (getElem_cell (blk_drew hg2') (cells_of_take ht)) (by rw [flatN_length, ← hn]; simp [hRs]; omega) (flatN_one ys)
  rw [show Nat.min n n = n from by simp] at h
  simp only [List.toList_toArray] at h
  rw [← hW3] at h
  exact h
 have hr3 : W3.heap[g2]? = some (.cells ((ROW.toList.take 0 ++ noteC x ++ ROW.toList.drop (0 + (noteC x).length)).take 4 ++ flatN ys ++ (ROW.toList.take 0 ++ noteC x ++ ROW.toList.drop (0 + (noteC x).length)).drop (4 + (flatN ys).length)).toArray 44 (0, 0)) := by rw [hW3]; exact setRow_heap W2.drew g2 _ _ _ _ (blk_drew hr2)
 obtain ⟨hl1, hl2⟩ := two_runs ROW.toList (noteC x) (flatN ys) rfl (by rw [flatN_length, ← hn, Array.length_toList, hRs]; omega)
 have hR : nk.R 44 W3 B (fun _ => True) (.slice (some ⟨g2, 0, none⟩) (n + 1) G) (x :: ys) := by
  refine R_of_own ⟨by rw [flatN_length], .inr ⟨g2, G, _, by rw [List.length_cons, ← hn], by omega, hr3, by rw [List.length_cons, ← hn]; exact hGe, hGm, ?_, ?_⟩⟩
  ·rw [List.size_toArray, hl1, Array.length_toList, hRs]
  ·rw [List.toList_toArray, List.length_cons, show (ys.length + 1) * 4 = 4 + (flatN ys).length from by rw [flatN_length]; omega, hl2]
   rfl
 have hB3 : Below w.heap.size w W3 := by
  rw [hW3]
  refine below_setRow ?_ (by omega) _
  have q : Below w.heap.size w W2 := by rw [hW2]; exact below_setRow hB1 (by omega) _
  exact ⟨q.os, q.tape, q.output, q.size, q.block⟩
 refine ⟨G, g2, W1, W2, W3, hGe, ?_, ?_, hc2, hR, hB3⟩
 ·rw [← hW0]; exact hap
 ·rw [← hvb]; exact hc1
theorem insert_grow (hn : n = ys.length) (h1 : 1 ≤ n) (h2 : n ≤ 1500) (hcap : cap < n + 1) {cur : Array Value} (hb : B ≤ g) (hh : w.heap[g]? = some (.cells cur 44 (0, 0))) (ht : cur.toList.take (n * 4) = flatN ys) (hle : n ≤ cap) (x : Note) :
  Calls Tryz.prog 87 #[.slice (some ⟨g, 0, none⟩) n cap, .int .i64 0, .slice (some ⟨w.heap.size, 0, none⟩) 1 1] (w.alloc (.cells #[.int .i64 x.task, .int .i64 x.what, .int .i64 x.op, .int .i64 x.arg] 44)) fun e w' => ∃ v', e = .returned v' ∧ nk.R 44 w' B (fun _ => True) v' (x :: ys) ∧ Below w.heap.size w w' := by
 obtain ⟨G, g2, W1, W2, W3, hGe, hap, hc1, hc2, hR, hB3⟩ := grow_facts hn h1 h2 hcap hb hh ht hle x
 clear hn hb hh ht
 replace hap := Lib.hid hap
 replace hc1 := Lib.hid hc1
 replace hc2 := Lib.hid hc2
 replace hR := Lib.hid hR
 replace hB3 := Lib.hid hB3
 have hwr : wrap64 ((n : Int) + 1) = (n : Int) + 1 := wrap_succ n h2
 have hnz : ((0 : Int) == (n : Int)) = false := beq_eq_false_iff_ne.mpr (by omega)
 have hgt : decide ((n : Int) + 1 > (cap : Int)) = true := decide_eq_true (by omega)
 have hci : (n : Int) ≤ (cap : Int) := by omega
 have hGi : (n : Int) + 1 ≤ (G : Int) := by omega
 have hw1 : wrap64 1 = 1 := wrap_one
 have hG1 : ¬ (G = 1) := by omega
 have h01 : (0 : Int) ≤ (n : Int) + 1 := by omega
 have h11 : (1 : Int) ≤ (n : Int) + 1 := by omega
 go_enter Tryz.func87, Tryz.ntmps87
 go_upto_region 11 with (first
  | ((with_reducible refine gate_builtin (b := .append) (xs := #[.tmp 34, .tmp 39]) rfl ?_); refine wp_value (some 40) rfl rfl (app_exec rfl rfl rfl (hap.out _)) ?_)
  | ((with_reducible refine gate_builtin (b := .copy) (xs := #[.tmp 43, .tmp 44]) rfl ?_); refine wp_value (some 45) rfl rfl (copy_exec rfl rfl rfl (hc1.out _)) ?_))
 refine start_ (n := 9) (S := fun w' => True) (ds := []) #[false, false, false, false, false, false, false, false, false] (by kernel_rfl) rfl rfl trivial (fun hHeld => ?_)
 refine pu_ 0 46 (mk 9 1) rfl rfl ?_
 refine pu_ 1 47 (mk 9 3) rfl rfl ?_
 refine pu_ 2 48 (mk 9 7) rfl rfl ?_
 refine pu_ 3 49 (mk 9 15) rfl rfl ?_
 refine pu_ 4 50 (mk 9 31) rfl rfl ?_
 refine pu_ 5 51 (mk 9 63) rfl rfl ?_
 refine pu_ 6 52 (mk 9 127) rfl rfl ?_
 refine pu_ 7 53 (mk 9 255) rfl rfl ?_
 refine one_ (i := 8) (N := some 54) (mk 9 511) rfl rfl (by kernel_rfl) (by decide) (fun K hK => ?_)
 refine value_ (by rfl) rfl (copy_exec rfl rfl rfl (hc2.out _ _ _)) ?_
 refine hK.out _ _ trivial (fun hHeld => ?_)
 clear hK K
 refine nm_ ?_
 refine done_ (by kernel_rfl) ?_
 go_wp2
 go_ret
 exact ⟨_, rfl, hR.out, hB3.out⟩
theorem room_facts (hn : n = ys.length) (h1 : 1 ≤ n) (h2 : n ≤ 1500) (hcap : n + 1 ≤ cap) (hcm : cap ≤ maxLen) {cur : Array Value} (hb : B ≤ g) (hh : w.heap[g]? = some (.cells cur 44 (0, 0))) (hcs : cur.size = cap * 4) (ht : cur.toList.take (n * 4) = flatN ys) (x : Note) : ∃ W2 W3 : World,
  (∀ lb cb, (callFunc 143 #[.slice (some ⟨w.heap.size, 0, none⟩) 1 1, .slice (some ⟨g, 4, none⟩) lb cb]).run Tryz.prog (w.alloc (.cells #[.int .i64 x.task, .int .i64 x.what, .int .i64 x.op, .int .i64 x.arg] 44)) = .ok (.value (.bool false)) (w.alloc (.cells #[.int .i64 x.task, .int .i64 x.what, .int .i64 x.op, .int .i64 x.arg] 44))) ∧
  (∀ ty dc sc, (Builtin.copy_ #[39, 39] ty #[.slice (some ⟨g, 4, none⟩) n dc, .slice (some ⟨g, 0, none⟩) (n + 1) sc]).run Tryz.prog (w.alloc (.cells #[.int .i64 x.task, .int .i64 x.what, .int .i64 x.op, .int .i64 x.arg] 44)).drew = .ok (goInt ((n : Nat) : Int)) W2) ∧
  (∀ ty dc, (Builtin.copy_ #[39, 39] ty #[.slice (some ⟨g, 0, none⟩) (n + 1) dc, .slice (some ⟨w.heap.size, 0, none⟩) 1 1]).run Tryz.prog W2 = .ok (goInt 1) W3) ∧
  nk.R 44 W3 B (fun _ => True) (.slice (some ⟨g, 0, none⟩) (n + 1) cap) (x :: ys) ∧ w.grownBy W3 (some g) ∧ Below B w W3 := by
 have hgl : g < w.heap.size := blk_lt hh
 obtain ⟨vb, hvb⟩ : ∃ vb, vb = w.heap.size := ⟨_, rfl⟩
 obtain ⟨W0, hW0⟩ : ∃ W0, W0 = w.alloc (.cells #[.int .i64 x.task, .int .i64 x.what, .int .i64 x.op, .int .i64 x.arg] 44) := ⟨_, rfl⟩
 have hx0 : W0.heap[vb]? = some (.cells #[.int .i64 x.task, .int .i64 x.what, .int .i64 x.op, .int .i64 x.arg] 44 (0, 0)) := by rw [hW0, hvb]; exact heap_alloc_new _ _
 have hg0 : W0.heap[g]? = some (.cells cur 44 (0, 0)) := by rw [hW0]; exact blk_alloc hh _
 have hB0 : Below w.heap.size w W0 := by rw [hW0]; exact below_alloc (Below.refl _ _) _
 obtain ⟨i0, hi0, hz0, hzs, hzb⟩ := infoN
 have hov : ∀ lb cb, (callFunc 143 #[.slice (some ⟨vb, 0, none⟩) 1 1, .slice (some ⟨g, 4, none⟩) lb cb]).run Tryz.prog W0 = .ok (.value (.bool false)) W0 := fun lb cb => by
  rw [run_callFunc_extern Tryz.func143 (by kernel_rfl) (by kernel_rfl) (by kernel_rfl) (e := Extern.SlicesOverlaps.overlaps #[39, 39] #[4]) (by kernel_rfl),
   Lib.run_overlaps_apart W0 39 4 44 Tryz.underlying39 4 (fun w => by simp [Go.sizeOf, typeInfo, hi0, hzs]) ⟨vb, 0, none⟩ ⟨g, 4, none⟩ 1 1 lb cb (by show vb ≠ g; omega) 44 44 4 (cap * 4) (by simp [World.shape?, hx0]) (by simp [World.shape?, hg0, hcs]) (by omega) (blk_frozen hx0 0) (blk_frozen hx0 4)]
  rfl
 obtain ⟨W2, hW2⟩ : ∃ W2, W2 = W0.drew.setRow g (cur.toList.take 4 ++ flatN ys ++ cur.toList.drop (4 + (flatN ys).length)).toArray := ⟨_, rfl⟩
 have hc1 : ∀ ty dc sc, (Builtin.copy_ #[39, 39] ty #[.slice (some ⟨g, 4, none⟩) n dc, .slice (some ⟨g, 0, none⟩) (n + 1) sc]).run Tryz.prog W0.drew = .ok (goInt ((n : Nat) : Int)) W2 := fun ty dc sc => by
  have h := run_copyN (P := Tryz.prog) W0.drew 39 39 ty 44 g 4 n dc 4 ⟨g, 0, none⟩ (n + 1) sc cur 44 (flatN ys) Tryz.underlying39 sizeN (blk_drew hg0) (by rw [flatN_length, ← hn, show Nat.min (n + 1) n = n from Nat.min_eq_right (Nat.le_succ n)]) (getElem_cell (blk_drew hg0) (cells_of_take ht)) (by rw [flatN_length, ← hn, hcs]; omega) (flatN_one ys)
  rw [show Nat.min (n + 1) n = n from Nat.min_eq_right (Nat.le_succ n), ← hW2] at h
  exact h
 have hr2 : W2.heap[g]? = some (.cells (cur.toList.take 4 ++ flatN ys ++ cur.toList.drop (4 + (flatN ys).length)).toArray 44 (0, 0)) := by rw [hW2]; exact setRow_heap W0.drew g cur _ _ _ (blk_drew hg0)
 have hx2 : W2.heap[vb]? = some (.cells #[.int .i64 x.task, .int .i64 x.what, .int .i64 x.op, .int .i64 x.arg] 44 (0, 0)) := by rw [hW2, setRow_other _ g vb _ (by omega)]; exact hx0
 obtain ⟨hl1, hl2⟩ := two_runs' cur.toList (noteC x) (flatN ys) rfl (by rw [flatN_length, ← hn, Array.length_toList, hcs]; omega)
 obtain ⟨R1, hR1⟩ : ∃ R1, R1 = cur.toList.take 4 ++ flatN ys ++ cur.toList.drop (4 + (flatN ys).length) := ⟨_, rfl⟩
 rw [← hR1] at hr2 hl1 hl2
 have hR1l : R1.length = cap * 4 := by rw [hR1]; simp [flatN_length, ← hn, hcs]; omega
 obtain ⟨W3, hW3⟩ : ∃ W3, W3 = W2.setRow g (R1.take 0 ++ noteC x ++ R1.drop (0 + (noteC x).length)).toArray := ⟨_, rfl⟩
 have hc2 : ∀ ty dc, (Builtin.copy_ #[39, 39] ty #[.slice (some ⟨g, 0, none⟩) (n + 1) dc, .slice (some ⟨vb, 0, none⟩) 1 1]).run Tryz.prog W2 = .ok (goInt 1) W3 := fun ty dc => by
  have h := run_copyN (P := Tryz.prog) W2 39 39 ty 44 g 0 (n + 1) dc 4 ⟨vb, 0, none⟩ 1 1 R1.toArray 44 (noteC x) Tryz.underlying39 sizeN hr2 (by rw [show Nat.min 1 (n + 1) = 1 from Nat.min_eq_left (by omega)]; rfl) (getElem_cell hx2 (fun j v hj => by simpa using hj)) (by rw [List.size_toArray, hR1l]; simp; omega) (by simp [noteC, Value.oneCell'])
  rw [show Nat.min 1 (n + 1) = 1 from Nat.min_eq_left (by omega), List.toList_toArray, ← hW3] at h
  exact h
 have hr3 : W3.heap[g]? = some (.cells (R1.take 0 ++ noteC x ++ R1.drop (0 + (noteC x).length)).toArray 44 (0, 0)) := by rw [hW3]; exact setRow_heap W2 g _ _ _ _ hr2
 have hR : nk.R 44 W3 B (fun _ => True) (.slice (some ⟨g, 0, none⟩) (n + 1) cap) (x :: ys) := by
  refine R_of_own ⟨by rw [flatN_length], .inr ⟨g, cap, _, by rw [List.length_cons, ← hn], hb, hr3, by rw [List.length_cons, ← hn]; exact hcap, hcm, ?_, ?_⟩⟩
  ·rw [List.size_toArray, hl1, Array.length_toList, hcs]
  ·rw [List.toList_toArray, List.length_cons, show (ys.length + 1) * 4 = 4 + (flatN ys).length from by rw [flatN_length]; omega, hl2]
   rfl
 clear hl1 hl2 hR1l hr2 hr3 hx2
 have hg : w.grownBy W3 (some g) := by
  have q2 := grown_setRow W0.drew g (cur.toList.take 4 ++ flatN ys ++ cur.toList.drop (4 + (flatN ys).length)).toArray
  rw [← hW2] at q2
  have q3 := grown_setRow W2 g (R1.take 0 ++ noteC x ++ R1.drop (0 + (noteC x).length)).toArray
  rw [← hW3] at q3
  refine ⟨q3.os.trans (q2.os.trans hB0.os), q3.tape.trans (q2.tape.trans hB0.tape), q3.output.trans (q2.output.trans hB0.output), Nat.le_trans hB0.size (Nat.le_trans q2.size q3.size), fun k hk hne => ?_⟩
  have hk0 : k < W0.heap.size := Nat.lt_of_lt_of_le hk hB0.size
  exact (q3.block k (Nat.lt_of_lt_of_le hk0 q2.size) hne).trans ((q2.block k hk0 hne).trans (hB0.block k hk))
 refine ⟨W2, W3, ?_, ?_, ?_, hR, hg, ⟨hg.os, hg.tape, hg.output, hg.size, fun k hk => hg.block k (by omega) (by intro e; injection e with e; omega)⟩⟩
 ·rw [← hvb, ← hW0]; exact hov
 ·rw [← hW0]; exact hc1
 ·rw [← hvb]; exact hc2
set_option maxHeartbeats 4000000 in
theorem insert_room (hn : n = ys.length) (h1 : 1 ≤ n) (h2 : n ≤ 1500) (hcap : n + 1 ≤ cap) (hcm : cap ≤ maxLen) {cur : Array Value} (hb : B ≤ g) (hh : w.heap[g]? = some (.cells cur 44 (0, 0))) (hcs : cur.size = cap * 4) (ht : cur.toList.take (n * 4) = flatN ys) (x : Note) :
  Calls Tryz.prog 87 #[.slice (some ⟨g, 0, none⟩) n cap, .int .i64 0, .slice (some ⟨w.heap.size, 0, none⟩) 1 1] (w.alloc (.cells #[.int .i64 x.task, .int .i64 x.what, .int .i64 x.op, .int .i64 x.arg] 44)) fun e w' => ∃ v', e = .returned v' ∧ nk.R 44 w' B (fun _ => True) v' (x :: ys) ∧ w.grownBy w' (some g) ∧ Below B w w' := by
 obtain ⟨W2, W3, hov, hc1, hc2, hR, hG, hB3⟩ := room_facts hn h1 h2 hcap hcm hb hh hcs ht x
 clear hn hb hh ht hcs hcm
 replace hc1 := Lib.hid hc1
 replace hc2 := Lib.hid hc2
 replace hR := Lib.hid hR
 replace hB3 := Lib.hid hB3
 replace hG := Lib.hid hG
 have hwr : wrap64 ((n : Int) + 1) = (n : Int) + 1 := wrap_succ n h2
 have hnz : ((0 : Int) == (n : Int)) = false := beq_eq_false_iff_ne.mpr (by omega)
 have hgt : decide ((n : Int) + 1 > (cap : Int)) = false := decide_eq_false (by omega)
 have hci : (n : Int) + 1 ≤ (cap : Int) := by omega
 have hw1 : wrap64 1 = 1 := wrap_one
 have hG1 : ¬ (cap = 1) := by omega
 have h01 : (0 : Int) ≤ (n : Int) + 1 := by omega
 have h11 : (1 : Int) ≤ (n : Int) + 1 := by omega
 have htn : ((n : Int) + 1).toNat = n + 1 := by omega
 go_enter Tryz.func87, Tryz.ntmps87
 go_upto_region 15 with (simp only [hov])
 refine start_ (n := 9) (S := fun w' => True) (ds := []) #[false, false, false, false, false, false, false, false, false] (by kernel_rfl) rfl rfl trivial (fun hHeld => ?_)
 refine pu_ 0 69 (mk 9 1) rfl rfl ?_
 refine pu_ 1 70 (mk 9 3) rfl rfl ?_
 refine pu_ 2 71 (mk 9 7) rfl rfl ?_
 refine pu_ 3 72 (mk 9 15) rfl rfl ?_
 refine pu_ 4 73 (mk 9 31) rfl rfl ?_
 refine pu_ 5 74 (mk 9 63) rfl rfl ?_
 refine pu_ 6 75 (mk 9 127) rfl rfl ?_
 refine pu_ 7 76 (mk 9 255) rfl rfl ?_
 refine one_ (i := 8) (N := some 77) (mk 9 511) rfl rfl (by kernel_rfl) (by decide) (fun K hK => ?_)
 refine value_ (by rfl) rfl (copy_exec rfl rfl rfl (hc1.out _ _ _)) ?_
 refine hK.out _ _ trivial (fun hHeld => ?_)
 clear hK K
 refine nm_ ?_
 refine done_ (by kernel_rfl) ?_
 go_wp2_with ((with_reducible refine gate_builtin (b := .copy) (xs := #[.tmp 80, .tmp 81]) rfl ?_); refine wp_value (some 82) rfl rfl (copy_exec rfl rfl rfl (hc2.out _ _)) ?_)
 go_ret
 exact ⟨_, rfl, hR.out, hG.out, hB3.out⟩
theorem insert_walk (hR : nk.R 44 w B ok v ys) (hB : B ≤ w.heap.size) (h2 : ys.length ≤ 1500) (x : Note) : Calls Tryz.prog 87 #[v, .int .i64 0, .slice (some ⟨w.heap.size, 0, none⟩) 1 1] (w.alloc (.cells #[.int .i64 x.task, .int .i64 x.what, .int .i64 x.op, .int .i64 x.arg] 44)) fun e w' => ∃ v', e = .returned v' ∧ nk.R 44 w' B (fun _ => True) v' (x :: ys) ∧ w.grownBy w' v.ownBlock ∧ Below B w w' := by
 rcases Nat.eq_zero_or_pos ys.length with h0 | h0
 ·obtain rfl := List.eq_nil_of_length_eq_zero h0
  exact insert_none hR hB x
 ·obtain ⟨ho1, ho2⟩ := own_of_R hR
  rcases ho2 with ⟨_, hz⟩ | ⟨g, cap, cur, rfl, hb, hh, hnc, hcm, hcs, ht⟩
  ·omega
  ·have hgl : g < w.heap.size := blk_lt hh
   by_cases hr : ys.length + 1 ≤ cap
   ·exact insert_room rfl h0 h2 hr hcm hb hh hcs ht x
   ·refine (insert_grow rfl h0 h2 (by omega) hb hh ht hnc x).mono ?_
    rintro e w' ⟨v', rfl, hR', hB'⟩
    exact ⟨v', rfl, hR', ⟨hB'.os, hB'.tape, hB'.output, hB'.size, fun k hk _ => hB'.block k hk⟩, ⟨hB'.os, hB'.tape, hB'.output, hB'.size, fun k hk => hB'.block k (by omega)⟩⟩
end Go.Proofs.YtkmlefbdhdlfmaaGreat.Wo
