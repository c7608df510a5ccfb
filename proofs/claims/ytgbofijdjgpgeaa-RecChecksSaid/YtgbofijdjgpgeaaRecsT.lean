/- The state of rec.Calls and how its steps turn it. -/
import Derived.Test.YtgbofijdjgpgeaaRecs
namespace Go.Proofs.Ytgbofijdjgpgeaa.Recs
open Go.RowKit Go.Proofs.YtgbofijdjgpgeaaW.PrintWords Go.Proofs.YtgbofijdjgpgeaaW.PrintMore Go.Proofs.Ytgbofijdjgpgeaa.Fam

abbrev ck : Kd (Int × Int × Int × Int × Int × Sl) := Kd.pair (Kd.int .i64) (Kd.pair (Kd.int .i64) (Kd.pair (Kd.int .i64) (Kd.pair (Kd.int .i64) (Kd.pair (Kd.int .i64) (Kd.scalar slv (fun _ => rfl))))))
abbrev tup (c : C × Sl) : Int × Int × Int × Int × Int × Sl := (c.1.task, c.1.op, c.1.frm, c.1.til, c.1.ret, c.2)
abbrev tcs (x : Int × Int × Int × Int × Int × Sl) : List Value := [.int .i64 x.1, .int .i64 x.2.1, .int .i64 x.2.2.1, .int .i64 x.2.2.2.1, .int .i64 x.2.2.2.2.1, slv x.2.2.2.2.2]
abbrev nk : Kd (Int × Int × Int × Int) := Kd.pair (Kd.int .i64) (Kd.pair (Kd.int .i64) (Kd.pair (Kd.int .i64) (Kd.int .i64)))
abbrev E := Int × Sl × List Int
abbrev hdr (e : E) : Int × Value := (e.1, slv e.2.1)
abbrev rowO (e : E) : Value × List Int := (slv e.2.1, e.2.2)
abbrev rowP (c : C × Sl) : Value × List Int := (slv c.2, c.1.pts)

theorem ck_M {w : World} {B : Nat} {ok : Nat → Prop} (x : Int × Int × Int × Int × Int × Sl) : ck.M w B ok x (tcs x) :=
  ⟨_, _, rfl, rfl, _, _, rfl, rfl, _, _, rfl, rfl, _, _, rfl, rfl, _, _, rfl, rfl, rfl⟩
theorem ck_open {w : World} {B : Nat} {ok : Nat → Prop} {x : Int × Int × Int × Int × Int × Sl} {cs : List Value} (h : ck.M w B ok x cs) : cs = tcs x := by
  obtain ⟨_, _, rfl, rfl, _, _, rfl, rfl, _, _, rfl, rfl, _, _, rfl, rfl, _, _, rfl, rfl, rfl⟩ := h
  exact rfl
theorem nk_open {w : World} {x : Int × Int × Int × Int} {cs : List Value} (h : nk.K w x cs) : cs = [.int .i64 x.1, .int .i64 x.2.1, .int .i64 x.2.2.1, .int .i64 x.2.2.2] := by
  obtain ⟨_, _, rfl, rfl, _, _, rfl, rfl, _, _, rfl, rfl, rfl⟩ := h
  exact rfl

theorem ck_types : ∀ q, q ∈ 35 :: ck.E → q ≠ 3 := by
  intro q hq
  have : ck.E = [] := rfl
  rw [this] at hq
  cases List.mem_singleton.1 hq
  decide

structure St (w0 : World) (B mb : Nat) (os : List E) (cs : List (C × Sl)) (vo : Value) (w : World) : Prop where
  map : IMap.Is w mb (os.map hdr)
  row : Kd.R ck 35 w B T vo (cs.map tup)
  fam : Fam w B (os.map rowO ++ cs.map rowP)
  low : B ≤ mb
  below : Below B w0 w

/-- Blocks of types other than these stand. -/
def Keep (w w1 : World) : Prop := ∀ (k : Nat) (cells : Array Value) (t : TypeId), w.heap[k]? = some (.cells cells t (0, 0)) → t ≠ 3 → t ≠ 35 → w1.heap[k]? = w.heap[k]?
theorem Keep.trans {w w1 w2 : World} (h : Keep w w1) (k : Keep w1 w2) : Keep w w2 := fun b c t hb h1 h2 => by
  have := h b c t hb h1 h2
  exact (k b c t (this.trans hb) h1 h2).trans this
theorem Keep.of_grown_int {w w1 : World} {B : Nat} {v : Value} {xs : List Int} (h : Kd.R ik 3 w B T v xs) (hg : w.grownBy w1 v.ownBlock) : Keep w w1 := fun b c t hb h1 _ => hg.block b (Array.getElem?_eq_some_iff.1 hb).1 fun e => by
  obtain ⟨c', hc⟩ := Kd.R_typed h b e.symm
  rw [hb] at hc
  cases hc
  exact h1 rfl
theorem Keep.of_grown_call {w w1 : World} {B : Nat} {v : Value} {xs : List (Int × Int × Int × Int × Int × Sl)} (h : Kd.R ck 35 w B T v xs) (hg : w.grownBy w1 v.ownBlock) : Keep w w1 := fun b c t hb _ h1 => hg.block b (Array.getElem?_eq_some_iff.1 hb).1 fun e => by
  obtain ⟨c', hc⟩ := Kd.R_typed h b e.symm
  rw [hb] at hc
  cases hc
  exact h1 rfl
theorem Keep.of_turned {w w1 : World} {r : Nat} {m : IMap.M} (hm : IMap.Is w r m) (h : IMap.Turned w w1 r) : Keep w w1 := fun b c t hb _ _ => h.other b fun e => by
  subst e
  exact (hm.not_cells hb) rfl
theorem Keep.of_below {w w1 : World} (h : Below w.heap.size w w1) : Keep w w1 := fun b _ _ hb _ _ => h.block b (Array.getElem?_eq_some_iff.1 hb).1

variable {w0 w w1 w2 : World} {B mb : Nat} {os : List E} {cs : List (C × Sl)} {vo : Value}
theorem St.grown (h : St w0 B mb os cs vo w) (hB : B ≤ w.heap.size) (hb : Below w.heap.size w w1) : St w0 B mb os cs vo w1 :=
  ⟨h.map.below hb h.map.lt, Kd.R_below h.row hb, h.fam.below hb, h.low, below_then h.below hB hb⟩
theorem St.size (h : St w0 B mb os cs vo w) : B ≤ w.heap.size := Nat.le_trans h.low (Nat.le_of_lt h.map.lt)

theorem is_grown_int {v : Value} {xs : List Int} {m : IMap.M} (hm : IMap.Is w mb m) (h : Kd.R ik 3 w B T v xs) (hg : w.grownBy w1 v.ownBlock) : IMap.Is w1 mb m :=
  hm.of_block (hg.block mb hm.lt fun e => by
    obtain ⟨c', hc⟩ := Kd.R_typed h mb e.symm
    exact hm.not_cells hc rfl)
theorem is_grown_call {v : Value} {xs : List (Int × Int × Int × Int × Int × Sl)} {m : IMap.M} (hm : IMap.Is w mb m) (h : Kd.R ck 35 w B T v xs) (hg : w.grownBy w1 v.ownBlock) : IMap.Is w1 mb m :=
  hm.of_block (hg.block mb hm.lt fun e => by
    obtain ⟨c', hc⟩ := Kd.R_typed h mb e.symm
    exact hm.not_cells hc rfl)
theorem row_grown_int {v vo : Value} {xs : List Int} {ys : List (Int × Int × Int × Int × Int × Sl)} (hr : Kd.R ck 35 w B T vo ys) (h : Kd.R ik 3 w B T v xs) (hg : w.grownBy w1 v.ownBlock) : Kd.R ck 35 w1 B T vo ys :=
  Kd.R_over' hr (Kd.R_typed h) ck_types hg
theorem fam_grown_call {v : Value} {xs : List (Int × Int × Int × Int × Int × Sl)} {L : List (Value × List Int)} (hf : Fam w B L) (h : Kd.R ck 35 w B T v xs) (hg : w.grownBy w1 v.ownBlock) : Fam w1 B L :=
  hf.stay fun k cells hc => hg.block k (Array.getElem?_eq_some_iff.1 hc).1 fun e => by
    obtain ⟨c', hc'⟩ := Kd.R_typed h k e.symm
    rw [hc] at hc'
    cases hc'
theorem fam_turned {m : IMap.M} {r : Nat} {L : List (Value × List Int)} (hf : Fam w B L) (hm : IMap.Is w r m) (h : IMap.Turned w w1 r) : Fam w1 B L :=
  hf.stay fun k cells hc => h.other k fun e => by
    subst e
    exact (hm.not_cells hc) rfl
theorem row_turned {m : IMap.M} {r : Nat} {vo : Value} {ys : List (Int × Int × Int × Int × Int × Sl)} (hr : Kd.R ck 35 w B T vo ys) (hm : IMap.Is w r m) (h : IMap.Turned w w1 r) : Kd.R ck 35 w1 B T vo ys :=
  Kd.R_mono (Kd.R_move (Kd.R_bound hr) (fun k hk => by
    obtain ⟨_, _, _, q, _, cells, hc⟩ := hk
    exact h.other k fun e => by subst e; exact (hm.not_cells hc) rfl)) (fun _ _ => trivial)

/-- What the map holds of a task. -/
abbrev ofTask (os : List E) (t : Int) : Sl × List Int := (gget os t).getD (nilS, [])
theorem getv (os : List E) (t : Int) : (IMap.get (os.map hdr) t).getD (.slice none 0 0) = slv (ofTask os t).1 := by
  rw [get_eq]
  have := gget_map (fun p : Sl × List Int => slv p.1) t os
  have e : (os.map fun e => (e.1, (fun p : Sl × List Int => slv p.1) e.2)) = os.map hdr := rfl
  rw [e] at this
  rw [this]
  unfold ofTask
  cases gget os t <;> rfl
theorem St.taskR (h : St w0 B mb os cs vo w) (t : Int) : Kd.R ik 3 w B T (slv (ofTask os t).1) (ofTask os t).2 := by
  unfold ofTask
  cases hg : gget os t with
  | none => exact Kd.R_nil ..
  | some p =>
    obtain ⟨m', hp, _⟩ := gget_perm t p os hg
    exact h.fam.1 (slv p.1, p.2) (List.mem_append_left _ (List.mem_map.2 ⟨(t, p), hp.mem_iff.2 (List.mem_cons_self ..), rfl⟩))

theorem Fam.cons {w : World} {B : Nat} {v : Value} {xs : List Int} {L : List (Value × List Int)} (h : Fam w B L) (hr : Kd.R ik 3 w B T v xs) (hat : ∃ b, v.ownBlock = some b ∧ ∀ p ∈ L, some b ≠ p.1.ownBlock) : Fam w B ((v, xs) :: L) := by
  obtain ⟨b, hb, hne⟩ := hat
  refine ⟨fun p hp => ?_, List.pairwise_cons.2 ⟨fun q hq => .inr ?_, h.2⟩⟩
  · rcases List.mem_cons.1 hp with rfl | hp
    · exact hr
    · exact h.1 p hp
  · show v.ownBlock ≠ _
    rw [hb]
    exact hne q hq

/-- The rows, when a task's row grows. -/
theorem fam_put {t : Int} {s1 : Sl} {xs1 : List Int} (hf : Fam w B (os.map rowO ++ cs.map rowP)) (hr : Kd.R ik 3 w1 B T (slv s1) xs1) (hg : w.grownBy w1 (slv (ofTask os t).1).ownBlock)
    (hat : (slv s1).ownBlock = (slv (ofTask os t).1).ownBlock ∨ ∃ b, (slv s1).ownBlock = some b ∧ w.heap.size ≤ b) : Fam w1 B ((gput os t (s1, xs1)).map rowO ++ cs.map rowP) := by
  revert hg hat
  unfold ofTask
  cases hget : gget os t with
  | none =>
    intro hg hat
    rw [gput_none _ _ _ hget]
    have h1 : Fam w B ((.slice none 0 0, []) :: (os.map rowO ++ cs.map rowP)) := hf.cons_nil
    have h2 := h1.grow hg hr hat
    refine h2.perm ?_
    rw [List.map_append, List.append_assoc]
    exact (List.perm_middle (l₁ := os.map rowO) (l₂ := cs.map rowP) (a := (slv s1, xs1))).symm
  | some p =>
    intro hg hat
    obtain ⟨m', hp, hput, _⟩ := gget_perm t p os hget
    have h1 : Fam w B (rowO (t, p) :: (m'.map rowO ++ cs.map rowP)) := hf.perm ((hp.map rowO).append_right _)
    have h2 := h1.grow hg hr hat
    exact h2.perm (((hput (s1, xs1)).map rowO).append_right _).symm

theorem own_low {v : Value} {xs : List Int} (h : Kd.R ik 3 w B T v xs) : ∀ k, v.ownBlock = some k → B ≤ k := Kd.R_base h

/-- A call is noted: the task's row grows, and is put back. -/
theorem St.put (h : St w0 B mb os cs vo w) (t : Int) {s1 : Sl} {xs1 : List Int} (hr : Kd.R ik 3 w1 B T (slv s1) xs1) (hg : w.grownBy w1 (slv (ofTask os t).1).ownBlock)
    (hat : (slv s1).ownBlock = (slv (ofTask os t).1).ownBlock ∨ ∃ b, (slv s1).ownBlock = some b ∧ w.heap.size ≤ b) (hB : Below B w0 w1)
    (hm : IMap.Is w2 mb (IMap.put (os.map hdr) t (slv s1))) (hu : IMap.Turned w1 w2 mb) : St w0 B mb (gput os t (s1, xs1)) cs vo w2 ∧ Keep w w2 := by
  have hv := h.taskR t
  have hm1 := is_grown_int h.map hv hg
  refine ⟨⟨?_, row_turned (row_grown_int h.row hv hg) hm1 hu, fam_turned (fam_put h.fam hr hg hat) hm1 hu, h.low, hu.below h.low hB⟩, (Keep.of_grown_int hv hg).trans (Keep.of_turned hm1 hu)⟩
  rw [put_eq] at hm
  have := gput_map (fun p : Sl × List Int => slv p.1) t (s1, xs1) os
  have e : (os.map fun e => (e.1, (fun p : Sl × List Int => slv p.1) e.2)) = os.map hdr := rfl
  rw [e] at this
  rw [this] at hm
  exact hm

/-- A new call. -/
theorem St.push (h : St w0 B mb os cs vo w) (c : C) (hc : c.pts = []) {v1 : Value} (hr : Kd.R ck 35 w1 B T v1 (cs.map tup ++ [tup (c, nilS)])) (hg : w.grownBy w1 vo.ownBlock) (hB : Below B w0 w1) :
    St w0 B mb os (cs ++ [(c, nilS)]) v1 w1 ∧ Keep w w1 := by
  refine ⟨⟨is_grown_call h.map h.row hg, by simpa using hr, ?_, h.low, hB⟩, Keep.of_grown_call h.row hg⟩
  have hf := fam_grown_call h.fam h.row hg
  refine (hf.cons_nil).perm ?_
  rw [List.map_append, ← List.append_assoc]
  have e : [(c, nilS)].map rowP = [(Value.slice none 0 0, [])] := by simp [rowP, hc]
  rw [e]
  exact (List.perm_append_singleton (Value.slice none 0 0, []) (os.map rowO ++ cs.map rowP)).symm

/-- The return of a task. -/
theorem St.del (h : St w0 B mb os cs vo w) (t : Int) (hm : IMap.Is w1 mb (IMap.del (os.map hdr) t)) (hu : IMap.Turned w w1 mb) : St w0 B mb (gdel os t) cs vo w1 ∧ Keep w w1 := by
  refine ⟨⟨?_, row_turned h.row h.map hu, ?_, h.low, hu.below h.low h.below⟩, Keep.of_turned h.map hu⟩
  · rw [del_eq] at hm
    have := gdel_map (fun p : Sl × List Int => slv p.1) t os
    have e : (os.map fun e => (e.1, (fun p : Sl × List Int => slv p.1) e.2)) = os.map hdr := rfl
    rw [e] at this
    rw [this] at hm
    exact hm
  · have hf := fam_turned h.fam h.map hu
    cases hget : gget os t with
    | none => rw [gdel_none _ _ hget]; exact hf
    | some p =>
      obtain ⟨m', hp, _, _, hd⟩ := gget_perm t p os hget
      have h1 : Fam w1 B (rowO (t, p) :: (m'.map rowO ++ cs.map rowP)) := hf.perm ((hp.map rowO).append_right _)
      exact h1.tail.perm ((hd.map rowO).append_right _).symm

theorem map_set_same {α β : Type} (f : α → β) (l : List α) (i : Nat) (x : α) : (l.set i x).map f = (l.map f).set i (f x) := by
  induction l generalizing i with
  | nil => rfl
  | cons a l ih => cases i with
    | zero => rfl
    | succ i => simp
theorem set_self {α : Type} (l : List α) (i : Nat) (x : α) (h : ∀ y, l[i]? = some y → y = x) : l.set i x = l := by
  induction l generalizing i with
  | nil => rfl
  | cons a l ih => cases i with
    | zero => rw [h a rfl]; rfl
    | succ i => simp only [List.set_cons_succ]; rw [ih i (fun y hy => h y (by simpa using hy))]

/-- A call's numbers are written. -/
theorem St.set (h : St w0 B mb os cs vo w) (i : Nat) {c c' : C} {s : Sl} (hi : cs[i]? = some (c, s)) (hc : c'.pts = c.pts) (hr : Kd.R ck 35 w1 B T vo ((cs.map tup).set i (tup (c', s)))) (hg : w.grownBy w1 vo.ownBlock) (hB : Below B w0 w1) :
    St w0 B mb os (cs.set i (c', s)) vo w1 ∧ Keep w w1 := by
  refine ⟨⟨is_grown_call h.map h.row hg, by rw [map_set_same]; exact hr, ?_, h.low, hB⟩, Keep.of_grown_call h.row hg⟩
  have hf := fam_grown_call h.fam h.row hg
  rw [map_set_same, set_self]
  · exact hf
  · intro y hy
    rw [List.getElem?_map, hi] at hy
    simp only [Option.map_some, Option.some.injEq] at hy
    rw [← hy]
    simp [rowP, hc]

theorem split_at {α : Type} (l : List α) (i : Nat) (x : α) (h : l[i]? = some x) : l = l.take i ++ x :: l.drop (i + 1) ∧ ∀ y, l.set i y = l.take i ++ y :: l.drop (i + 1) := by
  obtain ⟨hl, hx⟩ := List.getElem?_eq_some_iff.1 h
  constructor
  · subst hx
    rw [List.getElem_cons_drop, List.take_append_drop]
  · intro y
    rw [List.set_eq_take_append_cons_drop, if_pos hl]

/-- A call gets one more point: its row grows, and its place is written. -/
theorem St.point (h : St w0 B mb os cs vo w) (i : Nat) {c c' : C} {s s' : Sl} (hi : cs[i]? = some (c, s)) (hr : Kd.R ik 3 w1 B T (slv s') c'.pts) (hg : w.grownBy w1 (slv s).ownBlock)
    (hat : (slv s').ownBlock = (slv s).ownBlock ∨ ∃ b, (slv s').ownBlock = some b ∧ w.heap.size ≤ b)
    (hro : Kd.R ck 35 w2 B T vo ((cs.map tup).set i (tup (c', s')))) (hgo : w1.grownBy w2 vo.ownBlock) (hB : Below B w0 w2) :
    St w0 B mb os (cs.set i (c', s')) vo w2 ∧ Keep w w2 := by
  have hv : Kd.R ik 3 w B T (slv s) c.pts := h.fam.1 (slv s, c.pts) (List.mem_append_right _ (List.mem_map.2 ⟨(c, s), List.mem_of_getElem? hi, rfl⟩))
  have hrow1 := row_grown_int h.row hv hg
  obtain ⟨e1, e2⟩ := split_at cs i _ hi
  refine ⟨⟨is_grown_call (is_grown_int h.map hv hg) hrow1 hgo, by rw [map_set_same]; exact hro, fam_grown_call ?_ hrow1 hgo, h.low, hB⟩, (Keep.of_grown_int hv hg).trans (Keep.of_grown_call hrow1 hgo)⟩
  have hf := h.fam
  rw [e1, List.map_append, List.map_cons, ← List.append_assoc] at hf
  have h1 := (hf.perm List.perm_middle).grow hg hr hat
  rw [e2, List.map_append, List.map_cons, ← List.append_assoc]
  exact h1.perm List.perm_middle.symm

/-! ### Stores -/
section
variable {P : Program} {oi : Oper} {a : Act} {t : TypeId}
theorem store_run {p x : Operand} {pv xv : Value} (hop : oi.op = .store t p x) (hp : a.eval p = pv) (hx : a.eval x = xv) (h : (Instr.storeAt t pv xv).run P w = .ok () w1) : (execOp a.eval oi).run P w = .ok .skip w1 := by
  unfold execOp
  simp [hop, hp, hx, h]
theorem upd_run {m k v : Operand} {pm pk pv : Value} (hop : oi.op = .mapUpdate t m k v) (h1 : a.eval m = pm) (h2 : a.eval k = pk) (h3 : a.eval v = pv) (h : (Instr.mapUpdate t pm pk pv).run P w = .ok () w1) : (execOp a.eval oi).run P w = .ok .skip w1 := by
  unfold execOp
  simp [hop, h1, h2, h3, h]
variable {ops : Array Oper} {rest : List Oper} {Q : Exit → Act → World → Prop}
theorem wp_store (hN : oi.dst = none) (hg : oi.guard = none) {p x : Operand} {pv xv : Value} (hop : oi.op = .store t p x) (hp : a.eval p = pv) (hx : a.eval x = xv) (hrun : (Instr.storeAt t pv xv).run P w = .ok () w1)
    (h : wpList P ops Q rest a w1) : wpList P ops Q (oi :: rest) a w := by
  refine wpList_plain hg fun K hK => ?_
  unfold Oper.wp
  rw [store_run hop hp hx hrun]
  show K (a.put oi.dst undef) w1
  rw [hN]
  exact hK _ _ h
theorem wp_delete (N : Option Tmp) (hN : oi.dst = N) (hg : oi.guard = none) {m k : Operand} {kt et tt : TypeId} {r : Nat} {mm : IMap.M} {key : Int} (hop : oi.op = .call { callee := .builtin .delete, args := #[m, k], argTypes := #[t, tt] }) (hm : a.eval m = .map (some r)) (hk : a.eval k = .int .i64 key)
    (ht : P.underlying t = some (.map kt et)) (hkt : P.underlying kt = some (.int .i64)) (h : IMap.Is w r mm)
    (hK : ∀ w', IMap.Is w' r (IMap.del mm key) → IMap.Turned w w' r → wpList P ops Q rest (a.put N (.tuple #[])) w') : wpList P ops Q (oi :: rest) a w := by
  refine wpList_plain hg fun K hK' => ?_
  obtain ⟨w', hrun, hi, hu⟩ := IMap.run_delete h ht hkt key #[t, tt] rfl oi.type
  have hx : (execOp a.eval oi).run P w = .ok (.value (.tuple #[])) w' := by
    unfold execOp
    simp [hop, hm, hk, resolve, invoke, Go.builtin, hrun]
  subst hN
  unfold Oper.wp
  rw [hx]
  exact hK' _ _ (hK w' hi hu)
end

theorem row_store {P : Program} {t g n cap : Nat} {xs : List (Int × Int × Int × Int × Int × Sl)} (h : Kd.R ck 35 w B T (.slice (some ⟨g, 0, none⟩) n cap) xs) (q : Nat) {x x' : Int × Int × Int × Int × Int × Sl} (hq : xs[q]? = some x) (j : Nat) (hj : j < 6) (u : Value) (hu : u.cells.toList = [u]) (hu1 : u.oneCell' = true)
    (ht : (P.info? t).map (·.size) = some 1) (hx : tcs x' = (tcs x).set j u) :
    ∃ w1, (Instr.storeAt t (.pointer (some ⟨g, q * 6 + j, none⟩)) u).run P w = .ok () w1 ∧ Kd.R ck 35 w1 B T (.slice (some ⟨g, 0, none⟩) n cap) (xs.set q x') ∧ w.grownBy w1 (some g) := by
  obtain ⟨hl, hx0⟩ := List.getElem?_eq_some_iff.1 hq
  have hn := (Kd.R_reads' h).1
  obtain ⟨c, hcl, hM, hcc, _⟩ := Kd.R_elem h (0, 0, 0, 0, 0, nilS) (q : Int) (by omega) (by omega)
  have hd : xs.getD (q : Int).toNat (0, 0, 0, 0, 0, nilS) = x := by rw [Int.toNat_natCast, List.getD_eq_getElem?_getD, hq]; rfl
  rw [hd] at hM
  obtain rfl := ck_open hM
  obtain ⟨cells, hcells⟩ := Kd.R_typed h g rfl
  obtain ⟨inner, hown⟩ := Kd.R_own h
  have hfit : q * 6 + j + 1 ≤ cells.size := by
    rcases hown.2 with ⟨hv, _⟩ | ⟨g', cap', cur, hv, hb, hh, hnc, hcm, hcs, _⟩
    · cases hv
    injection hv with ha _ hc
    injection ha with ha
    injection ha with hg'
    subst hg'; subst hc
    rw [hh] at hcells
    cases hcells
    have h6 : ck.sz = 6 := rfl
    rw [h6] at hcs
    have : q + 1 ≤ cap := by omega
    have := Nat.mul_le_mul_right 6 this
    omega
  refine ⟨_, run_store_run t u [u] hcells hu ht hfit (fun v hv => by cases List.mem_singleton.1 hv; exact hu1), ?_⟩
  have hs := Kd.R_seg (x' := x') (seg := [u]) (j := j) (okp := fun _ => False) h (q : Int) (by omega) (by omega) hcl hcc (by show j + 1 ≤ 6; omega) (by
    have e : (tcs x).take j ++ [u] ++ (tcs x).drop (j + [u].length) = tcs x' := by
      rw [hx, List.set_eq_take_append_cons_drop, if_pos (by simpa using hj), List.append_assoc]
      rfl
    rw [e]
    exact ck_M x') (fun _ hk => hk.elim)
  have h6 : ck.sz = 6 := rfl
  rw [h6] at hs
  simpa using hs

theorem St.form (h : St w0 B mb os cs vo w) {q : Nat} {c : C} {s : Sl} (hq : cs[q]? = some (c, s)) : ∃ g cap, vo = .slice (some ⟨g, 0, none⟩) cs.length cap ∧ w.cell? ⟨g, q * 6 + 5, none⟩ = some (slv s) := by
  have hl := (List.getElem?_eq_some_iff.1 hq).1
  obtain ⟨g, cap, hv, _⟩ := Kd.R_form h.row (by simpa using Nat.lt_of_le_of_lt (Nat.zero_le _) hl)
  rw [List.length_map] at hv
  subst hv
  obtain ⟨d, hcl, hM, hcc, _⟩ := Kd.R_elem h.row (0, 0, 0, 0, 0, nilS) (q : Int) (by omega) (by omega)
  have hd : (cs.map tup).getD (q : Int).toNat (0, 0, 0, 0, 0, nilS) = tup (c, s) := by rw [Int.toNat_natCast, List.getD_eq_getElem?_getD, List.getElem?_map, hq]; rfl
  rw [hd] at hM
  obtain rfl := ck_open hM
  have h6 : ck.sz = 6 := rfl
  rw [h6] at hcc
  exact ⟨g, cap, rfl, by simpa using hcc 5 _ rfl⟩

/-- A number of a call is written. -/
theorem St.store1 {P : Program} {g n cap : Nat} (h : St w0 B mb os cs (.slice (some ⟨g, 0, none⟩) n cap) w) (q : Nat) {c c' : C} {s : Sl} (hq : cs[q]? = some (c, s)) (j : Nat) (hj : j < 6) (x : Int) (ht : (P.info? 3).map (·.size) = some 1)
    (hx : tcs (tup (c', s)) = (tcs (tup (c, s))).set j (.int .i64 x)) (hp : c'.pts = c.pts) :
    ∃ w1, (Instr.storeAt 3 (.pointer (some ⟨g, q * 6 + j, none⟩)) (.int .i64 x)).run P w = .ok () w1 ∧ St w0 B mb os (cs.set q (c', s)) (.slice (some ⟨g, 0, none⟩) n cap) w1 ∧ Keep w w1 := by
  obtain ⟨w1, hrun, hr, hg⟩ := row_store h.row q (x' := tup (c', s)) (by rw [List.getElem?_map, hq]; rfl) j hj (.int .i64 x) rfl rfl ht hx
  have hbg : B ≤ g := Kd.R_base h.row g rfl
  obtain ⟨h1, h2⟩ := h.set q hq hp hr hg (h.below.grown hg h.size (fun k hk => by cases hk; exact hbg))
  exact ⟨w1, hrun, h1, h2⟩

/-- A point is added: the row has grown, its place is written. -/
theorem St.point1 {P : Program} {g n cap : Nat} (h : St w0 B mb os cs (.slice (some ⟨g, 0, none⟩) n cap) w) (q : Nat) {c : C} {s : Sl} (hq : cs[q]? = some (c, s)) {s' : Sl} {x : Int} (hr : Kd.R ik 3 w1 B T (slv s') (c.pts ++ [x])) (hg : w.grownBy w1 (slv s).ownBlock)
    (hat : (slv s').ownBlock = (slv s).ownBlock ∨ ∃ b, (slv s').ownBlock = some b ∧ w.heap.size ≤ b) (hB : Below B w0 w1) (ht : (P.info? 33).map (·.size) = some 1) :
    ∃ w2, (Instr.storeAt 33 (.pointer (some ⟨g, q * 6 + 5, none⟩)) (slv s')).run P w1 = .ok () w2 ∧ St w0 B mb os (cs.set q ({ c with pts := c.pts ++ [x] }, s')) (.slice (some ⟨g, 0, none⟩) n cap) w2 ∧ Keep w w2 := by
  have hv : Kd.R ik 3 w B T (slv s) c.pts := h.fam.1 (slv s, c.pts) (List.mem_append_right _ (List.mem_map.2 ⟨(c, s), List.mem_of_getElem? hq, rfl⟩))
  have hrow1 := row_grown_int h.row hv hg
  obtain ⟨w2, hrun, hr2, hg2⟩ := row_store (P := P) hrow1 q (x := tup (c, s)) (x' := tup ({ c with pts := c.pts ++ [x] }, s')) (by rw [List.getElem?_map, hq]; rfl) 5 (by decide) (slv s') rfl rfl ht rfl
  have hbg : B ≤ g := Kd.R_base h.row g rfl
  obtain ⟨h1, h2⟩ := h.point q (c' := { c with pts := c.pts ++ [x] }) hq hr hg hat hr2 hg2 (hB.grown hg2 (Nat.le_trans h.size hg.size) (fun k hk => by cases hk; exact hbg))
  exact ⟨w2, hrun, h1, h2⟩

/-- A row of whole numbers that is read at a place. -/
theorem row_at {xs : List Int} {n c : Nat} {A : Option Addr} (h : Kd.R ik 3 w B T (.slice A n c) xs) (i : Nat) (hi : i < n) : ∃ g x, A = some ⟨g, 0, none⟩ ∧ xs[i]? = some x ∧ w.cell? ⟨g, i, none⟩ = some (.int .i64 x) := by
  have hn := (Kd.R_reads' h).1
  obtain ⟨g, cap, hv, _⟩ := Kd.R_form h (by omega)
  injection hv with hA _ hc
  subst hA; subst hc
  have := (Kd.R_celln 0 h (i : Int) (by omega) (by omega)).1
  rw [Int.toNat_natCast] at this
  refine ⟨g, xs[i], rfl, List.getElem?_eq_getElem (by omega), ?_⟩
  rw [this]
  simp [rdOf, List.getElem?_eq_getElem (show i < xs.length by omega)]

/-! ### The plain side -/
abbrev pl (os : List E) : O := os.map fun e => (e.1, e.2.2)
abbrev fs (cs : List (C × Sl)) : List C := cs.map Prod.fst
theorem run_snoc (n : Int × Int × Int × Int) : ∀ (l : List (Int × Int × Int × Int)) (j : Nat) (s : O × List C), run j (l ++ [n]) s = step ((j + l.length : Nat) : Int) n (run j l s)
  | [], j, s => rfl
  | m :: l, j, s => by
    rw [List.cons_append, run, run_snoc n l (j + 1)]
    rw [List.length_cons]
    have : j + 1 + l.length = j + (l.length + 1) := by omega
    rw [this]
    rfl
theorem run_take (l : List (Int × Int × Int × Int)) (k : Nat) (n : Int × Int × Int × Int) (h : l[k]? = some n) (s : O × List C) : run 0 (l.take (k + 1)) s = step (k : Int) n (run 0 (l.take k) s) := by
  have hl := (List.getElem?_eq_some_iff.1 h).1
  rw [List.take_add_one, h]
  have := run_snoc n (l.take k) 0 s
  rw [List.length_take, Nat.min_eq_left (Nat.le_of_lt hl), Nat.zero_add] at this
  exact this
theorem pl_get (os : List E) (t : Int) : ((gget (pl os) t).getD []) = (ofTask os t).2 := by
  have := gget_map (fun p : Sl × List Int => p.2) t os
  have e : (os.map fun e => (e.1, (fun p : Sl × List Int => p.2) e.2)) = pl os := rfl
  rw [e] at this
  rw [this]
  unfold ofTask
  cases gget os t <;> rfl
theorem pl_put (os : List E) (t : Int) (p : Sl × List Int) : pl (gput os t p) = gput (pl os) t p.2 := (gput_map (fun p : Sl × List Int => p.2) t p os).symm
theorem pl_del (os : List E) (t : Int) : pl (gdel os t) = gdel (pl os) t := (gdel_map (fun p : Sl × List Int => p.2) t os).symm

structure Good (k : Nat) (os : List E) (cs : List (C × Sl)) : Prop where
  len : cs.length ≤ k
  rows : ∀ e ∈ os, e.2.2.length ≤ k ∧ ∀ i ∈ e.2.2, ∃ q : Nat, i = q ∧ q < cs.length
  pts : ∀ c ∈ cs, c.1.pts.length ≤ k * k
theorem Good.task {k : Nat} (h : Good k os cs) (t : Int) : (ofTask os t).2.length ≤ k ∧ ∀ i ∈ (ofTask os t).2, ∃ q : Nat, i = q ∧ q < cs.length := by
  unfold ofTask
  cases hg : gget os t with
  | none => exact ⟨Nat.zero_le _, fun i hi => (by cases hi)⟩
  | some p =>
    obtain ⟨m', hp, _⟩ := gget_perm t p os hg
    exact h.rows (t, p) (hp.mem_iff.2 (List.mem_cons_self ..))
theorem mem_gput {α : Type} {k : Int} {v : α} : ∀ {m : List (Int × α)} {e : Int × α}, e ∈ gput m k v → e = (k, v) ∨ e ∈ m
  | [], e, h => .inl (List.mem_singleton.1 h)
  | (a, x) :: m, e, h => by
    simp only [gput] at h
    split at h
    · next ha =>
      rcases List.mem_cons.1 h with h | h
      · exact .inl (by rw [h, ha])
      · exact .inr (List.mem_cons_of_mem _ h)
    · rcases List.mem_cons.1 h with h | h
      · exact .inr (by rw [h]; exact List.mem_cons_self ..)
      · rcases mem_gput h with h | h
        · exact .inl h
        · exact .inr (List.mem_cons_of_mem _ h)
theorem mem_gdel {α : Type} {k : Int} : ∀ {m : List (Int × α)} {e : Int × α}, e ∈ gdel m k → e ∈ m
  | [], e, h => (by cases h)
  | (a, x) :: m, e, h => by
    simp only [gdel] at h
    split at h
    · exact List.mem_cons_of_mem _ h
    · rcases List.mem_cons.1 h with h | h
      · rw [h]; exact List.mem_cons_self ..
      · exact List.mem_cons_of_mem _ (mem_gdel h)
theorem sq (k : Nat) : k * k ≤ (k + 1) * (k + 1) ∧ k * k + k ≤ (k + 1) * (k + 1) := by
  have : (k + 1) * (k + 1) = k * k + k + k + 1 := by rw [Nat.add_mul, Nat.mul_add]; omega
  omega
theorem Good.call {k : Nat} (h : Good k os cs) (t : Int) (s : Sl) (c : C) (hc : c.pts = []) : Good (k + 1) (gput os t (s, (ofTask os t).2 ++ [(cs.length : Int)])) (cs ++ [(c, nilS)]) := by
  refine ⟨by have := h.len; simp; omega, fun e he => ?_, fun d hd => ?_⟩
  · rcases mem_gput he with rfl | he
    · refine ⟨by have := (h.task t).1; simp; omega, fun i hi => ?_⟩
      rcases List.mem_append.1 hi with hi | hi
      · obtain ⟨q, rfl, hq⟩ := (h.task t).2 i hi
        exact ⟨q, rfl, by simp; omega⟩
      · cases List.mem_singleton.1 hi
        exact ⟨cs.length, rfl, by simp⟩
    · obtain ⟨h1, h2⟩ := h.rows e he
      refine ⟨by omega, fun i hi => ?_⟩
      obtain ⟨q, rfl, hq⟩ := h2 i hi
      exact ⟨q, rfl, by simp; omega⟩
  · rcases List.mem_append.1 hd with hd | hd
    · have := h.pts d hd
      have := (sq k).1
      omega
    · cases List.mem_singleton.1 hd
      simp [hc]
theorem Good.turn {k : Nat} {os' : List E} {cs' : List (C × Sl)} (h : Good k os cs) (ho : ∀ e ∈ os', e ∈ os) (hl : cs'.length = cs.length) (hp : ∀ c ∈ cs', c.1.pts.length ≤ k * k + k) : Good (k + 1) os' cs' := by
  refine ⟨by have := h.len; omega, fun e he => ?_, fun d hd => ?_⟩
  · obtain ⟨h1, h2⟩ := h.rows e (ho e he)
    exact ⟨by omega, fun i hi => by obtain ⟨q, rfl, hq⟩ := h2 i hi; exact ⟨q, rfl, by omega⟩⟩
  · have := hp d hd
    have := (sq k).2
    omega
theorem fs_set (cs : List (C × Sl)) (q : Nat) (p : C × Sl) : fs (cs.set q p) = (fs cs).set q p.1 := map_set_same Prod.fst cs q p
theorem modify_at {α : Type} (f : α → α) (l : List α) (q : Nat) (x : α) (h : l[q]? = some x) : l.modify q f = l.set q (f x) := by
  obtain ⟨hl, hx⟩ := List.getElem?_eq_some_iff.1 h
  subst hx
  apply List.ext_getElem
  · simp
  · intro i h1 h2
    rw [List.getElem_modify, List.getElem_set]
    split
    · next e => subst e; rfl
    · rfl
theorem fold_next {α : Type} (f : α → Int → α) (l : List Int) (j : Nat) (x : Int) (h : l[j]? = some x) (s : α) : (l.take (j + 1)).foldl f s = f ((l.take j).foldl f s) x := by
  rw [List.take_add_one, h, List.foldl_append]
  rfl
end Go.Proofs.Ytgbofijdjgpgeaa.Recs
