/- Waiting for a cell, step by step: wait.Step, and the run's Wait. -/
import Derived.Test.YtkmlefbdhdlfmaaGreatRun
namespace Go.Proofs.YtkmlefbdhdlfmaaGreat.Wo
open Go.RowKit Go.Proofs.YtkmlefbdhdlfmaaGreatW.PrintWords Go.Proofs.YtkmlefbdhdlfmaaGreatW.PrintMore Go.Proofs.YtkmlefbdhdlfmaaGreatW.PrintLast
open Stile
set_option linter.unusedSimpArgs false
set_option linter.unusedVariables false
set_option maxRecDepth 100000
variable {w w1 w2 : World} {B p pm g : Nat} {r r1 : Run}
theorem e9 {P : Prop} (h : P := by
 have g2 := blk_drew k2Z
 have g3 := blk_drew k3Z
 have i0 := cell_of_heap (j := 0) g2 rfl
 have j0 := cell_of_heap (j := 0) g3 rfl
 have j1 := cell_of_heap (j := 1) g3 rfl
 have j2 := cell_of_heap (j := 2) g3 rfl
 have j3 := cell_of_heap (j := 3) g3 rfl
 have j4 := cell_of_heap (j := 4) g3 rfl
 have z2 := blk_frozen k2Z 0
 have z30 := blk_frozen k3Z 0
 have z31 := blk_frozen k3Z 1
 have z32 := blk_frozen k3Z 2
 have z33 := blk_frozen k3Z 3
 have z34 := blk_frozen k3Z 4
 have i90 := cell_of_heap (j := 0) k2Z rfl
 have j90 := cell_of_heap (j := 0) k3Z rfl
 have j91 := cell_of_heap (j := 1) k3Z rfl
 have j92 := cell_of_heap (j := 2) k3Z rfl
 have j93 := cell_of_heap (j := 3) k3Z rfl
 have j94 := cell_of_heap (j := 4) k3Z rfl
 refine start_ (n := 8) (S := fun w' => w'.cell? ⟨b + 1 + 1, 0, none⟩ = some (.int .i64 3) ∧ w'.cell? ⟨b + 1 + 1 + 1, 0, none⟩ = some (.int .i64 a0) ∧ w'.cell? ⟨b + 1 + 1 + 1, 1, none⟩ = some (.int .i64 a1) ∧ w'.cell? ⟨b + 1 + 1 + 1, 2, none⟩ = some (.int .u32 a2) ∧ w'.cell? ⟨b + 1 + 1 + 1, 3, none⟩ = some (.int .u32 a3) ∧ w'.cell? ⟨b + 1 + 1 + 1, 4, none⟩ = some (.int .u32 a4)) (ds := [5]) #[false, false, false, false, false, false, false, false] (by kernel_rfl) rfl rfl ⟨i0, j0, j1, j2, j3, j4⟩ (fun hHeld => ?_)
 refine pu_ 2 98 (mk 8 4) rfl rfl ?_
 refine pu_ 3 99 (mk 8 12) rfl rfl ?_
 refine take_ (i := 0) (N := some 96) (v := ?_) (a' := ?_) (mk 8 13) rfl rfl (by kernel_rfl) (fun _ _ _ h => h) (Or.inl ⟨by rfl, ?_⟩) hHeld ?_ ?_
 rotate_left
 ·rintro w' ⟨s0, s1, s2, s3, s4, s5⟩
  go_simp
  with_reducible rfl
 rotate_left
 ·exact e4
 refine take_ (i := 1) (N := some 97) (v := ?_) (a' := ?_) (mk 8 15) rfl rfl (by kernel_rfl) (fun _ _ _ h => h) (Or.inl ⟨by rfl, ?_⟩) hHeld ?_ ?_
 rotate_left
 ·rintro w' ⟨s0, s1, s2, s3, s4, s5⟩
  go_simp
  with_reducible rfl
 rotate_left
 ·exact e4
 refine one_ (i := 4) (N := none) (mk 8 31) rfl rfl (by kernel_rfl) (by decide) (fun K hK => ?_)
 refine skip_ (w1 := ?_) (by rfl) rfl ?_ ?_
 rotate_left
 ·go_simp
  rfl
 refine hK.out _ _ ⟨cell_of_heap (blk_drew (blk_set k2Z 0 (.int .i64 3))) rfl, cell_of_heap (blk_drew (blk_far k3Z (p := ⟨b + 1 + 1, 0, none⟩) n32 (.int .i64 3))) rfl, cell_of_heap (blk_drew (blk_far k3Z (p := ⟨b + 1 + 1, 0, none⟩) n32 (.int .i64 3))) rfl, cell_of_heap (blk_drew (blk_far k3Z (p := ⟨b + 1 + 1, 0, none⟩) n32 (.int .i64 3))) rfl, cell_of_heap (blk_drew (blk_far k3Z (p := ⟨b + 1 + 1, 0, none⟩) n32 (.int .i64 3))) rfl, cell_of_heap (blk_drew (blk_far k3Z (p := ⟨b + 1 + 1, 0, none⟩) n32 (.int .i64 3))) rfl⟩ (fun hHeld => ?_)
 clear hK K
 refine last_ (i := 5) (N := none) (mk 8 63) rfl rfl (by kernel_rfl) (by decide) (fun K hK => ?_)
 refine skip_ (w1 := ?_) (by rfl) rfl ?_ ?_
 rotate_left
 ·go_simp
  rfl
 refine hK.out _ _ ?_
 clear hK K
 refine pu_ 6 16 (mk 8 127) rfl rfl ?_
 refine pu_ 7 17 (mk 8 255) rfl rfl ?_
 refine done_ (by kernel_rfl) ?_
 have wA := At.far (a := ⟨b + 1 + 1, 0, none⟩) hAZ k2Z (by decide) n2p n2m n2g (.int .i64 3)
 have wF := Fr.set hFZ ⟨b + 1 + 1, 0, none⟩ (.inr (.inr (by show w.heap.size ≤ b + 1 + 1; have := hbs.out; omega))) (.int .i64 3)
 have w2 := blk_set k2Z 0 (.int .i64 3)
 have w3 := blk_far k3Z (p := ⟨b + 1 + 1, 0, none⟩) n32 (.int .i64 3)
 have xA := (At.putAt wA w3 (by decide) n3p n3m n3g ⟨a0, a1, a2, a3, a4⟩).drew
 have xF := (Fr.putAt wF (k := b + 1 + 1 + 1) (by have := hbs.out; omega) ⟨a0, a1, a2, a3, a4⟩).drew
 have x3 := blk_drew (putAt_blk w3 ⟨a0, a1, a2, a3, a4⟩)
 have x2 := blk_drew ((putAt_far _ (b + 1 + 1 + 1) ⟨a0, a1, a2, a3, a4⟩ (b + 1 + 1) n23).trans w2)
 replace wA := Lib.hid wA
 replace wF := Lib.hid wF
 replace w2 := Lib.hid w2
 replace w3 := Lib.hid w3
 replace xA := Lib.hid xA
 replace xF := Lib.hid xF
 replace x2 := Lib.hid x2
 replace x3 := Lib.hid x3
 go_wp2
 (try simp only [Exit.inBlock, Exit.then])
 refine bodyPost_ret (results_list (vs := [.agg #[.int .i64 3], .agg #[.int .i64 a0, .int .i64 a1, .int .u32 a2, .int .u32 a3, .int .u32 a4], .bool false, .bool false]) rfl (by simp) (.cell (b + 1 + 1) 47 #[.int .i64 3] (0, 0) _ rfl x2.out Tryz.underlying47 rfl (by kernel_rfl) (.cell (b + 1 + 1 + 1) 38 #[.int .i64 a0, .int .i64 a1, .int .u32 a2, .int .u32 a3, .int .u32 a4] (0, 0) _ rfl x3.out Tryz.underlying38 rfl (by kernel_rfl) (.tmp (.tmp .nil))))) rfl ?_
 exact ⟨rfl, xA.out, xF.out⟩) : P := h
theorem e10 {P : Prop} (h : P := by
 rw [← hW4] at hAZ hFZ k2Z k3Z
 replace k2Z : W4.heap[b + 1 + 1]? = some (.cells #[.int .i64 2] 47 (0, 0)) := k2Z
 replace k3Z : W4.heap[b + 1 + 1 + 1]? = some (.cells #[.int .i64 a0, .int .i64 a1, .int .u32 a2, .int .u32 a3, .int .u32 a4] 38 (0, 0)) := k3Z
 clear hW4 uAZ uFZ u3Z u2Z vAZ vFZ v2Z v3Z
 have g2 := blk_drew k2Z
 have g3 := blk_drew k3Z
 have i0 := cell_of_heap (j := 0) g2 rfl
 have j0 := cell_of_heap (j := 0) g3 rfl
 have j1 := cell_of_heap (j := 1) g3 rfl
 have j2 := cell_of_heap (j := 2) g3 rfl
 have j3 := cell_of_heap (j := 3) g3 rfl
 have j4 := cell_of_heap (j := 4) g3 rfl
 have z2 := blk_frozen k2Z 0
 have z30 := blk_frozen k3Z 0
 have z31 := blk_frozen k3Z 1
 have z32 := blk_frozen k3Z 2
 have z33 := blk_frozen k3Z 3
 have z34 := blk_frozen k3Z 4
 have i90 := cell_of_heap (j := 0) k2Z rfl
 have j90 := cell_of_heap (j := 0) k3Z rfl
 have j91 := cell_of_heap (j := 1) k3Z rfl
 have j92 := cell_of_heap (j := 2) k3Z rfl
 have j93 := cell_of_heap (j := 3) k3Z rfl
 have j94 := cell_of_heap (j := 4) k3Z rfl
 refine start_ (n := 8) (S := fun w' => w'.cell? ⟨b + 1 + 1, 0, none⟩ = some (.int .i64 2) ∧ w'.cell? ⟨b + 1 + 1 + 1, 0, none⟩ = some (.int .i64 a0) ∧ w'.cell? ⟨b + 1 + 1 + 1, 1, none⟩ = some (.int .i64 a1) ∧ w'.cell? ⟨b + 1 + 1 + 1, 2, none⟩ = some (.int .u32 a2) ∧ w'.cell? ⟨b + 1 + 1 + 1, 3, none⟩ = some (.int .u32 a3) ∧ w'.cell? ⟨b + 1 + 1 + 1, 4, none⟩ = some (.int .u32 a4)) (ds := [5]) #[false, false, false, false, false, false, false, false] (by kernel_rfl) rfl rfl ⟨i0, j0, j1, j2, j3, j4⟩ (fun hHeld => ?_)
 refine pu_ 2 98 (mk 8 4) rfl rfl ?_
 refine pu_ 3 99 (mk 8 12) rfl rfl ?_
 refine take_ (i := 0) (N := some 96) (v := ?_) (a' := ?_) (mk 8 13) rfl rfl (by kernel_rfl) (fun _ _ _ h => h) (Or.inl ⟨by rfl, ?_⟩) hHeld ?_ ?_
 rotate_left
 ·rintro w' ⟨s0, s1, s2, s3, s4, s5⟩
  go_simp
  with_reducible rfl
 rotate_left
 ·exact e4
 refine take_ (i := 1) (N := some 97) (v := ?_) (a' := ?_) (mk 8 15) rfl rfl (by kernel_rfl) (fun _ _ _ h => h) (Or.inl ⟨by rfl, ?_⟩) hHeld ?_ ?_
 rotate_left
 ·rintro w' ⟨s0, s1, s2, s3, s4, s5⟩
  go_simp
  with_reducible rfl
 rotate_left
 ·exact e4
 refine one_ (i := 4) (N := none) (mk 8 31) rfl rfl (by kernel_rfl) (by decide) (fun K hK => ?_)
 refine skip_ (w1 := ?_) (by rfl) rfl ?_ ?_
 rotate_left
 ·go_simp
  rfl
 refine hK.out _ _ ⟨cell_of_heap (blk_drew (blk_set k2Z 0 (.int .i64 2))) rfl, cell_of_heap (blk_drew (blk_far k3Z (p := ⟨b + 1 + 1, 0, none⟩) n32 (.int .i64 2))) rfl, cell_of_heap (blk_drew (blk_far k3Z (p := ⟨b + 1 + 1, 0, none⟩) n32 (.int .i64 2))) rfl, cell_of_heap (blk_drew (blk_far k3Z (p := ⟨b + 1 + 1, 0, none⟩) n32 (.int .i64 2))) rfl, cell_of_heap (blk_drew (blk_far k3Z (p := ⟨b + 1 + 1, 0, none⟩) n32 (.int .i64 2))) rfl, cell_of_heap (blk_drew (blk_far k3Z (p := ⟨b + 1 + 1, 0, none⟩) n32 (.int .i64 2))) rfl⟩ (fun hHeld => ?_)
 clear hK K
 refine last_ (i := 5) (N := none) (mk 8 63) rfl rfl (by kernel_rfl) (by decide) (fun K hK => ?_)
 refine skip_ (w1 := ?_) (by rfl) rfl ?_ ?_
 rotate_left
 ·go_simp
  rfl
 refine hK.out _ _ ?_
 clear hK K
 refine pu_ 6 16 (mk 8 127) rfl rfl ?_
 refine pu_ 7 17 (mk 8 255) rfl rfl ?_
 refine done_ (by kernel_rfl) ?_
 have wA := At.far (a := ⟨b + 1 + 1, 0, none⟩) hAZ k2Z (by decide) n2p n2m n2g (.int .i64 2)
 have wF := Fr.set hFZ ⟨b + 1 + 1, 0, none⟩ (.inr (.inr (by show w.heap.size ≤ b + 1 + 1; have := hbs.out; omega))) (.int .i64 2)
 have w2 := blk_set k2Z 0 (.int .i64 2)
 have w3 := blk_far k3Z (p := ⟨b + 1 + 1, 0, none⟩) n32 (.int .i64 2)
 have xA := (At.putAt wA w3 (by decide) n3p n3m n3g ⟨a0, a1, a2, a3, a4⟩).drew
 have xF := (Fr.putAt wF (k := b + 1 + 1 + 1) (by have := hbs.out; omega) ⟨a0, a1, a2, a3, a4⟩).drew
 have x3 := blk_drew (putAt_blk w3 ⟨a0, a1, a2, a3, a4⟩)
 have x2 := blk_drew ((putAt_far _ (b + 1 + 1 + 1) ⟨a0, a1, a2, a3, a4⟩ (b + 1 + 1) n23).trans w2)
 replace wA := Lib.hid wA
 replace wF := Lib.hid wF
 replace w2 := Lib.hid w2
 replace w3 := Lib.hid w3
 replace xA := Lib.hid xA
 replace xF := Lib.hid xF
 replace x2 := Lib.hid x2
 replace x3 := Lib.hid x3
 go_wp2
 (try simp only [Exit.inBlock, Exit.then])
 refine bodyPost_ret (results_list (vs := [.agg #[.int .i64 2], .agg #[.int .i64 a0, .int .i64 a1, .int .u32 a2, .int .u32 a3, .int .u32 a4], .bool false, .bool false]) rfl (by simp) (.cell (b + 1 + 1) 47 #[.int .i64 2] (0, 0) _ rfl x2.out Tryz.underlying47 rfl (by kernel_rfl) (.cell (b + 1 + 1 + 1) 38 #[.int .i64 a0, .int .i64 a1, .int .u32 a2, .int .u32 a3, .int .u32 a4] (0, 0) _ rfl x3.out Tryz.underlying38 rfl (by kernel_rfl) (.tmp (.tmp .nil))))) rfl ?_
 exact ⟨rfl, xA.out, xF.out⟩) : P := h
theorem fn_in {P : Program} (w : World) (d : Nat) (t : TypeId) {a b c} (n : Fn) (cs : Array Value) (h : P.underlying t = some (.func a b c)) : (Op.equalIn (d + 1) t (.func n #[] cs) .nilFunc).run P w = .ok false w := by
 simp [Op.equalIn, run_underlying h]
theorem fn_eq {P : Program} (w : World) (t : TypeId) {a b c} (n : Fn) (cs : Array Value) (h : P.underlying t = some (.func a b c)) : (Op.equal t (.func n #[] cs) .nilFunc).run P w = .ok false w := fn_in w 9999 t n cs h
theorem func_neq (n : Nat) (cs : Array Value) (w : World) : (binOp .neq 165 (.func (.func n) #[] cs) .nilFunc).run Tryz.prog w = .ok (.bool true) w := by
 simp [binOp, fn_eq w 165 (.func n) cs Tryz.underlying165]
theorem goesV_ {P : Program} {ops : Array Oper} {Q : Exit → Act → World → Prop} {rest : List Oper} {oi : Oper} {a : Act} {w : World} (N : Option Tmp) (hd : oi.dst = N) (hw : Region.wanted oi (yielded ops a.tmps) = true) {x : Operand} {kf : FuncId} {xs : Array Operand} {ts : Array TypeId} {caps : Array Value} (hop : oi.op = .call { callee := .value x, args := xs, argTypes := ts })
  (hfn : ∃ fn, P.funcs[kf]? = some fn ∧ (fn.name == "runtime.NumGoroutine") = false ∧ fn.body.isSome = true) (args : Array Value) (hx : a.eval x = .func (.func kf) #[] caps) (hargs : xs.map a.eval = args)
  (h : Calls P kf (args ++ caps) w fun e w' => ∃ v, e = .returned v ∧ wpList P ops Q rest (a.put N v) w') : wpList P ops Q (oi :: rest) a w := by
 obtain ⟨fn, hf, hname, hb⟩ := hfn
 have he := enters_ hf hname hb (args ++ caps) w
 have hrun : (execOp a.eval oi).run P w = .ok (.enter kf (args ++ caps)) w := by
  unfold execOp
  simp [hop, resolve, Deferred.ofValue, invoke, hx, hargs, he]
 subst hd
 unfold wpList
 rw [if_pos hw]
 unfold Oper.wp
 rw [hrun, Oper.upon_enter]
 refine .inl (h.mono fun e w'' hh => ?_)
 obtain ⟨v, rfl, hk⟩ := hh
 exact hk
def kept (set : Bool) (r : Run) (s : Bool) (v : Int) : Run := if set && s then r.setA v else r
theorem conv_u32 (x : Int) : wrap64 x % 4294967296 = u32 x := by unfold u32 wrap64; omega
def Tells (B p pm g : Nat) (r : Run) (set : Bool) (is : Int → Bool) (kf : Nat) (caps : Array Value) (w : World) : Prop :=
 (∃ fn, Tryz.prog.funcs[kf]? = some fn ∧ (fn.name == "runtime.NumGoroutine") = false ∧ fn.body.isSome = true) ∧
 ∀ (w1 : World) (v : Int), W32 v → Fr B p g w w1 → At B w1 p pm g r → Calls Tryz.prog kf (#[.int .u32 v] ++ caps) w1 fun e w2 => e = .returned (.bool (is v)) ∧ At B w2 p pm g (kept set r (is v) v) ∧ Fr B p g w1 w2
def putAt (w : World) (k : Nat) (a : Acc) : World := ((((w.setCell ⟨k, 0, none⟩ (.int .i64 a.kind)).setCell ⟨k, 1, none⟩ (.int .i64 a.cell)).setCell ⟨k, 2, none⟩ (.int .u32 a.x)).setCell ⟨k, 3, none⟩ (.int .u32 a.y)).setCell ⟨k, 4, none⟩ (.int .u32 a.old)
theorem putAt_blk {w : World} {k : Nat} {c0 c1 c2 c3 c4 : Value} {t : TypeId} (h : w.heap[k]? = some (.cells #[c0, c1, c2, c3, c4] t (0, 0))) (a : Acc) : (putAt w k a).heap[k]? = some (.cells #[.int .i64 a.kind, .int .i64 a.cell, .int .u32 a.x, .int .u32 a.y, .int .u32 a.old] t (0, 0)) := by
 have h1 := blk_set h 0 (.int .i64 a.kind)
 have h2 := blk_set h1 1 (.int .i64 a.cell)
 have h3 := blk_set h2 2 (.int .u32 a.x)
 have h4 := blk_set h3 3 (.int .u32 a.y)
 exact blk_set h4 4 (.int .u32 a.old)
theorem putAt_far (w : World) (k : Nat) (a : Acc) (j : Nat) (hj : j ≠ k) : (putAt w k a).heap[j]? = w.heap[j]? := by
 unfold putAt
 rw [Below.heap_setCell _ _ _ _ hj, Below.heap_setCell _ _ _ _ hj, Below.heap_setCell _ _ _ _ hj, Below.heap_setCell _ _ _ _ hj, Below.heap_setCell _ _ _ _ hj]
theorem At.putAt (h : At B w p pm g r) {k : Nat} {c0 c1 c2 c3 c4 : Value} {t : TypeId} (hk : w.heap[k]? = some (.cells #[c0, c1, c2, c3, c4] t (0, 0))) (ht : t ≠ 44) (h1 : k ≠ p) (h2 : k ≠ pm) (h3 : k ≠ g) (a : Acc) : At B (Wo.putAt w k a) p pm g r := by
 have e1 := blk_set hk 0 (.int .i64 a.kind)
 have e2 := blk_set e1 1 (.int .i64 a.cell)
 have e3 := blk_set e2 2 (.int .u32 a.x)
 have e4 := blk_set e3 3 (.int .u32 a.y)
 have a1 := h.far (a := ⟨k, 0, none⟩) hk ht h1 h2 h3 (.int .i64 a.kind)
 have a2 := a1.far (a := ⟨k, 1, none⟩) e1 ht h1 h2 h3 (.int .i64 a.cell)
 have a3 := a2.far (a := ⟨k, 2, none⟩) e2 ht h1 h2 h3 (.int .u32 a.x)
 have a4 := a3.far (a := ⟨k, 3, none⟩) e3 ht h1 h2 h3 (.int .u32 a.y)
 exact a4.far (a := ⟨k, 4, none⟩) e4 ht h1 h2 h3 (.int .u32 a.old)
theorem Fr.putAt {w0 : World} (h : Fr B p g w0 w) {k : Nat} (hk : w0.heap.size ≤ k) (a : Acc) : Fr B p g w0 (Wo.putAt w k a) :=
 ((((h.set ⟨k, 0, none⟩ (.inr (.inr hk)) _).set ⟨k, 1, none⟩ (.inr (.inr hk)) _).set ⟨k, 2, none⟩ (.inr (.inr hk)) _).set ⟨k, 3, none⟩ (.inr (.inr hk)) _).set ⟨k, 4, none⟩ (.inr (.inr hk)) _
theorem doLoad_l (l : List Int) (c : Int) : (doAcc l 1 c 0 0).2.2 = l := by unfold doAcc; split <;> rfl
set_option maxHeartbeats 4000000 in
theorem look_seen (h : At B w p pm g r) (st c : Int) (kf : Nat) (caps : Array Value) (hs : stageOf r.mode st = 0) (hw32 : ∀ i, W32 (r.l.getD i 0)) (set : Bool) (is : Int → Bool) (hT : Tells B p pm g r set is kf caps w) (hi : is (doAcc r.l 1 c 0 0).1.old = true) : Calls Tryz.prog 148 #[.pointer (some ⟨pm, 0, none⟩), .agg #[.int .i64 r.n], .int .i64 r.mode, .int .i64 r.task, .agg #[.int .i64 st], .int .i64 c, .func (.func kf) #[] caps] w fun e w' => e = .returned (.tuple #[.agg #[.int .i64 0], accV (doAcc r.l 1 c 0 0).1, .bool true, .bool true]) ∧ At B w' p pm g (kept set r true (doAcc r.l 1 c 0 0).1.old) ∧ Fr B p g w w' := by
 have hd := fun W' (hW' : Mm W' pm g r.l) => do_walk hW' 1 c 0 0 0 (by omega)
 have hq := func_neq kf caps
 obtain ⟨a, ha⟩ : ∃ a, a = (doAcc r.l 1 c 0 0).1 := ⟨_, rfl⟩
 obtain ⟨ok, hok⟩ : ∃ ok, ok = (doAcc r.l 1 c 0 0).2.1 := ⟨_, rfl⟩
 have h32 := (words_do hw32 1 c w32_zero w32_zero).2
 rw [← ha] at h32
 replace h32 := Lib.hid h32
 clear hw32
 rw [doLoad_l, ← ha, ← hok] at hd
 rw [← ha] at hi ⊢
 clear ha hok
 obtain ⟨a0, a1, a2, a3, a4⟩ := a
 unfold accV at *
 replace hd := Lib.hid hd
 replace hT := Lib.hid hT
 have hiv : is a4 = true := hi
 replace hi := Lib.hid hi
 obtain ⟨b, hb⟩ : ∃ b, b = w.heap.size := ⟨_, rfl⟩
 obtain ⟨W, hW⟩ : ∃ W, W = (((w.alloc (.cells #[.int .i64 r.n] 94)).alloc (.cells #[.int .i64 st] 47)).alloc (.cells #[.int .i64 0] 47)).alloc (.cells #[.int .i64 0, .int .i64 0, .int .u32 0, .int .u32 0, .int .u32 0] 38) := ⟨_, rfl⟩
 have hA : At B W p pm g r := by rw [hW]; exact (((h.alloc _).alloc _).alloc _).alloc _
 have hF : Fr B p g w W := by rw [hW]; exact ((((Fr.refl B p g w).alloc _).alloc _).alloc _).alloc _
 have hb0 : W.heap[b]? = some (.cells #[.int .i64 r.n] 94 (0, 0)) := by rw [hW, hb]; exact blk_alloc (blk_alloc (blk_alloc (heap_alloc_new _ _) _) _) _
 have hb1 : W.heap[b + 1]? = some (.cells #[.int .i64 st] 47 (0, 0)) := by
  rw [hW, hb]
  refine blk_alloc (blk_alloc ?_ _) _
  simpa using heap_alloc_new (w.alloc (.cells #[.int .i64 r.n] 94)) (.cells #[.int .i64 st] 47)
 have hb2 : W.heap[b + 1 + 1]? = some (.cells #[.int .i64 0] 47 (0, 0)) := by
  rw [hW, hb]
  refine blk_alloc ?_ _
  simpa using heap_alloc_new ((w.alloc (.cells #[.int .i64 r.n] 94)).alloc (.cells #[.int .i64 st] 47)) (.cells #[.int .i64 0] 47)
 have hb3 : W.heap[b + 1 + 1 + 1]? = some (.cells #[.int .i64 0, .int .i64 0, .int .u32 0, .int .u32 0, .int .u32 0] 38 (0, 0)) := by
  rw [hW, hb]
  simpa using heap_alloc_new (((w.alloc (.cells #[.int .i64 r.n] 94)).alloc (.cells #[.int .i64 st] 47)).alloc (.cells #[.int .i64 0] 47)) (.cells #[.int .i64 0, .int .i64 0, .int .u32 0, .int .u32 0, .int .u32 0] 38)
 have hlo := h.lo
 have hlt := h.lt
 have hbs : w.heap.size ≤ b := Nat.le_of_eq hb.symm
 have n0p : b ≠ p := by omega
 have n0g : b ≠ g := by omega
 have n1p : b + 1 ≠ p := by omega
 have n1g : b + 1 ≠ g := by omega
 have n2p : b + 1 + 1 ≠ p := by omega
 have n2g : b + 1 + 1 ≠ g := by omega
 have n2m : b + 1 + 1 ≠ pm := by omega
 have n3p : b + 1 + 1 + 1 ≠ p := by omega
 have n3g : b + 1 + 1 + 1 ≠ g := by omega
 have n3m : b + 1 + 1 + 1 ≠ pm := by omega
 have n32 : b + 1 + 1 + 1 ≠ b + 1 + 1 := by omega
 have n23 : b + 1 + 1 ≠ b + 1 + 1 + 1 := by omega
 have q1 := cell_of_heap (j := 0) hb1 rfl
 have hst := stage_walk r.mode st W
 rw [hs] at hst
 go_enter Tryz.func148, Tryz.ntmps148
 go_upto_region 1 with (fail)
 rw [← hW, ← hb]
 replace h := Lib.hid h
 replace hb := Lib.hid hb
 replace hW := Lib.hid hW
 replace hA := Lib.hid hA
 replace hF := Lib.hid hF
 replace hb0 := Lib.hid hb0
 replace hb1 := Lib.hid hb1
 replace hb2 := Lib.hid hb2
 replace hb3 := Lib.hid hb3
 replace hbs := Lib.hid hbs
 replace hs := Lib.hid hs
 clear hlo hlt
 go_upto_region 25 with (first
  | (go_at_call 140; refine hst.mono ?_; rintro e w1 ⟨rfl, hB1⟩; have hAa := hA.out.below hB1; have f1 := Fr.of_below (B := B) (p := p) (g := g) hB1; have hFa := hF.out.trans f1; have k0a := Fr.keep f1 hb0.out n0p n0g (by decide); have k2a := Fr.keep f1 hb2.out n2p n2g (by decide); have k3a := Fr.keep f1 hb3.out n3p n3g (by decide); clear q1 f1 hB1; have q0 := cell_of_heap (j := 0) k0a rfl; have s0 := cell_of_heap (j := 0) k2a rfl; have t0 := cell_of_heap (j := 0) k3a rfl; have t1 := cell_of_heap (j := 1) k3a rfl; have t2 := cell_of_heap (j := 2) k3a rfl; have t3 := cell_of_heap (j := 3) k3a rfl; have t4 := cell_of_heap (j := 4) k3a rfl; have y0 := blk_frozen k3a 0; have y1 := blk_frozen k3a 1; have y2 := blk_frozen k3a 2; have y3 := blk_frozen k3a 3; have y4 := blk_frozen k3a 4; have x0 := blk_frozen k2a 0; replace k0a := Lib.hid k0a; replace k2a := Lib.hid k2a; replace k3a := Lib.hid k3a; replace hAa := Lib.hid hAa; replace hFa := Lib.hid hFa)
  | (go_at_call 185; refine (hd.out _ hAa.out.mem).mono ?_; rintro e w2 ⟨rfl, hmb, hBb⟩; have hAb := hAa.out.mem_to hmb hBb; have fb := Fr.of_but (B := B) (p := p) hBb; have hFb := hFa.out.trans fb; clear q0 s0 t0 t1 t2 t3 t4 y0 y1 y2 y3 y4 x0; have k0b := Fr.keep fb k0a.out n0p n0g (by decide); have k2b := Fr.keep fb k2a.out n2p n2g (by decide); have k3b := Fr.keep fb k3a.out n3p n3g (by decide); clear fb hmb hBb; have q0 := cell_of_heap (j := 0) k0b rfl; have s0 := cell_of_heap (j := 0) k2b rfl; have t0 := cell_of_heap (j := 0) k3b rfl; have t1 := cell_of_heap (j := 1) k3b rfl; have t2 := cell_of_heap (j := 2) k3b rfl; have t3 := cell_of_heap (j := 3) k3b rfl; have t4 := cell_of_heap (j := 4) k3b rfl; have y0 := blk_frozen k3b 0; have y1 := blk_frozen k3b 1; have y2 := blk_frozen k3b 2; have y3 := blk_frozen k3b 3; have y4 := blk_frozen k3b 4; have x0 := blk_frozen k2b 0; replace k0b := Lib.hid k0b; replace k2b := Lib.hid k2b; replace k3b := Lib.hid k3b; replace hAb := Lib.hid hAb; replace hFb := Lib.hid hFb)
  | ((with_reducible refine gate_dst (N := 40) rfl ?_); go_must (refine goesV_ (some 40) rfl rfl (kf := kf) (caps := caps) rfl hT.out.1 #[.int .u32 a4] rfl (by simp only [List.map_toArray, List.map_cons, List.map_nil]; rfl) ?_; refine (hT.out.2 _ a4 h32.out ?cF ?cA).mono ?_; (case cF => (have uAc := At.putAt (hAb.out) k3b.out (by decide) n3p n3m n3g ⟨a0, a1, a2, a3, a4⟩; have uFc := Fr.putAt (hFb.out) (k := b + 1 + 1 + 1) (by have := hbs.out; omega) ⟨a0, a1, a2, a3, a4⟩; have u3c := putAt_blk (k3b.out) ⟨a0, a1, a2, a3, a4⟩; have u2c := (putAt_far w2 (b + 1 + 1 + 1) ⟨a0, a1, a2, a3, a4⟩ (b + 1 + 1) n23).trans (k2b.out); have hAc := uAc; have hFc := uFc; have k2c := u2c; have k3c := u3c); exact hFc); (case cA => (have uAc := At.putAt (hAb.out) k3b.out (by decide) n3p n3m n3g ⟨a0, a1, a2, a3, a4⟩; have uFc := Fr.putAt (hFb.out) (k := b + 1 + 1 + 1) (by have := hbs.out; omega) ⟨a0, a1, a2, a3, a4⟩; have u3c := putAt_blk (k3b.out) ⟨a0, a1, a2, a3, a4⟩; have u2c := (putAt_far w2 (b + 1 + 1 + 1) ⟨a0, a1, a2, a3, a4⟩ (b + 1 + 1) n23).trans (k2b.out); have hAc := uAc; have hFc := uFc; have k2c := u2c; have k3c := u3c); exact hAc); rintro e w3 ⟨rfl, hAd, fd⟩; rw [hiv]; rw [hiv] at hAd; refine ⟨_, rfl, ?_⟩; have uAc := At.putAt (hAb.out) k3b.out (by decide) n3p n3m n3g ⟨a0, a1, a2, a3, a4⟩; have uFc := Fr.putAt (hFb.out) (k := b + 1 + 1 + 1) (by have := hbs.out; omega) ⟨a0, a1, a2, a3, a4⟩; have u3c := putAt_blk (k3b.out) ⟨a0, a1, a2, a3, a4⟩; have u2c := (putAt_far w2 (b + 1 + 1 + 1) ⟨a0, a1, a2, a3, a4⟩ (b + 1 + 1) n23).trans (k2b.out); have hAc := uAc; have hFc := uFc; have k2c := u2c; have k3c := u3c; have hFd := hFc.trans fd; clear q0 s0 t0 t1 t2 t3 t4 y0 y1 y2 y3 y4 x0; have k0c := (putAt_far w2 (b + 1 + 1 + 1) ⟨a0, a1, a2, a3, a4⟩ b (by omega)).trans k0b.out; replace k0c := Lib.hid k0c; replace k2c := Lib.hid k2c; replace k3c := Lib.hid k3c; have k0d := Fr.keep fd k0c.out n0p n0g (by decide); have k2d := Fr.keep fd k2c.out n2p n2g (by decide); have k3d := Fr.keep fd k3c.out n3p n3g (by decide); clear fd hAc hFc uAc uFc u3c u2c k2c k3c k0c; have q0 := cell_of_heap (j := 0) k0d rfl; have s0 := cell_of_heap (j := 0) k2d rfl; have t0 := cell_of_heap (j := 0) k3d rfl; have t1 := cell_of_heap (j := 1) k3d rfl; have t2 := cell_of_heap (j := 2) k3d rfl; have t3 := cell_of_heap (j := 3) k3d rfl; have t4 := cell_of_heap (j := 4) k3d rfl; have y0 := blk_frozen k3d 0; have y1 := blk_frozen k3d 1; have y2 := blk_frozen k3d 2; have y3 := blk_frozen k3d 3; have y4 := blk_frozen k3d 4; have x0 := blk_frozen k2d 0; replace k0d := Lib.hid k0d; replace k2d := Lib.hid k2d; replace k3d := Lib.hid k3d; replace hAd := Lib.hid hAd; replace hFd := Lib.hid hFd)))
 have hAZ := hAd.out
 have hFZ := hFd.out
 have k2Z := k2d.out
 have k3Z := k3d.out
 replace k2Z : w3.heap[b + 1 + 1]? = some (.cells #[.int .i64 0] 47 (0, 0)) := k2Z
 replace k3Z : w3.heap[b + 1 + 1 + 1]? = some (.cells #[.int .i64 a0, .int .i64 a1, .int .u32 a2, .int .u32 a3, .int .u32 a4] 38 (0, 0)) := k3Z
 have g2 := blk_drew k2Z
 have g3 := blk_drew k3Z
 have i0 := cell_of_heap (j := 0) g2 rfl
 have j0 := cell_of_heap (j := 0) g3 rfl
 have j1 := cell_of_heap (j := 1) g3 rfl
 have j2 := cell_of_heap (j := 2) g3 rfl
 have j3 := cell_of_heap (j := 3) g3 rfl
 have j4 := cell_of_heap (j := 4) g3 rfl
 have z2 := blk_frozen k2Z 0
 have z30 := blk_frozen k3Z 0
 have z31 := blk_frozen k3Z 1
 have z32 := blk_frozen k3Z 2
 have z33 := blk_frozen k3Z 3
 have z34 := blk_frozen k3Z 4
 have i90 := cell_of_heap (j := 0) k2Z rfl
 have j90 := cell_of_heap (j := 0) k3Z rfl
 have j91 := cell_of_heap (j := 1) k3Z rfl
 have j92 := cell_of_heap (j := 2) k3Z rfl
 have j93 := cell_of_heap (j := 3) k3Z rfl
 have j94 := cell_of_heap (j := 4) k3Z rfl
 refine start_ (n := 8) (S := fun w' => w'.cell? ⟨b + 1 + 1, 0, none⟩ = some (.int .i64 0) ∧ w'.cell? ⟨b + 1 + 1 + 1, 0, none⟩ = some (.int .i64 a0) ∧ w'.cell? ⟨b + 1 + 1 + 1, 1, none⟩ = some (.int .i64 a1) ∧ w'.cell? ⟨b + 1 + 1 + 1, 2, none⟩ = some (.int .u32 a2) ∧ w'.cell? ⟨b + 1 + 1 + 1, 3, none⟩ = some (.int .u32 a3) ∧ w'.cell? ⟨b + 1 + 1 + 1, 4, none⟩ = some (.int .u32 a4)) (ds := [5]) #[false, false, false, false, false, false, false, false] (by kernel_rfl) rfl rfl ⟨i0, j0, j1, j2, j3, j4⟩ (fun hHeld => ?_)
 refine pu_ 2 98 (mk 8 4) rfl rfl ?_
 refine pu_ 3 99 (mk 8 12) rfl rfl ?_
 refine take_ (i := 0) (N := some 96) (v := ?_) (a' := ?_) (mk 8 13) rfl rfl (by kernel_rfl) (fun _ _ _ h => h) (Or.inl ⟨by rfl, ?_⟩) hHeld ?_ ?_
 rotate_left
 ·rintro w' ⟨s0, s1, s2, s3, s4, s5⟩
  go_simp
  with_reducible rfl
 rotate_left
 ·exact e4
 refine take_ (i := 1) (N := some 97) (v := ?_) (a' := ?_) (mk 8 15) rfl rfl (by kernel_rfl) (fun _ _ _ h => h) (Or.inl ⟨by rfl, ?_⟩) hHeld ?_ ?_
 rotate_left
 ·rintro w' ⟨s0, s1, s2, s3, s4, s5⟩
  go_simp
  with_reducible rfl
 rotate_left
 ·exact e4
 refine one_ (i := 4) (N := none) (mk 8 31) rfl rfl (by kernel_rfl) (by decide) (fun K hK => ?_)
 refine skip_ (w1 := ?_) (by rfl) rfl ?_ ?_
 rotate_left
 ·go_simp
  rfl
 refine hK.out _ _ ⟨cell_of_heap (blk_drew (blk_set k2Z 0 (.int .i64 0))) rfl, cell_of_heap (blk_drew (blk_far k3Z (p := ⟨b + 1 + 1, 0, none⟩) n32 (.int .i64 0))) rfl, cell_of_heap (blk_drew (blk_far k3Z (p := ⟨b + 1 + 1, 0, none⟩) n32 (.int .i64 0))) rfl, cell_of_heap (blk_drew (blk_far k3Z (p := ⟨b + 1 + 1, 0, none⟩) n32 (.int .i64 0))) rfl, cell_of_heap (blk_drew (blk_far k3Z (p := ⟨b + 1 + 1, 0, none⟩) n32 (.int .i64 0))) rfl, cell_of_heap (blk_drew (blk_far k3Z (p := ⟨b + 1 + 1, 0, none⟩) n32 (.int .i64 0))) rfl⟩ (fun hHeld => ?_)
 clear hK K
 refine last_ (i := 5) (N := none) (mk 8 63) rfl rfl (by kernel_rfl) (by decide) (fun K hK => ?_)
 refine skip_ (w1 := ?_) (by rfl) rfl ?_ ?_
 rotate_left
 ·go_simp
  rfl
 refine hK.out _ _ ?_
 clear hK K
 refine pu_ 6 16 (mk 8 127) rfl rfl ?_
 refine pu_ 7 17 (mk 8 255) rfl rfl ?_
 refine done_ (by kernel_rfl) ?_
 have wA := At.far (a := ⟨b + 1 + 1, 0, none⟩) hAZ k2Z (by decide) n2p n2m n2g (.int .i64 0)
 have wF := Fr.set hFZ ⟨b + 1 + 1, 0, none⟩ (.inr (.inr (by show w.heap.size ≤ b + 1 + 1; have := hbs.out; omega))) (.int .i64 0)
 have w2 := blk_set k2Z 0 (.int .i64 0)
 have w3 := blk_far k3Z (p := ⟨b + 1 + 1, 0, none⟩) n32 (.int .i64 0)
 have xA := (At.putAt wA w3 (by decide) n3p n3m n3g ⟨a0, a1, a2, a3, a4⟩).drew
 have xF := (Fr.putAt wF (k := b + 1 + 1 + 1) (by have := hbs.out; omega) ⟨a0, a1, a2, a3, a4⟩).drew
 have x3 := blk_drew (putAt_blk w3 ⟨a0, a1, a2, a3, a4⟩)
 have x2 := blk_drew ((putAt_far _ (b + 1 + 1 + 1) ⟨a0, a1, a2, a3, a4⟩ (b + 1 + 1) n23).trans w2)
 replace wA := Lib.hid wA
 replace wF := Lib.hid wF
 replace w2 := Lib.hid w2
 replace w3 := Lib.hid w3
 replace xA := Lib.hid xA
 replace xF := Lib.hid xF
 replace x2 := Lib.hid x2
 replace x3 := Lib.hid x3
 go_wp2
 (try simp only [Exit.inBlock, Exit.then])
 refine bodyPost_ret (results_list (vs := [.agg #[.int .i64 0], .agg #[.int .i64 a0, .int .i64 a1, .int .u32 a2, .int .u32 a3, .int .u32 a4], .bool true, .bool true]) rfl (by simp) (.cell (b + 1 + 1) 47 #[.int .i64 0] (0, 0) _ rfl x2.out Tryz.underlying47 rfl (by kernel_rfl) (.cell (b + 1 + 1 + 1) 38 #[.int .i64 a0, .int .i64 a1, .int .u32 a2, .int .u32 a3, .int .u32 a4] (0, 0) _ rfl x3.out Tryz.underlying38 rfl (by kernel_rfl) (.tmp (.tmp .nil))))) rfl ?_
 exact ⟨rfl, xA.out, xF.out⟩
set_option maxHeartbeats 4000000 in
theorem again_seen (h : At B w p pm g r) (st c : Int) (kf : Nat) (caps : Array Value) (hs : stageOf r.mode st = 2) (hw32 : ∀ i, W32 (r.l.getD i 0)) (set : Bool) (is : Int → Bool) (hT : Tells B p pm g r set is kf caps w) (hi : is (doAcc r.l 1 c 0 0).1.old = true) : Calls Tryz.prog 148 #[.pointer (some ⟨pm, 0, none⟩), .agg #[.int .i64 r.n], .int .i64 r.mode, .int .i64 r.task, .agg #[.int .i64 st], .int .i64 c, .func (.func kf) #[] caps] w fun e w' => e = .returned (.tuple #[.agg #[.int .i64 4], accV (doAcc r.l 1 c 0 0).1, .bool true, .bool false]) ∧ At B w' p pm g (kept set r true (doAcc r.l 1 c 0 0).1.old) ∧ Fr B p g w w' := by
 have hd := fun W' (hW' : Mm W' pm g r.l) => do_walk hW' 1 c 0 0 0 (by omega)
 have hq := func_neq kf caps
 obtain ⟨a, ha⟩ : ∃ a, a = (doAcc r.l 1 c 0 0).1 := ⟨_, rfl⟩
 obtain ⟨ok, hok⟩ : ∃ ok, ok = (doAcc r.l 1 c 0 0).2.1 := ⟨_, rfl⟩
 have h32 := (words_do hw32 1 c w32_zero w32_zero).2
 rw [← ha] at h32
 replace h32 := Lib.hid h32
 clear hw32
 rw [doLoad_l, ← ha, ← hok] at hd
 rw [← ha] at hi ⊢
 clear ha hok
 obtain ⟨a0, a1, a2, a3, a4⟩ := a
 unfold accV at *
 replace hd := Lib.hid hd
 replace hT := Lib.hid hT
 have hiv : is a4 = true := hi
 replace hi := Lib.hid hi
 obtain ⟨b, hb⟩ : ∃ b, b = w.heap.size := ⟨_, rfl⟩
 obtain ⟨W, hW⟩ : ∃ W, W = (((w.alloc (.cells #[.int .i64 r.n] 94)).alloc (.cells #[.int .i64 st] 47)).alloc (.cells #[.int .i64 0] 47)).alloc (.cells #[.int .i64 0, .int .i64 0, .int .u32 0, .int .u32 0, .int .u32 0] 38) := ⟨_, rfl⟩
 have hA : At B W p pm g r := by rw [hW]; exact (((h.alloc _).alloc _).alloc _).alloc _
 have hF : Fr B p g w W := by rw [hW]; exact ((((Fr.refl B p g w).alloc _).alloc _).alloc _).alloc _
 have hb0 : W.heap[b]? = some (.cells #[.int .i64 r.n] 94 (0, 0)) := by rw [hW, hb]; exact blk_alloc (blk_alloc (blk_alloc (heap_alloc_new _ _) _) _) _
 have hb1 : W.heap[b + 1]? = some (.cells #[.int .i64 st] 47 (0, 0)) := by
  rw [hW, hb]
  refine blk_alloc (blk_alloc ?_ _) _
  simpa using heap_alloc_new (w.alloc (.cells #[.int .i64 r.n] 94)) (.cells #[.int .i64 st] 47)
 have hb2 : W.heap[b + 1 + 1]? = some (.cells #[.int .i64 0] 47 (0, 0)) := by
  rw [hW, hb]
  refine blk_alloc ?_ _
  simpa using heap_alloc_new ((w.alloc (.cells #[.int .i64 r.n] 94)).alloc (.cells #[.int .i64 st] 47)) (.cells #[.int .i64 0] 47)
 have hb3 : W.heap[b + 1 + 1 + 1]? = some (.cells #[.int .i64 0, .int .i64 0, .int .u32 0, .int .u32 0, .int .u32 0] 38 (0, 0)) := by
  rw [hW, hb]
  simpa using heap_alloc_new (((w.alloc (.cells #[.int .i64 r.n] 94)).alloc (.cells #[.int .i64 st] 47)).alloc (.cells #[.int .i64 0] 47)) (.cells #[.int .i64 0, .int .i64 0, .int .u32 0, .int .u32 0, .int .u32 0] 38)
 have hlo := h.lo
 have hlt := h.lt
 have hbs : w.heap.size ≤ b := Nat.le_of_eq hb.symm
 have n0p : b ≠ p := by omega
 have n0g : b ≠ g := by omega
 have n1p : b + 1 ≠ p := by omega
 have n1g : b + 1 ≠ g := by omega
 have n2p : b + 1 + 1 ≠ p := by omega
 have n2g : b + 1 + 1 ≠ g := by omega
 have n2m : b + 1 + 1 ≠ pm := by omega
 have n3p : b + 1 + 1 + 1 ≠ p := by omega
 have n3g : b + 1 + 1 + 1 ≠ g := by omega
 have n3m : b + 1 + 1 + 1 ≠ pm := by omega
 have n32 : b + 1 + 1 + 1 ≠ b + 1 + 1 := by omega
 have n23 : b + 1 + 1 ≠ b + 1 + 1 + 1 := by omega
 have q1 := cell_of_heap (j := 0) hb1 rfl
 have hst := stage_walk r.mode st W
 rw [hs] at hst
 go_enter Tryz.func148, Tryz.ntmps148
 go_upto_region 1 with (fail)
 rw [← hW, ← hb]
 replace h := Lib.hid h
 replace hb := Lib.hid hb
 replace hW := Lib.hid hW
 replace hA := Lib.hid hA
 replace hF := Lib.hid hF
 replace hb0 := Lib.hid hb0
 replace hb1 := Lib.hid hb1
 replace hb2 := Lib.hid hb2
 replace hb3 := Lib.hid hb3
 replace hbs := Lib.hid hbs
 replace hs := Lib.hid hs
 clear hlo hlt
 go_upto_region 25 with (first
  | (go_at_call 140; refine hst.mono ?_; rintro e w1 ⟨rfl, hB1⟩; have hAa := hA.out.below hB1; have f1 := Fr.of_below (B := B) (p := p) (g := g) hB1; have hFa := hF.out.trans f1; have k0a := Fr.keep f1 hb0.out n0p n0g (by decide); have k2a := Fr.keep f1 hb2.out n2p n2g (by decide); have k3a := Fr.keep f1 hb3.out n3p n3g (by decide); clear q1 f1 hB1; have q0 := cell_of_heap (j := 0) k0a rfl; have s0 := cell_of_heap (j := 0) k2a rfl; have t0 := cell_of_heap (j := 0) k3a rfl; have t1 := cell_of_heap (j := 1) k3a rfl; have t2 := cell_of_heap (j := 2) k3a rfl; have t3 := cell_of_heap (j := 3) k3a rfl; have t4 := cell_of_heap (j := 4) k3a rfl; have y0 := blk_frozen k3a 0; have y1 := blk_frozen k3a 1; have y2 := blk_frozen k3a 2; have y3 := blk_frozen k3a 3; have y4 := blk_frozen k3a 4; have x0 := blk_frozen k2a 0; replace k0a := Lib.hid k0a; replace k2a := Lib.hid k2a; replace k3a := Lib.hid k3a; replace hAa := Lib.hid hAa; replace hFa := Lib.hid hFa)
  | (go_at_call 185; refine (hd.out _ hAa.out.mem).mono ?_; rintro e w2 ⟨rfl, hmb, hBb⟩; have hAb := hAa.out.mem_to hmb hBb; have fb := Fr.of_but (B := B) (p := p) hBb; have hFb := hFa.out.trans fb; clear q0 s0 t0 t1 t2 t3 t4 y0 y1 y2 y3 y4 x0; have k0b := Fr.keep fb k0a.out n0p n0g (by decide); have k2b := Fr.keep fb k2a.out n2p n2g (by decide); have k3b := Fr.keep fb k3a.out n3p n3g (by decide); clear fb hmb hBb; have q0 := cell_of_heap (j := 0) k0b rfl; have s0 := cell_of_heap (j := 0) k2b rfl; have t0 := cell_of_heap (j := 0) k3b rfl; have t1 := cell_of_heap (j := 1) k3b rfl; have t2 := cell_of_heap (j := 2) k3b rfl; have t3 := cell_of_heap (j := 3) k3b rfl; have t4 := cell_of_heap (j := 4) k3b rfl; have y0 := blk_frozen k3b 0; have y1 := blk_frozen k3b 1; have y2 := blk_frozen k3b 2; have y3 := blk_frozen k3b 3; have y4 := blk_frozen k3b 4; have x0 := blk_frozen k2b 0; replace k0b := Lib.hid k0b; replace k2b := Lib.hid k2b; replace k3b := Lib.hid k3b; replace hAb := Lib.hid hAb; replace hFb := Lib.hid hFb)
  | ((with_reducible refine gate_dst (N := 40) rfl ?_); go_must (refine goesV_ (some 40) rfl rfl (kf := kf) (caps := caps) rfl hT.out.1 #[.int .u32 a4] rfl (by simp only [List.map_toArray, List.map_cons, List.map_nil]; rfl) ?_; refine (hT.out.2 _ a4 h32.out ?cF ?cA).mono ?_; (case cF => (have uAc := At.putAt (hAb.out) k3b.out (by decide) n3p n3m n3g ⟨a0, a1, a2, a3, a4⟩; have uFc := Fr.putAt (hFb.out) (k := b + 1 + 1 + 1) (by have := hbs.out; omega) ⟨a0, a1, a2, a3, a4⟩; have u3c := putAt_blk (k3b.out) ⟨a0, a1, a2, a3, a4⟩; have u2c := (putAt_far w2 (b + 1 + 1 + 1) ⟨a0, a1, a2, a3, a4⟩ (b + 1 + 1) n23).trans (k2b.out); have hAc := uAc; have hFc := uFc; have k2c := u2c; have k3c := u3c); exact hFc); (case cA => (have uAc := At.putAt (hAb.out) k3b.out (by decide) n3p n3m n3g ⟨a0, a1, a2, a3, a4⟩; have uFc := Fr.putAt (hFb.out) (k := b + 1 + 1 + 1) (by have := hbs.out; omega) ⟨a0, a1, a2, a3, a4⟩; have u3c := putAt_blk (k3b.out) ⟨a0, a1, a2, a3, a4⟩; have u2c := (putAt_far w2 (b + 1 + 1 + 1) ⟨a0, a1, a2, a3, a4⟩ (b + 1 + 1) n23).trans (k2b.out); have hAc := uAc; have hFc := uFc; have k2c := u2c; have k3c := u3c); exact hAc); rintro e w3 ⟨rfl, hAd, fd⟩; rw [hiv]; rw [hiv] at hAd; refine ⟨_, rfl, ?_⟩; have uAc := At.putAt (hAb.out) k3b.out (by decide) n3p n3m n3g ⟨a0, a1, a2, a3, a4⟩; have uFc := Fr.putAt (hFb.out) (k := b + 1 + 1 + 1) (by have := hbs.out; omega) ⟨a0, a1, a2, a3, a4⟩; have u3c := putAt_blk (k3b.out) ⟨a0, a1, a2, a3, a4⟩; have u2c := (putAt_far w2 (b + 1 + 1 + 1) ⟨a0, a1, a2, a3, a4⟩ (b + 1 + 1) n23).trans (k2b.out); have hAc := uAc; have hFc := uFc; have k2c := u2c; have k3c := u3c; have hFd := hFc.trans fd; clear q0 s0 t0 t1 t2 t3 t4 y0 y1 y2 y3 y4 x0; have k0c := (putAt_far w2 (b + 1 + 1 + 1) ⟨a0, a1, a2, a3, a4⟩ b (by omega)).trans k0b.out; replace k0c := Lib.hid k0c; replace k2c := Lib.hid k2c; replace k3c := Lib.hid k3c; have k0d := Fr.keep fd k0c.out n0p n0g (by decide); have k2d := Fr.keep fd k2c.out n2p n2g (by decide); have k3d := Fr.keep fd k3c.out n3p n3g (by decide); clear fd hAc hFc uAc uFc u3c u2c k2c k3c k0c; have q0 := cell_of_heap (j := 0) k0d rfl; have s0 := cell_of_heap (j := 0) k2d rfl; have t0 := cell_of_heap (j := 0) k3d rfl; have t1 := cell_of_heap (j := 1) k3d rfl; have t2 := cell_of_heap (j := 2) k3d rfl; have t3 := cell_of_heap (j := 3) k3d rfl; have t4 := cell_of_heap (j := 4) k3d rfl; have y0 := blk_frozen k3d 0; have y1 := blk_frozen k3d 1; have y2 := blk_frozen k3d 2; have y3 := blk_frozen k3d 3; have y4 := blk_frozen k3d 4; have x0 := blk_frozen k2d 0; replace k0d := Lib.hid k0d; replace k2d := Lib.hid k2d; replace k3d := Lib.hid k3d; replace hAd := Lib.hid hAd; replace hFd := Lib.hid hFd)))
 have vAZ := At.far (a := ⟨b + 1 + 1, 0, none⟩) (hAd.out) (k2d.out) (by decide) n2p n2m n2g (.int .i64 4)
 have vFZ := Fr.set (hFd.out) ⟨b + 1 + 1, 0, none⟩ (.inr (.inr (by show w.heap.size ≤ b + 1 + 1; have := hbs.out; omega))) (.int .i64 4)
 have v2Z := blk_set (k2d.out) 0 (.int .i64 4)
 have v3Z := blk_far (k3d.out) (p := ⟨b + 1 + 1, 0, none⟩) n32 (.int .i64 4)
 have hAZ := vAZ
 have hFZ := vFZ
 have k2Z := v2Z
 have k3Z := v3Z
 obtain ⟨W4, hW4⟩ : ∃ W4, W4 = (World.setCell w3 ⟨b + 1 + 1, 0, none⟩ (.int .i64 4)) := ⟨_, rfl⟩
 rw [← hW4]
 rw [← hW4] at hAZ hFZ k2Z k3Z
 replace k2Z : W4.heap[b + 1 + 1]? = some (.cells #[.int .i64 4] 47 (0, 0)) := k2Z
 replace k3Z : W4.heap[b + 1 + 1 + 1]? = some (.cells #[.int .i64 a0, .int .i64 a1, .int .u32 a2, .int .u32 a3, .int .u32 a4] 38 (0, 0)) := k3Z
 clear hW4 vAZ vFZ v2Z v3Z
 have g2 := blk_drew k2Z
 have g3 := blk_drew k3Z
 have i0 := cell_of_heap (j := 0) g2 rfl
 have j0 := cell_of_heap (j := 0) g3 rfl
 have j1 := cell_of_heap (j := 1) g3 rfl
 have j2 := cell_of_heap (j := 2) g3 rfl
 have j3 := cell_of_heap (j := 3) g3 rfl
 have j4 := cell_of_heap (j := 4) g3 rfl
 have z2 := blk_frozen k2Z 0
 have z30 := blk_frozen k3Z 0
 have z31 := blk_frozen k3Z 1
 have z32 := blk_frozen k3Z 2
 have z33 := blk_frozen k3Z 3
 have z34 := blk_frozen k3Z 4
 have i90 := cell_of_heap (j := 0) k2Z rfl
 have j90 := cell_of_heap (j := 0) k3Z rfl
 have j91 := cell_of_heap (j := 1) k3Z rfl
 have j92 := cell_of_heap (j := 2) k3Z rfl
 have j93 := cell_of_heap (j := 3) k3Z rfl
 have j94 := cell_of_heap (j := 4) k3Z rfl
 refine start_ (n := 8) (S := fun w' => w'.cell? ⟨b + 1 + 1, 0, none⟩ = some (.int .i64 4) ∧ w'.cell? ⟨b + 1 + 1 + 1, 0, none⟩ = some (.int .i64 a0) ∧ w'.cell? ⟨b + 1 + 1 + 1, 1, none⟩ = some (.int .i64 a1) ∧ w'.cell? ⟨b + 1 + 1 + 1, 2, none⟩ = some (.int .u32 a2) ∧ w'.cell? ⟨b + 1 + 1 + 1, 3, none⟩ = some (.int .u32 a3) ∧ w'.cell? ⟨b + 1 + 1 + 1, 4, none⟩ = some (.int .u32 a4)) (ds := [5]) #[false, false, false, false, false, false, false, false] (by kernel_rfl) rfl rfl ⟨i0, j0, j1, j2, j3, j4⟩ (fun hHeld => ?_)
 refine pu_ 2 98 (mk 8 4) rfl rfl ?_
 refine pu_ 3 99 (mk 8 12) rfl rfl ?_
 refine take_ (i := 0) (N := some 96) (v := ?_) (a' := ?_) (mk 8 13) rfl rfl (by kernel_rfl) (fun _ _ _ h => h) (Or.inl ⟨by rfl, ?_⟩) hHeld ?_ ?_
 rotate_left
 ·rintro w' ⟨s0, s1, s2, s3, s4, s5⟩
  go_simp
  with_reducible rfl
 rotate_left
 ·exact e4
 refine take_ (i := 1) (N := some 97) (v := ?_) (a' := ?_) (mk 8 15) rfl rfl (by kernel_rfl) (fun _ _ _ h => h) (Or.inl ⟨by rfl, ?_⟩) hHeld ?_ ?_
 rotate_left
 ·rintro w' ⟨s0, s1, s2, s3, s4, s5⟩
  go_simp
  with_reducible rfl
 rotate_left
 ·exact e4
 refine one_ (i := 4) (N := none) (mk 8 31) rfl rfl (by kernel_rfl) (by decide) (fun K hK => ?_)
 refine skip_ (w1 := ?_) (by rfl) rfl ?_ ?_
 rotate_left
 ·go_simp
  rfl
 refine hK.out _ _ ⟨cell_of_heap (blk_drew (blk_set k2Z 0 (.int .i64 4))) rfl, cell_of_heap (blk_drew (blk_far k3Z (p := ⟨b + 1 + 1, 0, none⟩) n32 (.int .i64 4))) rfl, cell_of_heap (blk_drew (blk_far k3Z (p := ⟨b + 1 + 1, 0, none⟩) n32 (.int .i64 4))) rfl, cell_of_heap (blk_drew (blk_far k3Z (p := ⟨b + 1 + 1, 0, none⟩) n32 (.int .i64 4))) rfl, cell_of_heap (blk_drew (blk_far k3Z (p := ⟨b + 1 + 1, 0, none⟩) n32 (.int .i64 4))) rfl, cell_of_heap (blk_drew (blk_far k3Z (p := ⟨b + 1 + 1, 0, none⟩) n32 (.int .i64 4))) rfl⟩ (fun hHeld => ?_)
 clear hK K
 refine last_ (i := 5) (N := none) (mk 8 63) rfl rfl (by kernel_rfl) (by decide) (fun K hK => ?_)
 refine skip_ (w1 := ?_) (by rfl) rfl ?_ ?_
 rotate_left
 ·go_simp
  rfl
 refine hK.out _ _ ?_
 clear hK K
 refine pu_ 6 16 (mk 8 127) rfl rfl ?_
 refine pu_ 7 17 (mk 8 255) rfl rfl ?_
 refine done_ (by kernel_rfl) ?_
 have wA := At.far (a := ⟨b + 1 + 1, 0, none⟩) hAZ k2Z (by decide) n2p n2m n2g (.int .i64 4)
 have wF := Fr.set hFZ ⟨b + 1 + 1, 0, none⟩ (.inr (.inr (by show w.heap.size ≤ b + 1 + 1; have := hbs.out; omega))) (.int .i64 4)
 have w2 := blk_set k2Z 0 (.int .i64 4)
 have w3 := blk_far k3Z (p := ⟨b + 1 + 1, 0, none⟩) n32 (.int .i64 4)
 have xA := (At.putAt wA w3 (by decide) n3p n3m n3g ⟨a0, a1, a2, a3, a4⟩).drew
 have xF := (Fr.putAt wF (k := b + 1 + 1 + 1) (by have := hbs.out; omega) ⟨a0, a1, a2, a3, a4⟩).drew
 have x3 := blk_drew (putAt_blk w3 ⟨a0, a1, a2, a3, a4⟩)
 have x2 := blk_drew ((putAt_far _ (b + 1 + 1 + 1) ⟨a0, a1, a2, a3, a4⟩ (b + 1 + 1) n23).trans w2)
 replace wA := Lib.hid wA
 replace wF := Lib.hid wF
 replace w2 := Lib.hid w2
 replace w3 := Lib.hid w3
 replace xA := Lib.hid xA
 replace xF := Lib.hid xF
 replace x2 := Lib.hid x2
 replace x3 := Lib.hid x3
 go_wp2
 (try simp only [Exit.inBlock, Exit.then])
 refine bodyPost_ret (results_list (vs := [.agg #[.int .i64 4], .agg #[.int .i64 a0, .int .i64 a1, .int .u32 a2, .int .u32 a3, .int .u32 a4], .bool true, .bool false]) rfl (by simp) (.cell (b + 1 + 1) 47 #[.int .i64 4] (0, 0) _ rfl x2.out Tryz.underlying47 rfl (by kernel_rfl) (.cell (b + 1 + 1 + 1) 38 #[.int .i64 a0, .int .i64 a1, .int .u32 a2, .int .u32 a3, .int .u32 a4] (0, 0) _ rfl x3.out Tryz.underlying38 rfl (by kernel_rfl) (.tmp (.tmp .nil))))) rfl ?_
 exact ⟨rfl, xA.out, xF.out⟩
set_option maxHeartbeats 4000000 in
theorem look_park (h : At B w p pm g r) (st c : Int) (kf : Nat) (caps : Array Value) (hs : stageOf r.mode st = 0) (hw32 : ∀ i, W32 (r.l.getD i 0)) (set : Bool) (is : Int → Bool) (hT : Tells B p pm g r set is kf caps w) (hi : is (doAcc r.l 1 c 0 0).1.old = false) (hm : r.mode = 2) : Calls Tryz.prog 148 #[.pointer (some ⟨pm, 0, none⟩), .agg #[.int .i64 r.n], .int .i64 r.mode, .int .i64 r.task, .agg #[.int .i64 st], .int .i64 c, .func (.func kf) #[] caps] w fun e w' => e = .returned (.tuple #[.agg #[.int .i64 1], accV (doAcc r.l 1 c 0 0).1, .bool false, .bool false]) ∧ At B w' p pm g (kept set r false (doAcc r.l 1 c 0 0).1.old) ∧ Fr B p g w w' := by
 have hd := fun W' (hW' : Mm W' pm g r.l) => do_walk hW' 1 c 0 0 0 (by omega)
 have hq := func_neq kf caps
 obtain ⟨a, ha⟩ : ∃ a, a = (doAcc r.l 1 c 0 0).1 := ⟨_, rfl⟩
 obtain ⟨ok, hok⟩ : ∃ ok, ok = (doAcc r.l 1 c 0 0).2.1 := ⟨_, rfl⟩
 have h32 := (words_do hw32 1 c w32_zero w32_zero).2
 rw [← ha] at h32
 replace h32 := Lib.hid h32
 clear hw32
 rw [doLoad_l, ← ha, ← hok] at hd
 rw [← ha] at hi ⊢
 clear ha hok
 obtain ⟨a0, a1, a2, a3, a4⟩ := a
 unfold accV at *
 replace hd := Lib.hid hd
 replace hT := Lib.hid hT
 have hiv : is a4 = false := hi
 replace hi := Lib.hid hi
 have hmb : (r.mode == 2) = true := by simp [hm]
 replace hm := Lib.hid hm
 obtain ⟨b, hb⟩ : ∃ b, b = w.heap.size := ⟨_, rfl⟩
 obtain ⟨W, hW⟩ : ∃ W, W = (((w.alloc (.cells #[.int .i64 r.n] 94)).alloc (.cells #[.int .i64 st] 47)).alloc (.cells #[.int .i64 0] 47)).alloc (.cells #[.int .i64 0, .int .i64 0, .int .u32 0, .int .u32 0, .int .u32 0] 38) := ⟨_, rfl⟩
 have hA : At B W p pm g r := by rw [hW]; exact (((h.alloc _).alloc _).alloc _).alloc _
 have hF : Fr B p g w W := by rw [hW]; exact ((((Fr.refl B p g w).alloc _).alloc _).alloc _).alloc _
 have hb0 : W.heap[b]? = some (.cells #[.int .i64 r.n] 94 (0, 0)) := by rw [hW, hb]; exact blk_alloc (blk_alloc (blk_alloc (heap_alloc_new _ _) _) _) _
 have hb1 : W.heap[b + 1]? = some (.cells #[.int .i64 st] 47 (0, 0)) := by
  rw [hW, hb]
  refine blk_alloc (blk_alloc ?_ _) _
  simpa using heap_alloc_new (w.alloc (.cells #[.int .i64 r.n] 94)) (.cells #[.int .i64 st] 47)
 have hb2 : W.heap[b + 1 + 1]? = some (.cells #[.int .i64 0] 47 (0, 0)) := by
  rw [hW, hb]
  refine blk_alloc ?_ _
  simpa using heap_alloc_new ((w.alloc (.cells #[.int .i64 r.n] 94)).alloc (.cells #[.int .i64 st] 47)) (.cells #[.int .i64 0] 47)
 have hb3 : W.heap[b + 1 + 1 + 1]? = some (.cells #[.int .i64 0, .int .i64 0, .int .u32 0, .int .u32 0, .int .u32 0] 38 (0, 0)) := by
  rw [hW, hb]
  simpa using heap_alloc_new (((w.alloc (.cells #[.int .i64 r.n] 94)).alloc (.cells #[.int .i64 st] 47)).alloc (.cells #[.int .i64 0] 47)) (.cells #[.int .i64 0, .int .i64 0, .int .u32 0, .int .u32 0, .int .u32 0] 38)
 have hlo := h.lo
 have hlt := h.lt
 have hbs : w.heap.size ≤ b := Nat.le_of_eq hb.symm
 have n0p : b ≠ p := by omega
 have n0g : b ≠ g := by omega
 have n1p : b + 1 ≠ p := by omega
 have n1g : b + 1 ≠ g := by omega
 have n2p : b + 1 + 1 ≠ p := by omega
 have n2g : b + 1 + 1 ≠ g := by omega
 have n2m : b + 1 + 1 ≠ pm := by omega
 have n3p : b + 1 + 1 + 1 ≠ p := by omega
 have n3g : b + 1 + 1 + 1 ≠ g := by omega
 have n3m : b + 1 + 1 + 1 ≠ pm := by omega
 have n32 : b + 1 + 1 + 1 ≠ b + 1 + 1 := by omega
 have n23 : b + 1 + 1 ≠ b + 1 + 1 + 1 := by omega
 have q1 := cell_of_heap (j := 0) hb1 rfl
 have hst := stage_walk r.mode st W
 rw [hs] at hst
 go_enter Tryz.func148, Tryz.ntmps148
 go_upto_region 1 with (fail)
 rw [← hW, ← hb]
 replace h := Lib.hid h
 replace hb := Lib.hid hb
 replace hW := Lib.hid hW
 replace hA := Lib.hid hA
 replace hF := Lib.hid hF
 replace hb0 := Lib.hid hb0
 replace hb1 := Lib.hid hb1
 replace hb2 := Lib.hid hb2
 replace hb3 := Lib.hid hb3
 replace hbs := Lib.hid hbs
 replace hs := Lib.hid hs
 clear hlo hlt
 go_upto_region 25 with (first
  | (go_at_call 140; refine hst.mono ?_; rintro e w1 ⟨rfl, hB1⟩; have hAa := hA.out.below hB1; have f1 := Fr.of_below (B := B) (p := p) (g := g) hB1; have hFa := hF.out.trans f1; have k0a := Fr.keep f1 hb0.out n0p n0g (by decide); have k2a := Fr.keep f1 hb2.out n2p n2g (by decide); have k3a := Fr.keep f1 hb3.out n3p n3g (by decide); clear q1 f1 hB1; have q0 := cell_of_heap (j := 0) k0a rfl; have s0 := cell_of_heap (j := 0) k2a rfl; have t0 := cell_of_heap (j := 0) k3a rfl; have t1 := cell_of_heap (j := 1) k3a rfl; have t2 := cell_of_heap (j := 2) k3a rfl; have t3 := cell_of_heap (j := 3) k3a rfl; have t4 := cell_of_heap (j := 4) k3a rfl; have y0 := blk_frozen k3a 0; have y1 := blk_frozen k3a 1; have y2 := blk_frozen k3a 2; have y3 := blk_frozen k3a 3; have y4 := blk_frozen k3a 4; have x0 := blk_frozen k2a 0; replace k0a := Lib.hid k0a; replace k2a := Lib.hid k2a; replace k3a := Lib.hid k3a; replace hAa := Lib.hid hAa; replace hFa := Lib.hid hFa)
  | (go_at_call 185; refine (hd.out _ hAa.out.mem).mono ?_; rintro e w2 ⟨rfl, hmb, hBb⟩; have hAb := hAa.out.mem_to hmb hBb; have fb := Fr.of_but (B := B) (p := p) hBb; have hFb := hFa.out.trans fb; clear q0 s0 t0 t1 t2 t3 t4 y0 y1 y2 y3 y4 x0; have k0b := Fr.keep fb k0a.out n0p n0g (by decide); have k2b := Fr.keep fb k2a.out n2p n2g (by decide); have k3b := Fr.keep fb k3a.out n3p n3g (by decide); clear fb hmb hBb; have q0 := cell_of_heap (j := 0) k0b rfl; have s0 := cell_of_heap (j := 0) k2b rfl; have t0 := cell_of_heap (j := 0) k3b rfl; have t1 := cell_of_heap (j := 1) k3b rfl; have t2 := cell_of_heap (j := 2) k3b rfl; have t3 := cell_of_heap (j := 3) k3b rfl; have t4 := cell_of_heap (j := 4) k3b rfl; have y0 := blk_frozen k3b 0; have y1 := blk_frozen k3b 1; have y2 := blk_frozen k3b 2; have y3 := blk_frozen k3b 3; have y4 := blk_frozen k3b 4; have x0 := blk_frozen k2b 0; replace k0b := Lib.hid k0b; replace k2b := Lib.hid k2b; replace k3b := Lib.hid k3b; replace hAb := Lib.hid hAb; replace hFb := Lib.hid hFb)
  | ((with_reducible refine gate_dst (N := 40) rfl ?_); go_must (refine goesV_ (some 40) rfl rfl (kf := kf) (caps := caps) rfl hT.out.1 #[.int .u32 a4] rfl (by simp only [List.map_toArray, List.map_cons, List.map_nil]; rfl) ?_; refine (hT.out.2 _ a4 h32.out ?cF ?cA).mono ?_; (case cF => (have uAc := At.putAt (hAb.out) k3b.out (by decide) n3p n3m n3g ⟨a0, a1, a2, a3, a4⟩; have uFc := Fr.putAt (hFb.out) (k := b + 1 + 1 + 1) (by have := hbs.out; omega) ⟨a0, a1, a2, a3, a4⟩; have u3c := putAt_blk (k3b.out) ⟨a0, a1, a2, a3, a4⟩; have u2c := (putAt_far w2 (b + 1 + 1 + 1) ⟨a0, a1, a2, a3, a4⟩ (b + 1 + 1) n23).trans (k2b.out); have hAc := uAc; have hFc := uFc; have k2c := u2c; have k3c := u3c); exact hFc); (case cA => (have uAc := At.putAt (hAb.out) k3b.out (by decide) n3p n3m n3g ⟨a0, a1, a2, a3, a4⟩; have uFc := Fr.putAt (hFb.out) (k := b + 1 + 1 + 1) (by have := hbs.out; omega) ⟨a0, a1, a2, a3, a4⟩; have u3c := putAt_blk (k3b.out) ⟨a0, a1, a2, a3, a4⟩; have u2c := (putAt_far w2 (b + 1 + 1 + 1) ⟨a0, a1, a2, a3, a4⟩ (b + 1 + 1) n23).trans (k2b.out); have hAc := uAc; have hFc := uFc; have k2c := u2c; have k3c := u3c); exact hAc); rintro e w3 ⟨rfl, hAd, fd⟩; rw [hiv]; rw [hiv] at hAd; refine ⟨_, rfl, ?_⟩; have uAc := At.putAt (hAb.out) k3b.out (by decide) n3p n3m n3g ⟨a0, a1, a2, a3, a4⟩; have uFc := Fr.putAt (hFb.out) (k := b + 1 + 1 + 1) (by have := hbs.out; omega) ⟨a0, a1, a2, a3, a4⟩; have u3c := putAt_blk (k3b.out) ⟨a0, a1, a2, a3, a4⟩; have u2c := (putAt_far w2 (b + 1 + 1 + 1) ⟨a0, a1, a2, a3, a4⟩ (b + 1 + 1) n23).trans (k2b.out); have hAc := uAc; have hFc := uFc; have k2c := u2c; have k3c := u3c; have hFd := hFc.trans fd; clear q0 s0 t0 t1 t2 t3 t4 y0 y1 y2 y3 y4 x0; have k0c := (putAt_far w2 (b + 1 + 1 + 1) ⟨a0, a1, a2, a3, a4⟩ b (by omega)).trans k0b.out; replace k0c := Lib.hid k0c; replace k2c := Lib.hid k2c; replace k3c := Lib.hid k3c; have k0d := Fr.keep fd k0c.out n0p n0g (by decide); have k2d := Fr.keep fd k2c.out n2p n2g (by decide); have k3d := Fr.keep fd k3c.out n3p n3g (by decide); clear fd hAc hFc uAc uFc u3c u2c k2c k3c k0c; have q0 := cell_of_heap (j := 0) k0d rfl; have s0 := cell_of_heap (j := 0) k2d rfl; have t0 := cell_of_heap (j := 0) k3d rfl; have t1 := cell_of_heap (j := 1) k3d rfl; have t2 := cell_of_heap (j := 2) k3d rfl; have t3 := cell_of_heap (j := 3) k3d rfl; have t4 := cell_of_heap (j := 4) k3d rfl; have y0 := blk_frozen k3d 0; have y1 := blk_frozen k3d 1; have y2 := blk_frozen k3d 2; have y3 := blk_frozen k3d 3; have y4 := blk_frozen k3d 4; have x0 := blk_frozen k2d 0; replace k0d := Lib.hid k0d; replace k2d := Lib.hid k2d; replace k3d := Lib.hid k3d; replace hAd := Lib.hid hAd; replace hFd := Lib.hid hFd)))
 have vAZ := At.far (a := ⟨b + 1 + 1, 0, none⟩) (hAd.out) (k2d.out) (by decide) n2p n2m n2g (.int .i64 1)
 have vFZ := Fr.set (hFd.out) ⟨b + 1 + 1, 0, none⟩ (.inr (.inr (by show w.heap.size ≤ b + 1 + 1; have := hbs.out; omega))) (.int .i64 1)
 have v2Z := blk_set (k2d.out) 0 (.int .i64 1)
 have v3Z := blk_far (k3d.out) (p := ⟨b + 1 + 1, 0, none⟩) n32 (.int .i64 1)
 have hAZ := vAZ
 have hFZ := vFZ
 have k2Z := v2Z
 have k3Z := v3Z
 obtain ⟨W4, hW4⟩ : ∃ W4, W4 = (World.setCell w3 ⟨b + 1 + 1, 0, none⟩ (.int .i64 1)) := ⟨_, rfl⟩
 rw [← hW4]
 rw [← hW4] at hAZ hFZ k2Z k3Z
 replace k2Z : W4.heap[b + 1 + 1]? = some (.cells #[.int .i64 1] 47 (0, 0)) := k2Z
 replace k3Z : W4.heap[b + 1 + 1 + 1]? = some (.cells #[.int .i64 a0, .int .i64 a1, .int .u32 a2, .int .u32 a3, .int .u32 a4] 38 (0, 0)) := k3Z
 clear hW4 vAZ vFZ v2Z v3Z
 have g2 := blk_drew k2Z
 have g3 := blk_drew k3Z
 have i0 := cell_of_heap (j := 0) g2 rfl
 have j0 := cell_of_heap (j := 0) g3 rfl
 have j1 := cell_of_heap (j := 1) g3 rfl
 have j2 := cell_of_heap (j := 2) g3 rfl
 have j3 := cell_of_heap (j := 3) g3 rfl
 have j4 := cell_of_heap (j := 4) g3 rfl
 have z2 := blk_frozen k2Z 0
 have z30 := blk_frozen k3Z 0
 have z31 := blk_frozen k3Z 1
 have z32 := blk_frozen k3Z 2
 have z33 := blk_frozen k3Z 3
 have z34 := blk_frozen k3Z 4
 have i90 := cell_of_heap (j := 0) k2Z rfl
 have j90 := cell_of_heap (j := 0) k3Z rfl
 have j91 := cell_of_heap (j := 1) k3Z rfl
 have j92 := cell_of_heap (j := 2) k3Z rfl
 have j93 := cell_of_heap (j := 3) k3Z rfl
 have j94 := cell_of_heap (j := 4) k3Z rfl
 refine start_ (n := 8) (S := fun w' => w'.cell? ⟨b + 1 + 1, 0, none⟩ = some (.int .i64 1) ∧ w'.cell? ⟨b + 1 + 1 + 1, 0, none⟩ = some (.int .i64 a0) ∧ w'.cell? ⟨b + 1 + 1 + 1, 1, none⟩ = some (.int .i64 a1) ∧ w'.cell? ⟨b + 1 + 1 + 1, 2, none⟩ = some (.int .u32 a2) ∧ w'.cell? ⟨b + 1 + 1 + 1, 3, none⟩ = some (.int .u32 a3) ∧ w'.cell? ⟨b + 1 + 1 + 1, 4, none⟩ = some (.int .u32 a4)) (ds := [5]) #[false, false, false, false, false, false, false, false] (by kernel_rfl) rfl rfl ⟨i0, j0, j1, j2, j3, j4⟩ (fun hHeld => ?_)
 refine pu_ 2 98 (mk 8 4) rfl rfl ?_
 refine pu_ 3 99 (mk 8 12) rfl rfl ?_
 refine take_ (i := 0) (N := some 96) (v := ?_) (a' := ?_) (mk 8 13) rfl rfl (by kernel_rfl) (fun _ _ _ h => h) (Or.inl ⟨by rfl, ?_⟩) hHeld ?_ ?_
 rotate_left
 ·rintro w' ⟨s0, s1, s2, s3, s4, s5⟩
  go_simp
  with_reducible rfl
 rotate_left
 ·exact e4
 refine take_ (i := 1) (N := some 97) (v := ?_) (a' := ?_) (mk 8 15) rfl rfl (by kernel_rfl) (fun _ _ _ h => h) (Or.inl ⟨by rfl, ?_⟩) hHeld ?_ ?_
 rotate_left
 ·rintro w' ⟨s0, s1, s2, s3, s4, s5⟩
  go_simp
  with_reducible rfl
 rotate_left
 ·exact e4
 refine one_ (i := 4) (N := none) (mk 8 31) rfl rfl (by kernel_rfl) (by decide) (fun K hK => ?_)
 refine skip_ (w1 := ?_) (by rfl) rfl ?_ ?_
 rotate_left
 ·go_simp
  rfl
 refine hK.out _ _ ⟨cell_of_heap (blk_drew (blk_set k2Z 0 (.int .i64 1))) rfl, cell_of_heap (blk_drew (blk_far k3Z (p := ⟨b + 1 + 1, 0, none⟩) n32 (.int .i64 1))) rfl, cell_of_heap (blk_drew (blk_far k3Z (p := ⟨b + 1 + 1, 0, none⟩) n32 (.int .i64 1))) rfl, cell_of_heap (blk_drew (blk_far k3Z (p := ⟨b + 1 + 1, 0, none⟩) n32 (.int .i64 1))) rfl, cell_of_heap (blk_drew (blk_far k3Z (p := ⟨b + 1 + 1, 0, none⟩) n32 (.int .i64 1))) rfl, cell_of_heap (blk_drew (blk_far k3Z (p := ⟨b + 1 + 1, 0, none⟩) n32 (.int .i64 1))) rfl⟩ (fun hHeld => ?_)
 clear hK K
 refine last_ (i := 5) (N := none) (mk 8 63) rfl rfl (by kernel_rfl) (by decide) (fun K hK => ?_)
 refine skip_ (w1 := ?_) (by rfl) rfl ?_ ?_
 rotate_left
 ·go_simp
  rfl
 refine hK.out _ _ ?_
 clear hK K
 refine pu_ 6 16 (mk 8 127) rfl rfl ?_
 refine pu_ 7 17 (mk 8 255) rfl rfl ?_
 refine done_ (by kernel_rfl) ?_
 have wA := At.far (a := ⟨b + 1 + 1, 0, none⟩) hAZ k2Z (by decide) n2p n2m n2g (.int .i64 1)
 have wF := Fr.set hFZ ⟨b + 1 + 1, 0, none⟩ (.inr (.inr (by show w.heap.size ≤ b + 1 + 1; have := hbs.out; omega))) (.int .i64 1)
 have w2 := blk_set k2Z 0 (.int .i64 1)
 have w3 := blk_far k3Z (p := ⟨b + 1 + 1, 0, none⟩) n32 (.int .i64 1)
 have xA := (At.putAt wA w3 (by decide) n3p n3m n3g ⟨a0, a1, a2, a3, a4⟩).drew
 have xF := (Fr.putAt wF (k := b + 1 + 1 + 1) (by have := hbs.out; omega) ⟨a0, a1, a2, a3, a4⟩).drew
 have x3 := blk_drew (putAt_blk w3 ⟨a0, a1, a2, a3, a4⟩)
 have x2 := blk_drew ((putAt_far _ (b + 1 + 1 + 1) ⟨a0, a1, a2, a3, a4⟩ (b + 1 + 1) n23).trans w2)
 replace wA := Lib.hid wA
 replace wF := Lib.hid wF
 replace w2 := Lib.hid w2
 replace w3 := Lib.hid w3
 replace xA := Lib.hid xA
 replace xF := Lib.hid xF
 replace x2 := Lib.hid x2
 replace x3 := Lib.hid x3
 go_wp2
 (try simp only [Exit.inBlock, Exit.then])
 refine bodyPost_ret (results_list (vs := [.agg #[.int .i64 1], .agg #[.int .i64 a0, .int .i64 a1, .int .u32 a2, .int .u32 a3, .int .u32 a4], .bool false, .bool false]) rfl (by simp) (.cell (b + 1 + 1) 47 #[.int .i64 1] (0, 0) _ rfl x2.out Tryz.underlying47 rfl (by kernel_rfl) (.cell (b + 1 + 1 + 1) 38 #[.int .i64 a0, .int .i64 a1, .int .u32 a2, .int .u32 a3, .int .u32 a4] (0, 0) _ rfl x3.out Tryz.underlying38 rfl (by kernel_rfl) (.tmp (.tmp .nil))))) rfl ?_
 exact ⟨rfl, xA.out, xF.out⟩
set_option maxHeartbeats 4000000 in
theorem look_spin (h : At B w p pm g r) (st c : Int) (kf : Nat) (caps : Array Value) (hs : stageOf r.mode st = 0) (hw32 : ∀ i, W32 (r.l.getD i 0)) (set : Bool) (is : Int → Bool) (hT : Tells B p pm g r set is kf caps w) (hi : is (doAcc r.l 1 c 0 0).1.old = false) (hm : r.mode ≠ 2) : Calls Tryz.prog 148 #[.pointer (some ⟨pm, 0, none⟩), .agg #[.int .i64 r.n], .int .i64 r.mode, .int .i64 r.task, .agg #[.int .i64 st], .int .i64 c, .func (.func kf) #[] caps] w fun e w' => e = .returned (.tuple #[.agg #[.int .i64 0], accV (doAcc r.l 1 c 0 0).1, .bool false, .bool false]) ∧ At B w' p pm g (kept set r false (doAcc r.l 1 c 0 0).1.old) ∧ Fr B p g w w' := by
 have hd := fun W' (hW' : Mm W' pm g r.l) => do_walk hW' 1 c 0 0 0 (by omega)
 have hq := func_neq kf caps
 obtain ⟨a, ha⟩ : ∃ a, a = (doAcc r.l 1 c 0 0).1 := ⟨_, rfl⟩
 obtain ⟨ok, hok⟩ : ∃ ok, ok = (doAcc r.l 1 c 0 0).2.1 := ⟨_, rfl⟩
 have h32 := (words_do hw32 1 c w32_zero w32_zero).2
 rw [← ha] at h32
 replace h32 := Lib.hid h32
 clear hw32
 rw [doLoad_l, ← ha, ← hok] at hd
 rw [← ha] at hi ⊢
 clear ha hok
 obtain ⟨a0, a1, a2, a3, a4⟩ := a
 unfold accV at *
 replace hd := Lib.hid hd
 replace hT := Lib.hid hT
 have hiv : is a4 = false := hi
 replace hi := Lib.hid hi
 have hmb : (r.mode == 2) = false := by simp [hm]
 replace hm := Lib.hid hm
 obtain ⟨b, hb⟩ : ∃ b, b = w.heap.size := ⟨_, rfl⟩
 obtain ⟨W, hW⟩ : ∃ W, W = (((w.alloc (.cells #[.int .i64 r.n] 94)).alloc (.cells #[.int .i64 st] 47)).alloc (.cells #[.int .i64 0] 47)).alloc (.cells #[.int .i64 0, .int .i64 0, .int .u32 0, .int .u32 0, .int .u32 0] 38) := ⟨_, rfl⟩
 have hA : At B W p pm g r := by rw [hW]; exact (((h.alloc _).alloc _).alloc _).alloc _
 have hF : Fr B p g w W := by rw [hW]; exact ((((Fr.refl B p g w).alloc _).alloc _).alloc _).alloc _
 have hb0 : W.heap[b]? = some (.cells #[.int .i64 r.n] 94 (0, 0)) := by rw [hW, hb]; exact blk_alloc (blk_alloc (blk_alloc (heap_alloc_new _ _) _) _) _
 have hb1 : W.heap[b + 1]? = some (.cells #[.int .i64 st] 47 (0, 0)) := by
  rw [hW, hb]
  refine blk_alloc (blk_alloc ?_ _) _
  simpa using heap_alloc_new (w.alloc (.cells #[.int .i64 r.n] 94)) (.cells #[.int .i64 st] 47)
 have hb2 : W.heap[b + 1 + 1]? = some (.cells #[.int .i64 0] 47 (0, 0)) := by
  rw [hW, hb]
  refine blk_alloc ?_ _
  simpa using heap_alloc_new ((w.alloc (.cells #[.int .i64 r.n] 94)).alloc (.cells #[.int .i64 st] 47)) (.cells #[.int .i64 0] 47)
 have hb3 : W.heap[b + 1 + 1 + 1]? = some (.cells #[.int .i64 0, .int .i64 0, .int .u32 0, .int .u32 0, .int .u32 0] 38 (0, 0)) := by
  rw [hW, hb]
  simpa using heap_alloc_new (((w.alloc (.cells #[.int .i64 r.n] 94)).alloc (.cells #[.int .i64 st] 47)).alloc (.cells #[.int .i64 0] 47)) (.cells #[.int .i64 0, .int .i64 0, .int .u32 0, .int .u32 0, .int .u32 0] 38)
 have hlo := h.lo
 have hlt := h.lt
 have hbs : w.heap.size ≤ b := Nat.le_of_eq hb.symm
 have n0p : b ≠ p := by omega
 have n0g : b ≠ g := by omega
 have n1p : b + 1 ≠ p := by omega
 have n1g : b + 1 ≠ g := by omega
 have n2p : b + 1 + 1 ≠ p := by omega
 have n2g : b + 1 + 1 ≠ g := by omega
 have n2m : b + 1 + 1 ≠ pm := by omega
 have n3p : b + 1 + 1 + 1 ≠ p := by omega
 have n3g : b + 1 + 1 + 1 ≠ g := by omega
 have n3m : b + 1 + 1 + 1 ≠ pm := by omega
 have n32 : b + 1 + 1 + 1 ≠ b + 1 + 1 := by omega
 have n23 : b + 1 + 1 ≠ b + 1 + 1 + 1 := by omega
 have q1 := cell_of_heap (j := 0) hb1 rfl
 have hst := stage_walk r.mode st W
 rw [hs] at hst
 go_enter Tryz.func148, Tryz.ntmps148
 go_upto_region 1 with (fail)
 rw [← hW, ← hb]
 replace h := Lib.hid h
 replace hb := Lib.hid hb
 replace hW := Lib.hid hW
 replace hA := Lib.hid hA
 replace hF := Lib.hid hF
 replace hb0 := Lib.hid hb0
 replace hb1 := Lib.hid hb1
 replace hb2 := Lib.hid hb2
 replace hb3 := Lib.hid hb3
 replace hbs := Lib.hid hbs
 replace hs := Lib.hid hs
 clear hlo hlt
 go_upto_region 25 with (first
  | (go_at_call 140; refine hst.mono ?_; rintro e w1 ⟨rfl, hB1⟩; have hAa := hA.out.below hB1; have f1 := Fr.of_below (B := B) (p := p) (g := g) hB1; have hFa := hF.out.trans f1; have k0a := Fr.keep f1 hb0.out n0p n0g (by decide); have k2a := Fr.keep f1 hb2.out n2p n2g (by decide); have k3a := Fr.keep f1 hb3.out n3p n3g (by decide); clear q1 f1 hB1; have q0 := cell_of_heap (j := 0) k0a rfl; have s0 := cell_of_heap (j := 0) k2a rfl; have t0 := cell_of_heap (j := 0) k3a rfl; have t1 := cell_of_heap (j := 1) k3a rfl; have t2 := cell_of_heap (j := 2) k3a rfl; have t3 := cell_of_heap (j := 3) k3a rfl; have t4 := cell_of_heap (j := 4) k3a rfl; have y0 := blk_frozen k3a 0; have y1 := blk_frozen k3a 1; have y2 := blk_frozen k3a 2; have y3 := blk_frozen k3a 3; have y4 := blk_frozen k3a 4; have x0 := blk_frozen k2a 0; replace k0a := Lib.hid k0a; replace k2a := Lib.hid k2a; replace k3a := Lib.hid k3a; replace hAa := Lib.hid hAa; replace hFa := Lib.hid hFa)
  | (go_at_call 185; refine (hd.out _ hAa.out.mem).mono ?_; rintro e w2 ⟨rfl, hmb, hBb⟩; have hAb := hAa.out.mem_to hmb hBb; have fb := Fr.of_but (B := B) (p := p) hBb; have hFb := hFa.out.trans fb; clear q0 s0 t0 t1 t2 t3 t4 y0 y1 y2 y3 y4 x0; have k0b := Fr.keep fb k0a.out n0p n0g (by decide); have k2b := Fr.keep fb k2a.out n2p n2g (by decide); have k3b := Fr.keep fb k3a.out n3p n3g (by decide); clear fb hmb hBb; have q0 := cell_of_heap (j := 0) k0b rfl; have s0 := cell_of_heap (j := 0) k2b rfl; have t0 := cell_of_heap (j := 0) k3b rfl; have t1 := cell_of_heap (j := 1) k3b rfl; have t2 := cell_of_heap (j := 2) k3b rfl; have t3 := cell_of_heap (j := 3) k3b rfl; have t4 := cell_of_heap (j := 4) k3b rfl; have y0 := blk_frozen k3b 0; have y1 := blk_frozen k3b 1; have y2 := blk_frozen k3b 2; have y3 := blk_frozen k3b 3; have y4 := blk_frozen k3b 4; have x0 := blk_frozen k2b 0; replace k0b := Lib.hid k0b; replace k2b := Lib.hid k2b; replace k3b := Lib.hid k3b; replace hAb := Lib.hid hAb; replace hFb := Lib.hid hFb)
  | ((with_reducible refine gate_dst (N := 40) rfl ?_); go_must (refine goesV_ (some 40) rfl rfl (kf := kf) (caps := caps) rfl hT.out.1 #[.int .u32 a4] rfl (by simp only [List.map_toArray, List.map_cons, List.map_nil]; rfl) ?_; refine (hT.out.2 _ a4 h32.out ?cF ?cA).mono ?_; (case cF => (have uAc := At.putAt (hAb.out) k3b.out (by decide) n3p n3m n3g ⟨a0, a1, a2, a3, a4⟩; have uFc := Fr.putAt (hFb.out) (k := b + 1 + 1 + 1) (by have := hbs.out; omega) ⟨a0, a1, a2, a3, a4⟩; have u3c := putAt_blk (k3b.out) ⟨a0, a1, a2, a3, a4⟩; have u2c := (putAt_far w2 (b + 1 + 1 + 1) ⟨a0, a1, a2, a3, a4⟩ (b + 1 + 1) n23).trans (k2b.out); have hAc := uAc; have hFc := uFc; have k2c := u2c; have k3c := u3c); exact hFc); (case cA => (have uAc := At.putAt (hAb.out) k3b.out (by decide) n3p n3m n3g ⟨a0, a1, a2, a3, a4⟩; have uFc := Fr.putAt (hFb.out) (k := b + 1 + 1 + 1) (by have := hbs.out; omega) ⟨a0, a1, a2, a3, a4⟩; have u3c := putAt_blk (k3b.out) ⟨a0, a1, a2, a3, a4⟩; have u2c := (putAt_far w2 (b + 1 + 1 + 1) ⟨a0, a1, a2, a3, a4⟩ (b + 1 + 1) n23).trans (k2b.out); have hAc := uAc; have hFc := uFc; have k2c := u2c; have k3c := u3c); exact hAc); rintro e w3 ⟨rfl, hAd, fd⟩; rw [hiv]; rw [hiv] at hAd; refine ⟨_, rfl, ?_⟩; have uAc := At.putAt (hAb.out) k3b.out (by decide) n3p n3m n3g ⟨a0, a1, a2, a3, a4⟩; have uFc := Fr.putAt (hFb.out) (k := b + 1 + 1 + 1) (by have := hbs.out; omega) ⟨a0, a1, a2, a3, a4⟩; have u3c := putAt_blk (k3b.out) ⟨a0, a1, a2, a3, a4⟩; have u2c := (putAt_far w2 (b + 1 + 1 + 1) ⟨a0, a1, a2, a3, a4⟩ (b + 1 + 1) n23).trans (k2b.out); have hAc := uAc; have hFc := uFc; have k2c := u2c; have k3c := u3c; have hFd := hFc.trans fd; clear q0 s0 t0 t1 t2 t3 t4 y0 y1 y2 y3 y4 x0; have k0c := (putAt_far w2 (b + 1 + 1 + 1) ⟨a0, a1, a2, a3, a4⟩ b (by omega)).trans k0b.out; replace k0c := Lib.hid k0c; replace k2c := Lib.hid k2c; replace k3c := Lib.hid k3c; have k0d := Fr.keep fd k0c.out n0p n0g (by decide); have k2d := Fr.keep fd k2c.out n2p n2g (by decide); have k3d := Fr.keep fd k3c.out n3p n3g (by decide); clear fd hAc hFc uAc uFc u3c u2c k2c k3c k0c; have q0 := cell_of_heap (j := 0) k0d rfl; have s0 := cell_of_heap (j := 0) k2d rfl; have t0 := cell_of_heap (j := 0) k3d rfl; have t1 := cell_of_heap (j := 1) k3d rfl; have t2 := cell_of_heap (j := 2) k3d rfl; have t3 := cell_of_heap (j := 3) k3d rfl; have t4 := cell_of_heap (j := 4) k3d rfl; have y0 := blk_frozen k3d 0; have y1 := blk_frozen k3d 1; have y2 := blk_frozen k3d 2; have y3 := blk_frozen k3d 3; have y4 := blk_frozen k3d 4; have x0 := blk_frozen k2d 0; replace k0d := Lib.hid k0d; replace k2d := Lib.hid k2d; replace k3d := Lib.hid k3d; replace hAd := Lib.hid hAd; replace hFd := Lib.hid hFd)))
 have hAZ := hAd.out
 have hFZ := hFd.out
 have k2Z := k2d.out
 have k3Z := k3d.out
 replace k2Z : w3.heap[b + 1 + 1]? = some (.cells #[.int .i64 0] 47 (0, 0)) := k2Z
 replace k3Z : w3.heap[b + 1 + 1 + 1]? = some (.cells #[.int .i64 a0, .int .i64 a1, .int .u32 a2, .int .u32 a3, .int .u32 a4] 38 (0, 0)) := k3Z
 have g2 := blk_drew k2Z
 have g3 := blk_drew k3Z
 have i0 := cell_of_heap (j := 0) g2 rfl
 have j0 := cell_of_heap (j := 0) g3 rfl
 have j1 := cell_of_heap (j := 1) g3 rfl
 have j2 := cell_of_heap (j := 2) g3 rfl
 have j3 := cell_of_heap (j := 3) g3 rfl
 have j4 := cell_of_heap (j := 4) g3 rfl
 have z2 := blk_frozen k2Z 0
 have z30 := blk_frozen k3Z 0
 have z31 := blk_frozen k3Z 1
 have z32 := blk_frozen k3Z 2
 have z33 := blk_frozen k3Z 3
 have z34 := blk_frozen k3Z 4
 have i90 := cell_of_heap (j := 0) k2Z rfl
 have j90 := cell_of_heap (j := 0) k3Z rfl
 have j91 := cell_of_heap (j := 1) k3Z rfl
 have j92 := cell_of_heap (j := 2) k3Z rfl
 have j93 := cell_of_heap (j := 3) k3Z rfl
 have j94 := cell_of_heap (j := 4) k3Z rfl
 refine start_ (n := 8) (S := fun w' => w'.cell? ⟨b + 1 + 1, 0, none⟩ = some (.int .i64 0) ∧ w'.cell? ⟨b + 1 + 1 + 1, 0, none⟩ = some (.int .i64 a0) ∧ w'.cell? ⟨b + 1 + 1 + 1, 1, none⟩ = some (.int .i64 a1) ∧ w'.cell? ⟨b + 1 + 1 + 1, 2, none⟩ = some (.int .u32 a2) ∧ w'.cell? ⟨b + 1 + 1 + 1, 3, none⟩ = some (.int .u32 a3) ∧ w'.cell? ⟨b + 1 + 1 + 1, 4, none⟩ = some (.int .u32 a4)) (ds := [5]) #[false, false, false, false, false, false, false, false] (by kernel_rfl) rfl rfl ⟨i0, j0, j1, j2, j3, j4⟩ (fun hHeld => ?_)
 refine pu_ 2 98 (mk 8 4) rfl rfl ?_
 refine pu_ 3 99 (mk 8 12) rfl rfl ?_
 refine take_ (i := 0) (N := some 96) (v := ?_) (a' := ?_) (mk 8 13) rfl rfl (by kernel_rfl) (fun _ _ _ h => h) (Or.inl ⟨by rfl, ?_⟩) hHeld ?_ ?_
 rotate_left
 ·rintro w' ⟨s0, s1, s2, s3, s4, s5⟩
  go_simp
  with_reducible rfl
 rotate_left
 ·exact e4
 refine take_ (i := 1) (N := some 97) (v := ?_) (a' := ?_) (mk 8 15) rfl rfl (by kernel_rfl) (fun _ _ _ h => h) (Or.inl ⟨by rfl, ?_⟩) hHeld ?_ ?_
 rotate_left
 ·rintro w' ⟨s0, s1, s2, s3, s4, s5⟩
  go_simp
  with_reducible rfl
 rotate_left
 ·exact e4
 refine one_ (i := 4) (N := none) (mk 8 31) rfl rfl (by kernel_rfl) (by decide) (fun K hK => ?_)
 refine skip_ (w1 := ?_) (by rfl) rfl ?_ ?_
 rotate_left
 ·go_simp
  rfl
 refine hK.out _ _ ⟨cell_of_heap (blk_drew (blk_set k2Z 0 (.int .i64 0))) rfl, cell_of_heap (blk_drew (blk_far k3Z (p := ⟨b + 1 + 1, 0, none⟩) n32 (.int .i64 0))) rfl, cell_of_heap (blk_drew (blk_far k3Z (p := ⟨b + 1 + 1, 0, none⟩) n32 (.int .i64 0))) rfl, cell_of_heap (blk_drew (blk_far k3Z (p := ⟨b + 1 + 1, 0, none⟩) n32 (.int .i64 0))) rfl, cell_of_heap (blk_drew (blk_far k3Z (p := ⟨b + 1 + 1, 0, none⟩) n32 (.int .i64 0))) rfl, cell_of_heap (blk_drew (blk_far k3Z (p := ⟨b + 1 + 1, 0, none⟩) n32 (.int .i64 0))) rfl⟩ (fun hHeld => ?_)
 clear hK K
 refine last_ (i := 5) (N := none) (mk 8 63) rfl rfl (by kernel_rfl) (by decide) (fun K hK => ?_)
 refine skip_ (w1 := ?_) (by rfl) rfl ?_ ?_
 rotate_left
 ·go_simp
  rfl
 refine hK.out _ _ ?_
 clear hK K
 refine pu_ 6 16 (mk 8 127) rfl rfl ?_
 refine pu_ 7 17 (mk 8 255) rfl rfl ?_
 refine done_ (by kernel_rfl) ?_
 have wA := At.far (a := ⟨b + 1 + 1, 0, none⟩) hAZ k2Z (by decide) n2p n2m n2g (.int .i64 0)
 have wF := Fr.set hFZ ⟨b + 1 + 1, 0, none⟩ (.inr (.inr (by show w.heap.size ≤ b + 1 + 1; have := hbs.out; omega))) (.int .i64 0)
 have w2 := blk_set k2Z 0 (.int .i64 0)
 have w3 := blk_far k3Z (p := ⟨b + 1 + 1, 0, none⟩) n32 (.int .i64 0)
 have xA := (At.putAt wA w3 (by decide) n3p n3m n3g ⟨a0, a1, a2, a3, a4⟩).drew
 have xF := (Fr.putAt wF (k := b + 1 + 1 + 1) (by have := hbs.out; omega) ⟨a0, a1, a2, a3, a4⟩).drew
 have x3 := blk_drew (putAt_blk w3 ⟨a0, a1, a2, a3, a4⟩)
 have x2 := blk_drew ((putAt_far _ (b + 1 + 1 + 1) ⟨a0, a1, a2, a3, a4⟩ (b + 1 + 1) n23).trans w2)
 replace wA := Lib.hid wA
 replace wF := Lib.hid wF
 replace w2 := Lib.hid w2
 replace w3 := Lib.hid w3
 replace xA := Lib.hid xA
 replace xF := Lib.hid xF
 replace x2 := Lib.hid x2
 replace x3 := Lib.hid x3
 go_wp2
 (try simp only [Exit.inBlock, Exit.then])
 refine bodyPost_ret (results_list (vs := [.agg #[.int .i64 0], .agg #[.int .i64 a0, .int .i64 a1, .int .u32 a2, .int .u32 a3, .int .u32 a4], .bool false, .bool false]) rfl (by simp) (.cell (b + 1 + 1) 47 #[.int .i64 0] (0, 0) _ rfl x2.out Tryz.underlying47 rfl (by kernel_rfl) (.cell (b + 1 + 1 + 1) 38 #[.int .i64 a0, .int .i64 a1, .int .u32 a2, .int .u32 a3, .int .u32 a4] (0, 0) _ rfl x3.out Tryz.underlying38 rfl (by kernel_rfl) (.tmp (.tmp .nil))))) rfl ?_
 exact ⟨rfl, xA.out, xF.out⟩
set_option maxHeartbeats 4000000 in
theorem again_park (h : At B w p pm g r) (st c : Int) (kf : Nat) (caps : Array Value) (hs : stageOf r.mode st = 2) (hw32 : ∀ i, W32 (r.l.getD i 0)) (set : Bool) (is : Int → Bool) (hT : Tells B p pm g r set is kf caps w) (hi : is (doAcc r.l 1 c 0 0).1.old = false) (hm : r.mode = 2) : Calls Tryz.prog 148 #[.pointer (some ⟨pm, 0, none⟩), .agg #[.int .i64 r.n], .int .i64 r.mode, .int .i64 r.task, .agg #[.int .i64 st], .int .i64 c, .func (.func kf) #[] caps] w fun e w' => e = .returned (.tuple #[.agg #[.int .i64 3], accV (doAcc r.l 1 c 0 0).1, .bool false, .bool false]) ∧ At B w' p pm g (kept set r false (doAcc r.l 1 c 0 0).1.old) ∧ Fr B p g w w' := by
 have hd := fun W' (hW' : Mm W' pm g r.l) => do_walk hW' 1 c 0 0 0 (by omega)
 have hq := func_neq kf caps
 obtain ⟨a, ha⟩ : ∃ a, a = (doAcc r.l 1 c 0 0).1 := ⟨_, rfl⟩
 obtain ⟨ok, hok⟩ : ∃ ok, ok = (doAcc r.l 1 c 0 0).2.1 := ⟨_, rfl⟩
 have h32 := (words_do hw32 1 c w32_zero w32_zero).2
 rw [← ha] at h32
 replace h32 := Lib.hid h32
 clear hw32
 rw [doLoad_l, ← ha, ← hok] at hd
 rw [← ha] at hi ⊢
 clear ha hok
 obtain ⟨a0, a1, a2, a3, a4⟩ := a
 unfold accV at *
 replace hd := Lib.hid hd
 replace hT := Lib.hid hT
 have hiv : is a4 = false := hi
 replace hi := Lib.hid hi
 have hmb : (r.mode == 2) = true := by simp [hm]
 replace hm := Lib.hid hm
 obtain ⟨b, hb⟩ : ∃ b, b = w.heap.size := ⟨_, rfl⟩
 obtain ⟨W, hW⟩ : ∃ W, W = (((w.alloc (.cells #[.int .i64 r.n] 94)).alloc (.cells #[.int .i64 st] 47)).alloc (.cells #[.int .i64 0] 47)).alloc (.cells #[.int .i64 0, .int .i64 0, .int .u32 0, .int .u32 0, .int .u32 0] 38) := ⟨_, rfl⟩
 have hA : At B W p pm g r := by rw [hW]; exact (((h.alloc _).alloc _).alloc _).alloc _
 have hF : Fr B p g w W := by rw [hW]; exact ((((Fr.refl B p g w).alloc _).alloc _).alloc _).alloc _
 have hb0 : W.heap[b]? = some (.cells #[.int .i64 r.n] 94 (0, 0)) := by rw [hW, hb]; exact blk_alloc (blk_alloc (blk_alloc (heap_alloc_new _ _) _) _) _
 have hb1 : W.heap[b + 1]? = some (.cells #[.int .i64 st] 47 (0, 0)) := by
  rw [hW, hb]
  refine blk_alloc (blk_alloc ?_ _) _
  simpa using heap_alloc_new (w.alloc (.cells #[.int .i64 r.n] 94)) (.cells #[.int .i64 st] 47)
 have hb2 : W.heap[b + 1 + 1]? = some (.cells #[.int .i64 0] 47 (0, 0)) := by
  rw [hW, hb]
  refine blk_alloc ?_ _
  simpa using heap_alloc_new ((w.alloc (.cells #[.int .i64 r.n] 94)).alloc (.cells #[.int .i64 st] 47)) (.cells #[.int .i64 0] 47)
 have hb3 : W.heap[b + 1 + 1 + 1]? = some (.cells #[.int .i64 0, .int .i64 0, .int .u32 0, .int .u32 0, .int .u32 0] 38 (0, 0)) := by
  rw [hW, hb]
  simpa using heap_alloc_new (((w.alloc (.cells #[.int .i64 r.n] 94)).alloc (.cells #[.int .i64 st] 47)).alloc (.cells #[.int .i64 0] 47)) (.cells #[.int .i64 0, .int .i64 0, .int .u32 0, .int .u32 0, .int .u32 0] 38)
 have hlo := h.lo
 have hlt := h.lt
 have hbs : w.heap.size ≤ b := Nat.le_of_eq hb.symm
 have n0p : b ≠ p := by omega
 have n0g : b ≠ g := by omega
 have n1p : b + 1 ≠ p := by omega
 have n1g : b + 1 ≠ g := by omega
 have n2p : b + 1 + 1 ≠ p := by omega
 have n2g : b + 1 + 1 ≠ g := by omega
 have n2m : b + 1 + 1 ≠ pm := by omega
 have n3p : b + 1 + 1 + 1 ≠ p := by omega
 have n3g : b + 1 + 1 + 1 ≠ g := by omega
 have n3m : b + 1 + 1 + 1 ≠ pm := by omega
 have n32 : b + 1 + 1 + 1 ≠ b + 1 + 1 := by omega
 have n23 : b + 1 + 1 ≠ b + 1 + 1 + 1 := by omega
 have q1 := cell_of_heap (j := 0) hb1 rfl
 have hst := stage_walk r.mode st W
 rw [hs] at hst
 go_enter Tryz.func148, Tryz.ntmps148
 go_upto_region 1 with (fail)
 rw [← hW, ← hb]
 replace h := Lib.hid h
 replace hb := Lib.hid hb
 replace hW := Lib.hid hW
 replace hA := Lib.hid hA
 replace hF := Lib.hid hF
 replace hb0 := Lib.hid hb0
 replace hb1 := Lib.hid hb1
 replace hb2 := Lib.hid hb2
 replace hb3 := Lib.hid hb3
 replace hbs := Lib.hid hbs
 replace hs := Lib.hid hs
 clear hlo hlt
 go_upto_region 25 with (first
  | (go_at_call 140; refine hst.mono ?_; rintro e w1 ⟨rfl, hB1⟩; have hAa := hA.out.below hB1; have f1 := Fr.of_below (B := B) (p := p) (g := g) hB1; have hFa := hF.out.trans f1; have k0a := Fr.keep f1 hb0.out n0p n0g (by decide); have k2a := Fr.keep f1 hb2.out n2p n2g (by decide); have k3a := Fr.keep f1 hb3.out n3p n3g (by decide); clear q1 f1 hB1; have q0 := cell_of_heap (j := 0) k0a rfl; have s0 := cell_of_heap (j := 0) k2a rfl; have t0 := cell_of_heap (j := 0) k3a rfl; have t1 := cell_of_heap (j := 1) k3a rfl; have t2 := cell_of_heap (j := 2) k3a rfl; have t3 := cell_of_heap (j := 3) k3a rfl; have t4 := cell_of_heap (j := 4) k3a rfl; have y0 := blk_frozen k3a 0; have y1 := blk_frozen k3a 1; have y2 := blk_frozen k3a 2; have y3 := blk_frozen k3a 3; have y4 := blk_frozen k3a 4; have x0 := blk_frozen k2a 0; replace k0a := Lib.hid k0a; replace k2a := Lib.hid k2a; replace k3a := Lib.hid k3a; replace hAa := Lib.hid hAa; replace hFa := Lib.hid hFa)
  | (go_at_call 185; refine (hd.out _ hAa.out.mem).mono ?_; rintro e w2 ⟨rfl, hmb, hBb⟩; have hAb := hAa.out.mem_to hmb hBb; have fb := Fr.of_but (B := B) (p := p) hBb; have hFb := hFa.out.trans fb; clear q0 s0 t0 t1 t2 t3 t4 y0 y1 y2 y3 y4 x0; have k0b := Fr.keep fb k0a.out n0p n0g (by decide); have k2b := Fr.keep fb k2a.out n2p n2g (by decide); have k3b := Fr.keep fb k3a.out n3p n3g (by decide); clear fb hmb hBb; have q0 := cell_of_heap (j := 0) k0b rfl; have s0 := cell_of_heap (j := 0) k2b rfl; have t0 := cell_of_heap (j := 0) k3b rfl; have t1 := cell_of_heap (j := 1) k3b rfl; have t2 := cell_of_heap (j := 2) k3b rfl; have t3 := cell_of_heap (j := 3) k3b rfl; have t4 := cell_of_heap (j := 4) k3b rfl; have y0 := blk_frozen k3b 0; have y1 := blk_frozen k3b 1; have y2 := blk_frozen k3b 2; have y3 := blk_frozen k3b 3; have y4 := blk_frozen k3b 4; have x0 := blk_frozen k2b 0; replace k0b := Lib.hid k0b; replace k2b := Lib.hid k2b; replace k3b := Lib.hid k3b; replace hAb := Lib.hid hAb; replace hFb := Lib.hid hFb)
  | ((with_reducible refine gate_dst (N := 40) rfl ?_); go_must (refine goesV_ (some 40) rfl rfl (kf := kf) (caps := caps) rfl hT.out.1 #[.int .u32 a4] rfl (by simp only [List.map_toArray, List.map_cons, List.map_nil]; rfl) ?_; refine (hT.out.2 _ a4 h32.out ?cF ?cA).mono ?_; (case cF => (have uAc := At.putAt (hAb.out) k3b.out (by decide) n3p n3m n3g ⟨a0, a1, a2, a3, a4⟩; have uFc := Fr.putAt (hFb.out) (k := b + 1 + 1 + 1) (by have := hbs.out; omega) ⟨a0, a1, a2, a3, a4⟩; have u3c := putAt_blk (k3b.out) ⟨a0, a1, a2, a3, a4⟩; have u2c := (putAt_far w2 (b + 1 + 1 + 1) ⟨a0, a1, a2, a3, a4⟩ (b + 1 + 1) n23).trans (k2b.out); have hAc := uAc; have hFc := uFc; have k2c := u2c; have k3c := u3c); exact hFc); (case cA => (have uAc := At.putAt (hAb.out) k3b.out (by decide) n3p n3m n3g ⟨a0, a1, a2, a3, a4⟩; have uFc := Fr.putAt (hFb.out) (k := b + 1 + 1 + 1) (by have := hbs.out; omega) ⟨a0, a1, a2, a3, a4⟩; have u3c := putAt_blk (k3b.out) ⟨a0, a1, a2, a3, a4⟩; have u2c := (putAt_far w2 (b + 1 + 1 + 1) ⟨a0, a1, a2, a3, a4⟩ (b + 1 + 1) n23).trans (k2b.out); have hAc := uAc; have hFc := uFc; have k2c := u2c; have k3c := u3c); exact hAc); rintro e w3 ⟨rfl, hAd, fd⟩; rw [hiv]; rw [hiv] at hAd; refine ⟨_, rfl, ?_⟩; have uAc := At.putAt (hAb.out) k3b.out (by decide) n3p n3m n3g ⟨a0, a1, a2, a3, a4⟩; have uFc := Fr.putAt (hFb.out) (k := b + 1 + 1 + 1) (by have := hbs.out; omega) ⟨a0, a1, a2, a3, a4⟩; have u3c := putAt_blk (k3b.out) ⟨a0, a1, a2, a3, a4⟩; have u2c := (putAt_far w2 (b + 1 + 1 + 1) ⟨a0, a1, a2, a3, a4⟩ (b + 1 + 1) n23).trans (k2b.out); have hAc := uAc; have hFc := uFc; have k2c := u2c; have k3c := u3c; have hFd := hFc.trans fd; clear q0 s0 t0 t1 t2 t3 t4 y0 y1 y2 y3 y4 x0; have k0c := (putAt_far w2 (b + 1 + 1 + 1) ⟨a0, a1, a2, a3, a4⟩ b (by omega)).trans k0b.out; replace k0c := Lib.hid k0c; replace k2c := Lib.hid k2c; replace k3c := Lib.hid k3c; have k0d := Fr.keep fd k0c.out n0p n0g (by decide); have k2d := Fr.keep fd k2c.out n2p n2g (by decide); have k3d := Fr.keep fd k3c.out n3p n3g (by decide); clear fd hAc hFc uAc uFc u3c u2c k2c k3c k0c; have q0 := cell_of_heap (j := 0) k0d rfl; have s0 := cell_of_heap (j := 0) k2d rfl; have t0 := cell_of_heap (j := 0) k3d rfl; have t1 := cell_of_heap (j := 1) k3d rfl; have t2 := cell_of_heap (j := 2) k3d rfl; have t3 := cell_of_heap (j := 3) k3d rfl; have t4 := cell_of_heap (j := 4) k3d rfl; have y0 := blk_frozen k3d 0; have y1 := blk_frozen k3d 1; have y2 := blk_frozen k3d 2; have y3 := blk_frozen k3d 3; have y4 := blk_frozen k3d 4; have x0 := blk_frozen k2d 0; replace k0d := Lib.hid k0d; replace k2d := Lib.hid k2d; replace k3d := Lib.hid k3d; replace hAd := Lib.hid hAd; replace hFd := Lib.hid hFd)))
 have vAZ := At.far (a := ⟨b + 1 + 1, 0, none⟩) (hAd.out) (k2d.out) (by decide) n2p n2m n2g (.int .i64 3)
 have vFZ := Fr.set (hFd.out) ⟨b + 1 + 1, 0, none⟩ (.inr (.inr (by show w.heap.size ≤ b + 1 + 1; have := hbs.out; omega))) (.int .i64 3)
 have v2Z := blk_set (k2d.out) 0 (.int .i64 3)
 have v3Z := blk_far (k3d.out) (p := ⟨b + 1 + 1, 0, none⟩) n32 (.int .i64 3)
 have hAZ := vAZ
 have hFZ := vFZ
 have k2Z := v2Z
 have k3Z := v3Z
 obtain ⟨W4, hW4⟩ : ∃ W4, W4 = (World.setCell w3 ⟨b + 1 + 1, 0, none⟩ (.int .i64 3)) := ⟨_, rfl⟩
 rw [← hW4]
 rw [← hW4] at hAZ hFZ k2Z k3Z
 replace k2Z : W4.heap[b + 1 + 1]? = some (.cells #[.int .i64 3] 47 (0, 0)) := k2Z
 replace k3Z : W4.heap[b + 1 + 1 + 1]? = some (.cells #[.int .i64 a0, .int .i64 a1, .int .u32 a2, .int .u32 a3, .int .u32 a4] 38 (0, 0)) := k3Z
 clear hW4 vAZ vFZ v2Z v3Z
 exact e9
set_option maxHeartbeats 4000000 in
theorem announce_walk (h : At B w p pm g r) (st c : Int) (kf : Nat) (caps : Array Value) (hs : stageOf r.mode st = 1) : Calls Tryz.prog 148 #[.pointer (some ⟨pm, 0, none⟩), .agg #[.int .i64 r.n], .int .i64 r.mode, .int .i64 r.task, .agg #[.int .i64 st], .int .i64 c, .func (.func kf) #[] caps] w fun e w' => e = .returned (.tuple #[.agg #[.int .i64 2], accV (doAcc r.l 2 (pwatch r.n r.task) (u32 (c + 1)) 0).1, .bool false, .bool false]) ∧ At B w' p pm g { r with l := (doAcc r.l 2 (pwatch r.n r.task) (u32 (c + 1)) 0).2.2 } ∧ Fr B p g w w' := by
 have hd := fun W' (hW' : Mm W' pm g r.l) => do_walk hW' 2 (pwatch r.n r.task) (u32 (c + 1)) 0 0 (by omega)
 have hp := fun W' => pwatch_walk r.n r.task W'
 obtain ⟨l1, hl1⟩ : ∃ l1, l1 = (doAcc r.l 2 (pwatch r.n r.task) (u32 (c + 1)) 0).2.2 := ⟨_, rfl⟩
 obtain ⟨a, ha⟩ : ∃ a, a = (doAcc r.l 2 (pwatch r.n r.task) (u32 (c + 1)) 0).1 := ⟨_, rfl⟩
 obtain ⟨ok, hok⟩ : ∃ ok, ok = (doAcc r.l 2 (pwatch r.n r.task) (u32 (c + 1)) 0).2.1 := ⟨_, rfl⟩
 rw [← hl1, ← ha, ← hok] at hd
 rw [← hl1, ← ha]
 clear ha hok hl1
 obtain ⟨a0, a1, a2, a3, a4⟩ := a
 unfold accV at *
 obtain ⟨wa, hwa⟩ : ∃ wa, wa = pwatch r.n r.task := ⟨_, rfl⟩
 rw [← hwa] at hd hp
 clear hwa
 replace hp := Lib.hid hp
 replace hd := Lib.hid hd
 obtain ⟨b, hb⟩ : ∃ b, b = w.heap.size := ⟨_, rfl⟩
 obtain ⟨W, hW⟩ : ∃ W, W = (((w.alloc (.cells #[.int .i64 r.n] 94)).alloc (.cells #[.int .i64 st] 47)).alloc (.cells #[.int .i64 0] 47)).alloc (.cells #[.int .i64 0, .int .i64 0, .int .u32 0, .int .u32 0, .int .u32 0] 38) := ⟨_, rfl⟩
 have hA : At B W p pm g r := by rw [hW]; exact (((h.alloc _).alloc _).alloc _).alloc _
 have hF : Fr B p g w W := by rw [hW]; exact ((((Fr.refl B p g w).alloc _).alloc _).alloc _).alloc _
 have hb0 : W.heap[b]? = some (.cells #[.int .i64 r.n] 94 (0, 0)) := by rw [hW, hb]; exact blk_alloc (blk_alloc (blk_alloc (heap_alloc_new _ _) _) _) _
 have hb1 : W.heap[b + 1]? = some (.cells #[.int .i64 st] 47 (0, 0)) := by
  rw [hW, hb]
  refine blk_alloc (blk_alloc ?_ _) _
  simpa using heap_alloc_new (w.alloc (.cells #[.int .i64 r.n] 94)) (.cells #[.int .i64 st] 47)
 have hb2 : W.heap[b + 1 + 1]? = some (.cells #[.int .i64 0] 47 (0, 0)) := by
  rw [hW, hb]
  refine blk_alloc ?_ _
  simpa using heap_alloc_new ((w.alloc (.cells #[.int .i64 r.n] 94)).alloc (.cells #[.int .i64 st] 47)) (.cells #[.int .i64 0] 47)
 have hb3 : W.heap[b + 1 + 1 + 1]? = some (.cells #[.int .i64 0, .int .i64 0, .int .u32 0, .int .u32 0, .int .u32 0] 38 (0, 0)) := by
  rw [hW, hb]
  simpa using heap_alloc_new (((w.alloc (.cells #[.int .i64 r.n] 94)).alloc (.cells #[.int .i64 st] 47)).alloc (.cells #[.int .i64 0] 47)) (.cells #[.int .i64 0, .int .i64 0, .int .u32 0, .int .u32 0, .int .u32 0] 38)
 have hlo := h.lo
 have hlt := h.lt
 have hbs : w.heap.size ≤ b := Nat.le_of_eq hb.symm
 have n0p : b ≠ p := by omega
 have n0g : b ≠ g := by omega
 have n1p : b + 1 ≠ p := by omega
 have n1g : b + 1 ≠ g := by omega
 have n2p : b + 1 + 1 ≠ p := by omega
 have n2g : b + 1 + 1 ≠ g := by omega
 have n2m : b + 1 + 1 ≠ pm := by omega
 have n3p : b + 1 + 1 + 1 ≠ p := by omega
 have n3g : b + 1 + 1 + 1 ≠ g := by omega
 have n3m : b + 1 + 1 + 1 ≠ pm := by omega
 have n32 : b + 1 + 1 + 1 ≠ b + 1 + 1 := by omega
 have n23 : b + 1 + 1 ≠ b + 1 + 1 + 1 := by omega
 have q1 := cell_of_heap (j := 0) hb1 rfl
 have hst := stage_walk r.mode st W
 rw [hs] at hst
 go_enter Tryz.func148, Tryz.ntmps148
 go_upto_region 1 with (fail)
 rw [← hW, ← hb]
 replace h := Lib.hid h
 replace hb := Lib.hid hb
 replace hW := Lib.hid hW
 replace hA := Lib.hid hA
 replace hF := Lib.hid hF
 replace hb0 := Lib.hid hb0
 replace hb1 := Lib.hid hb1
 replace hb2 := Lib.hid hb2
 replace hb3 := Lib.hid hb3
 replace hbs := Lib.hid hbs
 replace hs := Lib.hid hs
 clear hlo hlt
 go_upto_region 25 with (first
  | (go_at_call 140; refine hst.mono ?_; rintro e w1 ⟨rfl, hB1⟩; have hAa := hA.out.below hB1; have f1 := Fr.of_below (B := B) (p := p) (g := g) hB1; have hFa := hF.out.trans f1; have k0a := Fr.keep f1 hb0.out n0p n0g (by decide); have k2a := Fr.keep f1 hb2.out n2p n2g (by decide); have k3a := Fr.keep f1 hb3.out n3p n3g (by decide); clear q1 f1 hB1; have q0 := cell_of_heap (j := 0) k0a rfl; have s0 := cell_of_heap (j := 0) k2a rfl; have t0 := cell_of_heap (j := 0) k3a rfl; have t1 := cell_of_heap (j := 1) k3a rfl; have t2 := cell_of_heap (j := 2) k3a rfl; have t3 := cell_of_heap (j := 3) k3a rfl; have t4 := cell_of_heap (j := 4) k3a rfl; have y0 := blk_frozen k3a 0; have y1 := blk_frozen k3a 1; have y2 := blk_frozen k3a 2; have y3 := blk_frozen k3a 3; have y4 := blk_frozen k3a 4; have x0 := blk_frozen k2a 0; replace k0a := Lib.hid k0a; replace k2a := Lib.hid k2a; replace k3a := Lib.hid k3a; replace hAa := Lib.hid hAa; replace hFa := Lib.hid hFa)
  | (go_at_call 186; refine (hp.out _).mono ?_; rintro e w2 ⟨rfl, hB2⟩; have hAb := hAa.out.below hB2; have fb := Fr.of_below (B := B) (p := p) (g := g) hB2; have hFb := hFa.out.trans fb; clear q0 s0 t0 t1 t2 t3 t4 y0 y1 y2 y3 y4 x0; have k0b := Fr.keep fb k0a.out n0p n0g (by decide); have k2b := Fr.keep fb k2a.out n2p n2g (by decide); have k3b := Fr.keep fb k3a.out n3p n3g (by decide); clear fb hB2; have q0 := cell_of_heap (j := 0) k0b rfl; have s0 := cell_of_heap (j := 0) k2b rfl; have t0 := cell_of_heap (j := 0) k3b rfl; have t1 := cell_of_heap (j := 1) k3b rfl; have t2 := cell_of_heap (j := 2) k3b rfl; have t3 := cell_of_heap (j := 3) k3b rfl; have t4 := cell_of_heap (j := 4) k3b rfl; have y0 := blk_frozen k3b 0; have y1 := blk_frozen k3b 1; have y2 := blk_frozen k3b 2; have y3 := blk_frozen k3b 3; have y4 := blk_frozen k3b 4; have x0 := blk_frozen k2b 0; replace k0b := Lib.hid k0b; replace k2b := Lib.hid k2b; replace k3b := Lib.hid k3b; replace hAb := Lib.hid hAb; replace hFb := Lib.hid hFb)
  | (go_at_call 185; (try rw [conv_u32]); go_must (refine (hd.out _ hAb.out.mem).mono ?_); rintro e w3 ⟨rfl, hmc, hBc⟩; have hAc := hAb.out.mem_to hmc hBc; have fc := Fr.of_but (B := B) (p := p) hBc; have hFc := hFb.out.trans fc; clear q0 s0 t0 t1 t2 t3 t4 y0 y1 y2 y3 y4 x0; have k0c := Fr.keep fc k0b.out n0p n0g (by decide); have k2c := Fr.keep fc k2b.out n2p n2g (by decide); have k3c := Fr.keep fc k3b.out n3p n3g (by decide); clear fc hmc hBc; have q0 := cell_of_heap (j := 0) k0c rfl; have s0 := cell_of_heap (j := 0) k2c rfl; have t0 := cell_of_heap (j := 0) k3c rfl; have t1 := cell_of_heap (j := 1) k3c rfl; have t2 := cell_of_heap (j := 2) k3c rfl; have t3 := cell_of_heap (j := 3) k3c rfl; have t4 := cell_of_heap (j := 4) k3c rfl; have y0 := blk_frozen k3c 0; have y1 := blk_frozen k3c 1; have y2 := blk_frozen k3c 2; have y3 := blk_frozen k3c 3; have y4 := blk_frozen k3c 4; have x0 := blk_frozen k2c 0; replace k0c := Lib.hid k0c; replace k2c := Lib.hid k2c; replace k3c := Lib.hid k3c; replace hAc := Lib.hid hAc; replace hFc := Lib.hid hFc))
 have uAZ := At.putAt (hAc.out) k3c.out (by decide) n3p n3m n3g ⟨a0, a1, a2, a3, a4⟩
 have uFZ := Fr.putAt (hFc.out) (k := b + 1 + 1 + 1) (by have := hbs.out; omega) ⟨a0, a1, a2, a3, a4⟩
 have u3Z := putAt_blk (k3c.out) ⟨a0, a1, a2, a3, a4⟩
 have u2Z := (putAt_far w3 (b + 1 + 1 + 1) ⟨a0, a1, a2, a3, a4⟩ (b + 1 + 1) n23).trans (k2c.out)
 have vAZ := At.far (a := ⟨b + 1 + 1, 0, none⟩) (uAZ) (u2Z) (by decide) n2p n2m n2g (.int .i64 2)
 have vFZ := Fr.set (uFZ) ⟨b + 1 + 1, 0, none⟩ (.inr (.inr (by show w.heap.size ≤ b + 1 + 1; have := hbs.out; omega))) (.int .i64 2)
 have v2Z := blk_set (u2Z) 0 (.int .i64 2)
 have v3Z := blk_far (u3Z) (p := ⟨b + 1 + 1, 0, none⟩) n32 (.int .i64 2)
 have hAZ := vAZ
 have hFZ := vFZ
 have k2Z := v2Z
 have k3Z := v3Z
 obtain ⟨W4, hW4⟩ : ∃ W4, W4 = (World.setCell (putAt w3 (b + 1 + 1 + 1) ⟨a0, a1, a2, a3, a4⟩) ⟨b + 1 + 1, 0, none⟩ (.int .i64 2)) := ⟨_, rfl⟩
 unfold putAt at hW4
 rw [← hW4]
 change W4 = (World.setCell (putAt w3 (b + 1 + 1 + 1) ⟨a0, a1, a2, a3, a4⟩) ⟨b + 1 + 1, 0, none⟩ (.int .i64 2)) at hW4
 exact e10
set_option maxHeartbeats 4000000 in
theorem sleep1_walk (h : At B w p pm g r) (st c : Int) (kf : Nat) (caps : Array Value) (hs : stageOf r.mode st = 3) (hv : (takePermit r.l r.n r.task).2.1 = true) : Calls Tryz.prog 148 #[.pointer (some ⟨pm, 0, none⟩), .agg #[.int .i64 r.n], .int .i64 r.mode, .int .i64 r.task, .agg #[.int .i64 st], .int .i64 c, .func (.func kf) #[] caps] w fun e w' => e = .returned (.tuple #[.agg #[.int .i64 2], accV (takePermit r.l r.n r.task).1, .bool false, .bool false]) ∧ At B w' p pm g { r with l := (takePermit r.l r.n r.task).2.2 } ∧ Fr B p g w w' := by
 have hd := fun W' (hW' : Mm W' pm g r.l) => take_walk hW' r.n r.task
 obtain ⟨l1, hl1⟩ : ∃ l1, l1 = (takePermit r.l r.n r.task).2.2 := ⟨_, rfl⟩
 obtain ⟨a, ha⟩ : ∃ a, a = (takePermit r.l r.n r.task).1 := ⟨_, rfl⟩
 obtain ⟨ok, hok⟩ : ∃ ok, ok = (takePermit r.l r.n r.task).2.1 := ⟨_, rfl⟩
 rw [← hl1, ← ha, ← hok] at hd
 rw [← hl1, ← ha]
 rw [← hok] at hv
 subst hv
 clear ha hok hl1
 obtain ⟨a0, a1, a2, a3, a4⟩ := a
 unfold accV at *
 replace hd := Lib.hid hd
 obtain ⟨b, hb⟩ : ∃ b, b = w.heap.size := ⟨_, rfl⟩
 obtain ⟨W, hW⟩ : ∃ W, W = (((w.alloc (.cells #[.int .i64 r.n] 94)).alloc (.cells #[.int .i64 st] 47)).alloc (.cells #[.int .i64 0] 47)).alloc (.cells #[.int .i64 0, .int .i64 0, .int .u32 0, .int .u32 0, .int .u32 0] 38) := ⟨_, rfl⟩
 have hA : At B W p pm g r := by rw [hW]; exact (((h.alloc _).alloc _).alloc _).alloc _
 have hF : Fr B p g w W := by rw [hW]; exact ((((Fr.refl B p g w).alloc _).alloc _).alloc _).alloc _
 have hb0 : W.heap[b]? = some (.cells #[.int .i64 r.n] 94 (0, 0)) := by rw [hW, hb]; exact blk_alloc (blk_alloc (blk_alloc (heap_alloc_new _ _) _) _) _
 have hb1 : W.heap[b + 1]? = some (.cells #[.int .i64 st] 47 (0, 0)) := by
  rw [hW, hb]
  refine blk_alloc (blk_alloc ?_ _) _
  simpa using heap_alloc_new (w.alloc (.cells #[.int .i64 r.n] 94)) (.cells #[.int .i64 st] 47)
 have hb2 : W.heap[b + 1 + 1]? = some (.cells #[.int .i64 0] 47 (0, 0)) := by
  rw [hW, hb]
  refine blk_alloc ?_ _
  simpa using heap_alloc_new ((w.alloc (.cells #[.int .i64 r.n] 94)).alloc (.cells #[.int .i64 st] 47)) (.cells #[.int .i64 0] 47)
 have hb3 : W.heap[b + 1 + 1 + 1]? = some (.cells #[.int .i64 0, .int .i64 0, .int .u32 0, .int .u32 0, .int .u32 0] 38 (0, 0)) := by
  rw [hW, hb]
  simpa using heap_alloc_new (((w.alloc (.cells #[.int .i64 r.n] 94)).alloc (.cells #[.int .i64 st] 47)).alloc (.cells #[.int .i64 0] 47)) (.cells #[.int .i64 0, .int .i64 0, .int .u32 0, .int .u32 0, .int .u32 0] 38)
 have hlo := h.lo
 have hlt := h.lt
 have hbs : w.heap.size ≤ b := Nat.le_of_eq hb.symm
 have n0p : b ≠ p := by omega
 have n0g : b ≠ g := by omega
 have n1p : b + 1 ≠ p := by omega
 have n1g : b + 1 ≠ g := by omega
 have n2p : b + 1 + 1 ≠ p := by omega
 have n2g : b + 1 + 1 ≠ g := by omega
 have n2m : b + 1 + 1 ≠ pm := by omega
 have n3p : b + 1 + 1 + 1 ≠ p := by omega
 have n3g : b + 1 + 1 + 1 ≠ g := by omega
 have n3m : b + 1 + 1 + 1 ≠ pm := by omega
 have n32 : b + 1 + 1 + 1 ≠ b + 1 + 1 := by omega
 have n23 : b + 1 + 1 ≠ b + 1 + 1 + 1 := by omega
 have q1 := cell_of_heap (j := 0) hb1 rfl
 have hst := stage_walk r.mode st W
 rw [hs] at hst
 go_enter Tryz.func148, Tryz.ntmps148
 go_upto_region 1 with (fail)
 rw [← hW, ← hb]
 replace h := Lib.hid h
 replace hb := Lib.hid hb
 replace hW := Lib.hid hW
 replace hA := Lib.hid hA
 replace hF := Lib.hid hF
 replace hb0 := Lib.hid hb0
 replace hb1 := Lib.hid hb1
 replace hb2 := Lib.hid hb2
 replace hb3 := Lib.hid hb3
 replace hbs := Lib.hid hbs
 replace hs := Lib.hid hs
 clear hlo hlt
 go_upto_region 25 with (first
  | (go_at_call 140; refine hst.mono ?_; rintro e w1 ⟨rfl, hB1⟩; have hAa := hA.out.below hB1; have f1 := Fr.of_below (B := B) (p := p) (g := g) hB1; have hFa := hF.out.trans f1; have k0a := Fr.keep f1 hb0.out n0p n0g (by decide); have k2a := Fr.keep f1 hb2.out n2p n2g (by decide); have k3a := Fr.keep f1 hb3.out n3p n3g (by decide); clear q1 f1 hB1; have q0 := cell_of_heap (j := 0) k0a rfl; have s0 := cell_of_heap (j := 0) k2a rfl; have t0 := cell_of_heap (j := 0) k3a rfl; have t1 := cell_of_heap (j := 1) k3a rfl; have t2 := cell_of_heap (j := 2) k3a rfl; have t3 := cell_of_heap (j := 3) k3a rfl; have t4 := cell_of_heap (j := 4) k3a rfl; have y0 := blk_frozen k3a 0; have y1 := blk_frozen k3a 1; have y2 := blk_frozen k3a 2; have y3 := blk_frozen k3a 3; have y4 := blk_frozen k3a 4; have x0 := blk_frozen k2a 0; replace k0a := Lib.hid k0a; replace k2a := Lib.hid k2a; replace k3a := Lib.hid k3a; replace hAa := Lib.hid hAa; replace hFa := Lib.hid hFa)
  | (go_at_call 187; refine (hd.out _ hAa.out.mem).mono ?_; rintro e w2 ⟨rfl, hmb, hBb⟩; have hAb := hAa.out.mem_to hmb hBb; have fb := Fr.of_but (B := B) (p := p) hBb; have hFb := hFa.out.trans fb; clear q0 s0 t0 t1 t2 t3 t4 y0 y1 y2 y3 y4 x0; have k0b := Fr.keep fb k0a.out n0p n0g (by decide); have k2b := Fr.keep fb k2a.out n2p n2g (by decide); have k3b := Fr.keep fb k3a.out n3p n3g (by decide); clear fb hmb hBb; have q0 := cell_of_heap (j := 0) k0b rfl; have s0 := cell_of_heap (j := 0) k2b rfl; have t0 := cell_of_heap (j := 0) k3b rfl; have t1 := cell_of_heap (j := 1) k3b rfl; have t2 := cell_of_heap (j := 2) k3b rfl; have t3 := cell_of_heap (j := 3) k3b rfl; have t4 := cell_of_heap (j := 4) k3b rfl; have y0 := blk_frozen k3b 0; have y1 := blk_frozen k3b 1; have y2 := blk_frozen k3b 2; have y3 := blk_frozen k3b 3; have y4 := blk_frozen k3b 4; have x0 := blk_frozen k2b 0; replace k0b := Lib.hid k0b; replace k2b := Lib.hid k2b; replace k3b := Lib.hid k3b; replace hAb := Lib.hid hAb; replace hFb := Lib.hid hFb))
 have uAZ := At.putAt (hAb.out) k3b.out (by decide) n3p n3m n3g ⟨a0, a1, a2, a3, a4⟩
 have uFZ := Fr.putAt (hFb.out) (k := b + 1 + 1 + 1) (by have := hbs.out; omega) ⟨a0, a1, a2, a3, a4⟩
 have u3Z := putAt_blk (k3b.out) ⟨a0, a1, a2, a3, a4⟩
 have u2Z := (putAt_far w2 (b + 1 + 1 + 1) ⟨a0, a1, a2, a3, a4⟩ (b + 1 + 1) n23).trans (k2b.out)
 have vAZ := At.far (a := ⟨b + 1 + 1, 0, none⟩) (uAZ) (u2Z) (by decide) n2p n2m n2g (.int .i64 2)
 have vFZ := Fr.set (uFZ) ⟨b + 1 + 1, 0, none⟩ (.inr (.inr (by show w.heap.size ≤ b + 1 + 1; have := hbs.out; omega))) (.int .i64 2)
 have v2Z := blk_set (u2Z) 0 (.int .i64 2)
 have v3Z := blk_far (u3Z) (p := ⟨b + 1 + 1, 0, none⟩) n32 (.int .i64 2)
 have hAZ := vAZ
 have hFZ := vFZ
 have k2Z := v2Z
 have k3Z := v3Z
 obtain ⟨W4, hW4⟩ : ∃ W4, W4 = (World.setCell (putAt w2 (b + 1 + 1 + 1) ⟨a0, a1, a2, a3, a4⟩) ⟨b + 1 + 1, 0, none⟩ (.int .i64 2)) := ⟨_, rfl⟩
 unfold putAt at hW4
 rw [← hW4]
 change W4 = (World.setCell (putAt w2 (b + 1 + 1 + 1) ⟨a0, a1, a2, a3, a4⟩) ⟨b + 1 + 1, 0, none⟩ (.int .i64 2)) at hW4
 exact e10
set_option maxHeartbeats 4000000 in
theorem sleep0_walk (h : At B w p pm g r) (st c : Int) (kf : Nat) (caps : Array Value) (hs : stageOf r.mode st = 3) (hv : (takePermit r.l r.n r.task).2.1 = false) : Calls Tryz.prog 148 #[.pointer (some ⟨pm, 0, none⟩), .agg #[.int .i64 r.n], .int .i64 r.mode, .int .i64 r.task, .agg #[.int .i64 st], .int .i64 c, .func (.func kf) #[] caps] w fun e w' => e = .returned (.tuple #[.agg #[.int .i64 3], accV (takePermit r.l r.n r.task).1, .bool false, .bool false]) ∧ At B w' p pm g { r with l := (takePermit r.l r.n r.task).2.2 } ∧ Fr B p g w w' := by
 have hd := fun W' (hW' : Mm W' pm g r.l) => take_walk hW' r.n r.task
 obtain ⟨l1, hl1⟩ : ∃ l1, l1 = (takePermit r.l r.n r.task).2.2 := ⟨_, rfl⟩
 obtain ⟨a, ha⟩ : ∃ a, a = (takePermit r.l r.n r.task).1 := ⟨_, rfl⟩
 obtain ⟨ok, hok⟩ : ∃ ok, ok = (takePermit r.l r.n r.task).2.1 := ⟨_, rfl⟩
 rw [← hl1, ← ha, ← hok] at hd
 rw [← hl1, ← ha]
 rw [← hok] at hv
 subst hv
 clear ha hok hl1
 obtain ⟨a0, a1, a2, a3, a4⟩ := a
 unfold accV at *
 replace hd := Lib.hid hd
 obtain ⟨b, hb⟩ : ∃ b, b = w.heap.size := ⟨_, rfl⟩
 obtain ⟨W, hW⟩ : ∃ W, W = (((w.alloc (.cells #[.int .i64 r.n] 94)).alloc (.cells #[.int .i64 st] 47)).alloc (.cells #[.int .i64 0] 47)).alloc (.cells #[.int .i64 0, .int .i64 0, .int .u32 0, .int .u32 0, .int .u32 0] 38) := ⟨_, rfl⟩
 have hA : At B W p pm g r := by rw [hW]; exact (((h.alloc _).alloc _).alloc _).alloc _
 have hF : Fr B p g w W := by rw [hW]; exact ((((Fr.refl B p g w).alloc _).alloc _).alloc _).alloc _
 have hb0 : W.heap[b]? = some (.cells #[.int .i64 r.n] 94 (0, 0)) := by rw [hW, hb]; exact blk_alloc (blk_alloc (blk_alloc (heap_alloc_new _ _) _) _) _
 have hb1 : W.heap[b + 1]? = some (.cells #[.int .i64 st] 47 (0, 0)) := by
  rw [hW, hb]
  refine blk_alloc (blk_alloc ?_ _) _
  simpa using heap_alloc_new (w.alloc (.cells #[.int .i64 r.n] 94)) (.cells #[.int .i64 st] 47)
 have hb2 : W.heap[b + 1 + 1]? = some (.cells #[.int .i64 0] 47 (0, 0)) := by
  rw [hW, hb]
  refine blk_alloc ?_ _
  simpa using heap_alloc_new ((w.alloc (.cells #[.int .i64 r.n] 94)).alloc (.cells #[.int .i64 st] 47)) (.cells #[.int .i64 0] 47)
 have hb3 : W.heap[b + 1 + 1 + 1]? = some (.cells #[.int .i64 0, .int .i64 0, .int .u32 0, .int .u32 0, .int .u32 0] 38 (0, 0)) := by
  rw [hW, hb]
  simpa using heap_alloc_new (((w.alloc (.cells #[.int .i64 r.n] 94)).alloc (.cells #[.int .i64 st] 47)).alloc (.cells #[.int .i64 0] 47)) (.cells #[.int .i64 0, .int .i64 0, .int .u32 0, .int .u32 0, .int .u32 0] 38)
 have hlo := h.lo
 have hlt := h.lt
 have hbs : w.heap.size ≤ b := Nat.le_of_eq hb.symm
 have n0p : b ≠ p := by omega
 have n0g : b ≠ g := by omega
 have n1p : b + 1 ≠ p := by omega
 have n1g : b + 1 ≠ g := by omega
 have n2p : b + 1 + 1 ≠ p := by omega
 have n2g : b + 1 + 1 ≠ g := by omega
 have n2m : b + 1 + 1 ≠ pm := by omega
 have n3p : b + 1 + 1 + 1 ≠ p := by omega
 have n3g : b + 1 + 1 + 1 ≠ g := by omega
 have n3m : b + 1 + 1 + 1 ≠ pm := by omega
 have n32 : b + 1 + 1 + 1 ≠ b + 1 + 1 := by omega
 have n23 : b + 1 + 1 ≠ b + 1 + 1 + 1 := by omega
 have q1 := cell_of_heap (j := 0) hb1 rfl
 have hst := stage_walk r.mode st W
 rw [hs] at hst
 go_enter Tryz.func148, Tryz.ntmps148
 go_upto_region 1 with (fail)
 rw [← hW, ← hb]
 replace h := Lib.hid h
 replace hb := Lib.hid hb
 replace hW := Lib.hid hW
 replace hA := Lib.hid hA
 replace hF := Lib.hid hF
 replace hb0 := Lib.hid hb0
 replace hb1 := Lib.hid hb1
 replace hb2 := Lib.hid hb2
 replace hb3 := Lib.hid hb3
 replace hbs := Lib.hid hbs
 replace hs := Lib.hid hs
 clear hlo hlt
 go_upto_region 25 with (first
  | (go_at_call 140; refine hst.mono ?_; rintro e w1 ⟨rfl, hB1⟩; have hAa := hA.out.below hB1; have f1 := Fr.of_below (B := B) (p := p) (g := g) hB1; have hFa := hF.out.trans f1; have k0a := Fr.keep f1 hb0.out n0p n0g (by decide); have k2a := Fr.keep f1 hb2.out n2p n2g (by decide); have k3a := Fr.keep f1 hb3.out n3p n3g (by decide); clear q1 f1 hB1; have q0 := cell_of_heap (j := 0) k0a rfl; have s0 := cell_of_heap (j := 0) k2a rfl; have t0 := cell_of_heap (j := 0) k3a rfl; have t1 := cell_of_heap (j := 1) k3a rfl; have t2 := cell_of_heap (j := 2) k3a rfl; have t3 := cell_of_heap (j := 3) k3a rfl; have t4 := cell_of_heap (j := 4) k3a rfl; have y0 := blk_frozen k3a 0; have y1 := blk_frozen k3a 1; have y2 := blk_frozen k3a 2; have y3 := blk_frozen k3a 3; have y4 := blk_frozen k3a 4; have x0 := blk_frozen k2a 0; replace k0a := Lib.hid k0a; replace k2a := Lib.hid k2a; replace k3a := Lib.hid k3a; replace hAa := Lib.hid hAa; replace hFa := Lib.hid hFa)
  | (go_at_call 187; refine (hd.out _ hAa.out.mem).mono ?_; rintro e w2 ⟨rfl, hmb, hBb⟩; have hAb := hAa.out.mem_to hmb hBb; have fb := Fr.of_but (B := B) (p := p) hBb; have hFb := hFa.out.trans fb; clear q0 s0 t0 t1 t2 t3 t4 y0 y1 y2 y3 y4 x0; have k0b := Fr.keep fb k0a.out n0p n0g (by decide); have k2b := Fr.keep fb k2a.out n2p n2g (by decide); have k3b := Fr.keep fb k3a.out n3p n3g (by decide); clear fb hmb hBb; have q0 := cell_of_heap (j := 0) k0b rfl; have s0 := cell_of_heap (j := 0) k2b rfl; have t0 := cell_of_heap (j := 0) k3b rfl; have t1 := cell_of_heap (j := 1) k3b rfl; have t2 := cell_of_heap (j := 2) k3b rfl; have t3 := cell_of_heap (j := 3) k3b rfl; have t4 := cell_of_heap (j := 4) k3b rfl; have y0 := blk_frozen k3b 0; have y1 := blk_frozen k3b 1; have y2 := blk_frozen k3b 2; have y3 := blk_frozen k3b 3; have y4 := blk_frozen k3b 4; have x0 := blk_frozen k2b 0; replace k0b := Lib.hid k0b; replace k2b := Lib.hid k2b; replace k3b := Lib.hid k3b; replace hAb := Lib.hid hAb; replace hFb := Lib.hid hFb))
 have uAZ := At.putAt (hAb.out) k3b.out (by decide) n3p n3m n3g ⟨a0, a1, a2, a3, a4⟩
 have uFZ := Fr.putAt (hFb.out) (k := b + 1 + 1 + 1) (by have := hbs.out; omega) ⟨a0, a1, a2, a3, a4⟩
 have u3Z := putAt_blk (k3b.out) ⟨a0, a1, a2, a3, a4⟩
 have u2Z := (putAt_far w2 (b + 1 + 1 + 1) ⟨a0, a1, a2, a3, a4⟩ (b + 1 + 1) n23).trans (k2b.out)
 have vAZ := At.far (a := ⟨b + 1 + 1, 0, none⟩) (uAZ) (u2Z) (by decide) n2p n2m n2g (.int .i64 3)
 have vFZ := Fr.set (uFZ) ⟨b + 1 + 1, 0, none⟩ (.inr (.inr (by show w.heap.size ≤ b + 1 + 1; have := hbs.out; omega))) (.int .i64 3)
 have v2Z := blk_set (u2Z) 0 (.int .i64 3)
 have v3Z := blk_far (u3Z) (p := ⟨b + 1 + 1, 0, none⟩) n32 (.int .i64 3)
 have hAZ := vAZ
 have hFZ := vFZ
 have k2Z := v2Z
 have k3Z := v3Z
 obtain ⟨W4, hW4⟩ : ∃ W4, W4 = (World.setCell (putAt w2 (b + 1 + 1 + 1) ⟨a0, a1, a2, a3, a4⟩) ⟨b + 1 + 1, 0, none⟩ (.int .i64 3)) := ⟨_, rfl⟩
 unfold putAt at hW4
 rw [← hW4]
 change W4 = (World.setCell (putAt w2 (b + 1 + 1 + 1) ⟨a0, a1, a2, a3, a4⟩) ⟨b + 1 + 1, 0, none⟩ (.int .i64 3)) at hW4
 rw [← hW4] at hAZ hFZ k2Z k3Z
 replace k2Z : W4.heap[b + 1 + 1]? = some (.cells #[.int .i64 3] 47 (0, 0)) := k2Z
 replace k3Z : W4.heap[b + 1 + 1 + 1]? = some (.cells #[.int .i64 a0, .int .i64 a1, .int .u32 a2, .int .u32 a3, .int .u32 a4] 38 (0, 0)) := k3Z
 clear hW4 uAZ uFZ u3Z u2Z vAZ vFZ v2Z v3Z
 exact e9
set_option maxHeartbeats 4000000 in
theorem forget_walk (h : At B w p pm g r) (st c : Int) (kf : Nat) (caps : Array Value) (hs : stageOf r.mode st = 4) : Calls Tryz.prog 148 #[.pointer (some ⟨pm, 0, none⟩), .agg #[.int .i64 r.n], .int .i64 r.mode, .int .i64 r.task, .agg #[.int .i64 st], .int .i64 c, .func (.func kf) #[] caps] w fun e w' => e = .returned (.tuple #[.agg #[.int .i64 0], accV (doAcc r.l 2 (pwatch r.n r.task) 0 0).1, .bool false, .bool true]) ∧ At B w' p pm g { r with l := (doAcc r.l 2 (pwatch r.n r.task) 0 0).2.2 } ∧ Fr B p g w w' := by
 have hd := fun W' (hW' : Mm W' pm g r.l) => do_walk hW' 2 (pwatch r.n r.task) 0 0 0 (by omega)
 have hp := fun W' => pwatch_walk r.n r.task W'
 obtain ⟨l1, hl1⟩ : ∃ l1, l1 = (doAcc r.l 2 (pwatch r.n r.task) 0 0).2.2 := ⟨_, rfl⟩
 obtain ⟨a, ha⟩ : ∃ a, a = (doAcc r.l 2 (pwatch r.n r.task) 0 0).1 := ⟨_, rfl⟩
 obtain ⟨ok, hok⟩ : ∃ ok, ok = (doAcc r.l 2 (pwatch r.n r.task) 0 0).2.1 := ⟨_, rfl⟩
 rw [← hl1, ← ha, ← hok] at hd
 rw [← hl1, ← ha]
 clear ha hok hl1
 obtain ⟨a0, a1, a2, a3, a4⟩ := a
 unfold accV at *
 obtain ⟨wa, hwa⟩ : ∃ wa, wa = pwatch r.n r.task := ⟨_, rfl⟩
 rw [← hwa] at hd hp
 clear hwa
 replace hp := Lib.hid hp
 replace hd := Lib.hid hd
 obtain ⟨b, hb⟩ : ∃ b, b = w.heap.size := ⟨_, rfl⟩
 obtain ⟨W, hW⟩ : ∃ W, W = (((w.alloc (.cells #[.int .i64 r.n] 94)).alloc (.cells #[.int .i64 st] 47)).alloc (.cells #[.int .i64 0] 47)).alloc (.cells #[.int .i64 0, .int .i64 0, .int .u32 0, .int .u32 0, .int .u32 0] 38) := ⟨_, rfl⟩
 have hA : At B W p pm g r := by rw [hW]; exact (((h.alloc _).alloc _).alloc _).alloc _
 have hF : Fr B p g w W := by rw [hW]; exact ((((Fr.refl B p g w).alloc _).alloc _).alloc _).alloc _
 have hb0 : W.heap[b]? = some (.cells #[.int .i64 r.n] 94 (0, 0)) := by rw [hW, hb]; exact blk_alloc (blk_alloc (blk_alloc (heap_alloc_new _ _) _) _) _
 have hb1 : W.heap[b + 1]? = some (.cells #[.int .i64 st] 47 (0, 0)) := by
  rw [hW, hb]
  refine blk_alloc (blk_alloc ?_ _) _
  simpa using heap_alloc_new (w.alloc (.cells #[.int .i64 r.n] 94)) (.cells #[.int .i64 st] 47)
 have hb2 : W.heap[b + 1 + 1]? = some (.cells #[.int .i64 0] 47 (0, 0)) := by
  rw [hW, hb]
  refine blk_alloc ?_ _
  simpa using heap_alloc_new ((w.alloc (.cells #[.int .i64 r.n] 94)).alloc (.cells #[.int .i64 st] 47)) (.cells #[.int .i64 0] 47)
 have hb3 : W.heap[b + 1 + 1 + 1]? = some (.cells #[.int .i64 0, .int .i64 0, .int .u32 0, .int .u32 0, .int .u32 0] 38 (0, 0)) := by
  rw [hW, hb]
  simpa using heap_alloc_new (((w.alloc (.cells #[.int .i64 r.n] 94)).alloc (.cells #[.int .i64 st] 47)).alloc (.cells #[.int .i64 0] 47)) (.cells #[.int .i64 0, .int .i64 0, .int .u32 0, .int .u32 0, .int .u32 0] 38)
 have hlo := h.lo
 have hlt := h.lt
 have hbs : w.heap.size ≤ b := Nat.le_of_eq hb.symm
 have n0p : b ≠ p := by omega
 have n0g : b ≠ g := by omega
 have n1p : b + 1 ≠ p := by omega
 have n1g : b + 1 ≠ g := by omega
 have n2p : b + 1 + 1 ≠ p := by omega
 have n2g : b + 1 + 1 ≠ g := by omega
 have n2m : b + 1 + 1 ≠ pm := by omega
 have n3p : b + 1 + 1 + 1 ≠ p := by omega
 have n3g : b + 1 + 1 + 1 ≠ g := by omega
 have n3m : b + 1 + 1 + 1 ≠ pm := by omega
 have n32 : b + 1 + 1 + 1 ≠ b + 1 + 1 := by omega
 have n23 : b + 1 + 1 ≠ b + 1 + 1 + 1 := by omega
 have q1 := cell_of_heap (j := 0) hb1 rfl
 have hst := stage_walk r.mode st W
 rw [hs] at hst
 go_enter Tryz.func148, Tryz.ntmps148
 go_upto_region 1 with (fail)
 rw [← hW, ← hb]
 replace h := Lib.hid h
 replace hb := Lib.hid hb
 replace hW := Lib.hid hW
 replace hA := Lib.hid hA
 replace hF := Lib.hid hF
 replace hb0 := Lib.hid hb0
 replace hb1 := Lib.hid hb1
 replace hb2 := Lib.hid hb2
 replace hb3 := Lib.hid hb3
 replace hbs := Lib.hid hbs
 replace hs := Lib.hid hs
 clear hlo hlt
 go_upto_region 25 with (first
  | (go_at_call 140; refine hst.mono ?_; rintro e w1 ⟨rfl, hB1⟩; have hAa := hA.out.below hB1; have f1 := Fr.of_below (B := B) (p := p) (g := g) hB1; have hFa := hF.out.trans f1; have k0a := Fr.keep f1 hb0.out n0p n0g (by decide); have k2a := Fr.keep f1 hb2.out n2p n2g (by decide); have k3a := Fr.keep f1 hb3.out n3p n3g (by decide); clear q1 f1 hB1; have q0 := cell_of_heap (j := 0) k0a rfl; have s0 := cell_of_heap (j := 0) k2a rfl; have t0 := cell_of_heap (j := 0) k3a rfl; have t1 := cell_of_heap (j := 1) k3a rfl; have t2 := cell_of_heap (j := 2) k3a rfl; have t3 := cell_of_heap (j := 3) k3a rfl; have t4 := cell_of_heap (j := 4) k3a rfl; have y0 := blk_frozen k3a 0; have y1 := blk_frozen k3a 1; have y2 := blk_frozen k3a 2; have y3 := blk_frozen k3a 3; have y4 := blk_frozen k3a 4; have x0 := blk_frozen k2a 0; replace k0a := Lib.hid k0a; replace k2a := Lib.hid k2a; replace k3a := Lib.hid k3a; replace hAa := Lib.hid hAa; replace hFa := Lib.hid hFa)
  | (go_at_call 186; refine (hp.out _).mono ?_; rintro e w2 ⟨rfl, hB2⟩; have hAb := hAa.out.below hB2; have fb := Fr.of_below (B := B) (p := p) (g := g) hB2; have hFb := hFa.out.trans fb; clear q0 s0 t0 t1 t2 t3 t4 y0 y1 y2 y3 y4 x0; have k0b := Fr.keep fb k0a.out n0p n0g (by decide); have k2b := Fr.keep fb k2a.out n2p n2g (by decide); have k3b := Fr.keep fb k3a.out n3p n3g (by decide); clear fb hB2; have q0 := cell_of_heap (j := 0) k0b rfl; have s0 := cell_of_heap (j := 0) k2b rfl; have t0 := cell_of_heap (j := 0) k3b rfl; have t1 := cell_of_heap (j := 1) k3b rfl; have t2 := cell_of_heap (j := 2) k3b rfl; have t3 := cell_of_heap (j := 3) k3b rfl; have t4 := cell_of_heap (j := 4) k3b rfl; have y0 := blk_frozen k3b 0; have y1 := blk_frozen k3b 1; have y2 := blk_frozen k3b 2; have y3 := blk_frozen k3b 3; have y4 := blk_frozen k3b 4; have x0 := blk_frozen k2b 0; replace k0b := Lib.hid k0b; replace k2b := Lib.hid k2b; replace k3b := Lib.hid k3b; replace hAb := Lib.hid hAb; replace hFb := Lib.hid hFb)
  | (go_at_call 185; go_must (refine (hd.out _ hAb.out.mem).mono ?_); rintro e w3 ⟨rfl, hmc, hBc⟩; have hAc := hAb.out.mem_to hmc hBc; have fc := Fr.of_but (B := B) (p := p) hBc; have hFc := hFb.out.trans fc; clear q0 s0 t0 t1 t2 t3 t4 y0 y1 y2 y3 y4 x0; have k0c := Fr.keep fc k0b.out n0p n0g (by decide); have k2c := Fr.keep fc k2b.out n2p n2g (by decide); have k3c := Fr.keep fc k3b.out n3p n3g (by decide); clear fc hmc hBc; have q0 := cell_of_heap (j := 0) k0c rfl; have s0 := cell_of_heap (j := 0) k2c rfl; have t0 := cell_of_heap (j := 0) k3c rfl; have t1 := cell_of_heap (j := 1) k3c rfl; have t2 := cell_of_heap (j := 2) k3c rfl; have t3 := cell_of_heap (j := 3) k3c rfl; have t4 := cell_of_heap (j := 4) k3c rfl; have y0 := blk_frozen k3c 0; have y1 := blk_frozen k3c 1; have y2 := blk_frozen k3c 2; have y3 := blk_frozen k3c 3; have y4 := blk_frozen k3c 4; have x0 := blk_frozen k2c 0; replace k0c := Lib.hid k0c; replace k2c := Lib.hid k2c; replace k3c := Lib.hid k3c; replace hAc := Lib.hid hAc; replace hFc := Lib.hid hFc))
 have uAZ := At.putAt (hAc.out) k3c.out (by decide) n3p n3m n3g ⟨a0, a1, a2, a3, a4⟩
 have uFZ := Fr.putAt (hFc.out) (k := b + 1 + 1 + 1) (by have := hbs.out; omega) ⟨a0, a1, a2, a3, a4⟩
 have u3Z := putAt_blk (k3c.out) ⟨a0, a1, a2, a3, a4⟩
 have u2Z := (putAt_far w3 (b + 1 + 1 + 1) ⟨a0, a1, a2, a3, a4⟩ (b + 1 + 1) n23).trans (k2c.out)
 have hAZ := uAZ
 have hFZ := uFZ
 have k2Z := u2Z
 have k3Z := u3Z
 obtain ⟨W4, hW4⟩ : ∃ W4, W4 = (putAt w3 (b + 1 + 1 + 1) ⟨a0, a1, a2, a3, a4⟩) := ⟨_, rfl⟩
 unfold putAt at hW4
 rw [← hW4]
 change W4 = (putAt w3 (b + 1 + 1 + 1) ⟨a0, a1, a2, a3, a4⟩) at hW4
 rw [← hW4] at hAZ hFZ k2Z k3Z
 replace k2Z : W4.heap[b + 1 + 1]? = some (.cells #[.int .i64 0] 47 (0, 0)) := k2Z
 replace k3Z : W4.heap[b + 1 + 1 + 1]? = some (.cells #[.int .i64 a0, .int .i64 a1, .int .u32 a2, .int .u32 a3, .int .u32 a4] 38 (0, 0)) := k3Z
 clear hW4 uAZ uFZ u3Z u2Z
 have g2 := blk_drew k2Z
 have g3 := blk_drew k3Z
 have i0 := cell_of_heap (j := 0) g2 rfl
 have j0 := cell_of_heap (j := 0) g3 rfl
 have j1 := cell_of_heap (j := 1) g3 rfl
 have j2 := cell_of_heap (j := 2) g3 rfl
 have j3 := cell_of_heap (j := 3) g3 rfl
 have j4 := cell_of_heap (j := 4) g3 rfl
 have z2 := blk_frozen k2Z 0
 have z30 := blk_frozen k3Z 0
 have z31 := blk_frozen k3Z 1
 have z32 := blk_frozen k3Z 2
 have z33 := blk_frozen k3Z 3
 have z34 := blk_frozen k3Z 4
 have i90 := cell_of_heap (j := 0) k2Z rfl
 have j90 := cell_of_heap (j := 0) k3Z rfl
 have j91 := cell_of_heap (j := 1) k3Z rfl
 have j92 := cell_of_heap (j := 2) k3Z rfl
 have j93 := cell_of_heap (j := 3) k3Z rfl
 have j94 := cell_of_heap (j := 4) k3Z rfl
 refine start_ (n := 8) (S := fun w' => w'.cell? ⟨b + 1 + 1, 0, none⟩ = some (.int .i64 0) ∧ w'.cell? ⟨b + 1 + 1 + 1, 0, none⟩ = some (.int .i64 a0) ∧ w'.cell? ⟨b + 1 + 1 + 1, 1, none⟩ = some (.int .i64 a1) ∧ w'.cell? ⟨b + 1 + 1 + 1, 2, none⟩ = some (.int .u32 a2) ∧ w'.cell? ⟨b + 1 + 1 + 1, 3, none⟩ = some (.int .u32 a3) ∧ w'.cell? ⟨b + 1 + 1 + 1, 4, none⟩ = some (.int .u32 a4)) (ds := [5]) #[false, false, false, false, false, false, false, false] (by kernel_rfl) rfl rfl ⟨i0, j0, j1, j2, j3, j4⟩ (fun hHeld => ?_)
 refine pu_ 2 98 (mk 8 4) rfl rfl ?_
 refine pu_ 3 99 (mk 8 12) rfl rfl ?_
 refine take_ (i := 0) (N := some 96) (v := ?_) (a' := ?_) (mk 8 13) rfl rfl (by kernel_rfl) (fun _ _ _ h => h) (Or.inl ⟨by rfl, ?_⟩) hHeld ?_ ?_
 rotate_left
 ·rintro w' ⟨s0, s1, s2, s3, s4, s5⟩
  go_simp
  with_reducible rfl
 rotate_left
 ·exact e4
 refine take_ (i := 1) (N := some 97) (v := ?_) (a' := ?_) (mk 8 15) rfl rfl (by kernel_rfl) (fun _ _ _ h => h) (Or.inl ⟨by rfl, ?_⟩) hHeld ?_ ?_
 rotate_left
 ·rintro w' ⟨s0, s1, s2, s3, s4, s5⟩
  go_simp
  with_reducible rfl
 rotate_left
 ·exact e4
 refine one_ (i := 4) (N := none) (mk 8 31) rfl rfl (by kernel_rfl) (by decide) (fun K hK => ?_)
 refine skip_ (w1 := ?_) (by rfl) rfl ?_ ?_
 rotate_left
 ·go_simp
  rfl
 refine hK.out _ _ ⟨cell_of_heap (blk_drew (blk_set k2Z 0 (.int .i64 0))) rfl, cell_of_heap (blk_drew (blk_far k3Z (p := ⟨b + 1 + 1, 0, none⟩) n32 (.int .i64 0))) rfl, cell_of_heap (blk_drew (blk_far k3Z (p := ⟨b + 1 + 1, 0, none⟩) n32 (.int .i64 0))) rfl, cell_of_heap (blk_drew (blk_far k3Z (p := ⟨b + 1 + 1, 0, none⟩) n32 (.int .i64 0))) rfl, cell_of_heap (blk_drew (blk_far k3Z (p := ⟨b + 1 + 1, 0, none⟩) n32 (.int .i64 0))) rfl, cell_of_heap (blk_drew (blk_far k3Z (p := ⟨b + 1 + 1, 0, none⟩) n32 (.int .i64 0))) rfl⟩ (fun hHeld => ?_)
 clear hK K
 refine last_ (i := 5) (N := none) (mk 8 63) rfl rfl (by kernel_rfl) (by decide) (fun K hK => ?_)
 refine skip_ (w1 := ?_) (by rfl) rfl ?_ ?_
 rotate_left
 ·go_simp
  rfl
 refine hK.out _ _ ?_
 clear hK K
 refine pu_ 6 16 (mk 8 127) rfl rfl ?_
 refine pu_ 7 17 (mk 8 255) rfl rfl ?_
 refine done_ (by kernel_rfl) ?_
 have wA := At.far (a := ⟨b + 1 + 1, 0, none⟩) hAZ k2Z (by decide) n2p n2m n2g (.int .i64 0)
 have wF := Fr.set hFZ ⟨b + 1 + 1, 0, none⟩ (.inr (.inr (by show w.heap.size ≤ b + 1 + 1; have := hbs.out; omega))) (.int .i64 0)
 have w2 := blk_set k2Z 0 (.int .i64 0)
 have w3 := blk_far k3Z (p := ⟨b + 1 + 1, 0, none⟩) n32 (.int .i64 0)
 have xA := (At.putAt wA w3 (by decide) n3p n3m n3g ⟨a0, a1, a2, a3, a4⟩).drew
 have xF := (Fr.putAt wF (k := b + 1 + 1 + 1) (by have := hbs.out; omega) ⟨a0, a1, a2, a3, a4⟩).drew
 have x3 := blk_drew (putAt_blk w3 ⟨a0, a1, a2, a3, a4⟩)
 have x2 := blk_drew ((putAt_far _ (b + 1 + 1 + 1) ⟨a0, a1, a2, a3, a4⟩ (b + 1 + 1) n23).trans w2)
 replace wA := Lib.hid wA
 replace wF := Lib.hid wF
 replace w2 := Lib.hid w2
 replace w3 := Lib.hid w3
 replace xA := Lib.hid xA
 replace xF := Lib.hid xF
 replace x2 := Lib.hid x2
 replace x3 := Lib.hid x3
 go_wp2
 (try simp only [Exit.inBlock, Exit.then])
 refine bodyPost_ret (results_list (vs := [.agg #[.int .i64 0], .agg #[.int .i64 a0, .int .i64 a1, .int .u32 a2, .int .u32 a3, .int .u32 a4], .bool false, .bool true]) rfl (by simp) (.cell (b + 1 + 1) 47 #[.int .i64 0] (0, 0) _ rfl x2.out Tryz.underlying47 rfl (by kernel_rfl) (.cell (b + 1 + 1 + 1) 38 #[.int .i64 a0, .int .i64 a1, .int .u32 a2, .int .u32 a3, .int .u32 a4] (0, 0) _ rfl x3.out Tryz.underlying38 rfl (by kernel_rfl) (.tmp (.tmp .nil))))) rfl ?_
 exact ⟨rfl, xA.out, xF.out⟩
theorem stageOf_lt (mode st : Int) : 0 ≤ stageOf mode st ∧ stageOf mode st ≤ 4 := by
 unfold stageOf
 split <;> omega
theorem stageOf_two {mode st : Int} (h : stageOf mode st = 2) : mode = 2 := by
 unfold stageOf at h
 split at h <;> omega
theorem step_walk (h : At B w p pm g r) (hw32 : ∀ i, W32 (r.l.getD i 0)) (st c : Int) (kf : Nat) (caps : Array Value) (set : Bool) (is : Int → Bool) (hT : Tells B p pm g r set is kf caps w) : Calls Tryz.prog 148 #[.pointer (some ⟨pm, 0, none⟩), .agg #[.int .i64 r.n], .int .i64 r.mode, .int .i64 r.task, .agg #[.int .i64 st], .int .i64 c, .func (.func kf) #[] caps] w fun e w' =>
  e = .returned (.tuple #[.agg #[.int .i64 (waitStep r.l r.n r.mode r.task st c is).stage], accV (waitStep r.l r.n r.mode r.task st c is).acc, .bool (waitStep r.l r.n r.mode r.task st c is).seen, .bool (waitStep r.l r.n r.mode r.task st c is).done]) ∧
  At B w' p pm g (kept set { r with l := (waitStep r.l r.n r.mode r.task st c is).l } (waitStep r.l r.n r.mode r.task st c is).seen (waitStep r.l r.n r.mode r.task st c is).acc.old) ∧ Fr B p g w w' := by
 have hb := stageOf_lt r.mode st
 have hcase : stageOf r.mode st = 0 ∨ stageOf r.mode st = 1 ∨ stageOf r.mode st = 2 ∨ stageOf r.mode st = 3 ∨ stageOf r.mode st = 4 := by omega
 have hk : ∀ (l : List Int) (v : Int), kept set { r with l := l } false v = { r with l := l } := fun l v => by simp [kept]
 rcases hcase with hs | hs | hs | hs | hs
 ·cases hi : is (doAcc r.l 1 c 0 0).1.old with
  | true =>
   have := look_seen h st c kf caps hs hw32 set is hT hi
   simp only [waitStep, hs, hi, if_true, true_or, if_neg (show ¬ ((0 : Int) = 2) by decide)]
   exact this
  | false =>
   by_cases hm : r.mode = 2
   ·have := look_park h st c kf caps hs hw32 set is hT hi hm
    simp only [waitStep, hs, hi, true_or, if_true, if_pos hm, Bool.false_eq_true, if_false]
    exact this
   ·have := look_spin h st c kf caps hs hw32 set is hT hi hm
    simp only [waitStep, hs, hi, true_or, if_true, if_neg hm, Bool.false_eq_true, if_false]
    exact this
 ·have := announce_walk h st c kf caps hs
  simp only [waitStep, hs, if_neg (show ¬ ((1 : Int) = 0 ∨ (1 : Int) = 2) by decide), if_true, hk]
  exact this
 ·have hm := stageOf_two hs
  cases hi : is (doAcc r.l 1 c 0 0).1.old with
  | true =>
   have := again_seen h st c kf caps hs hw32 set is hT hi
   simp only [waitStep, hs, hi, or_true, if_true]
   exact this
  | false =>
   have := again_park h st c kf caps hs hw32 set is hT hi hm
   simp only [waitStep, hs, hi, or_true, if_true, if_pos hm, Bool.false_eq_true, if_false]
   exact this
 ·simp only [waitStep, hs, if_neg (show ¬ ((3 : Int) = 0 ∨ (3 : Int) = 2) by decide), if_neg (show ¬ ((3 : Int) = 1) by decide), if_true, hk]
  cases hv : (takePermit r.l r.n r.task).2.1 with
  | true =>
   have := sleep1_walk h st c kf caps hs hv
   simp only [if_true]
   exact this
  | false =>
   have := sleep0_walk h st c kf caps hs hv
   simp only [Bool.false_eq_true, if_false]
   exact this
 ·have := forget_walk h st c kf caps hs
  simp only [waitStep, hs, if_neg (show ¬ ((4 : Int) = 0 ∨ (4 : Int) = 2) by decide), if_neg (show ¬ ((4 : Int) = 1) by decide), if_neg (show ¬ ((4 : Int) = 3) by decide), hk]
  exact this
theorem kept_eq (set : Bool) (r : Run) (s : Bool) (v : Int) : (kept set r s v).n = r.n ∧ (kept set r s v).mode = r.mode ∧ (kept set r s v).task = r.task ∧ (kept set r s v).f.stage = r.f.stage := by
 unfold kept
 split <;> exact ⟨rfl, rfl, rfl, rfl⟩
set_option maxHeartbeats 4000000 in
theorem wait_run (h : At B w p pm g r) (hw32 : ∀ i, W32 (r.l.getD i 0)) (c : Int) (kf : Nat) (caps : Array Value) (set : Bool) (is : Int → Bool) (hT : Tells B p pm g r set is kf caps w) : Calls Tryz.prog 101 #[.pointer (some ⟨p, 0, none⟩), .int .i64 c, .func (.func kf) #[] caps] w fun e w' =>
  e = .returned (.tuple #[.bool (r.waited c is).seen, .bool (r.waited c is).done]) ∧ At B w' p pm g (kept set (r.wait c is) (r.waited c is).seen (r.waited c is).acc.old) ∧ Fr B p g w w' := by
 have hT' : Tells B p pm g r set is kf caps w.drew := ⟨hT.1, fun w1 v hv hf ha => hT.2 w1 v hv ((Fr.refl B p g w).drew.trans hf) ha⟩
 have hst := step_walk h.drew hw32 r.f.stage c kf caps set is hT'
 have hw : r.wait c is = { r with l := (r.waited c is).l, acc := (r.waited c is).acc, f := { r.f with stage := (r.waited c is).stage } } := rfl
 have hwd : waitStep r.l r.n r.mode r.task r.f.stage c is = r.waited c is := rfl
 rw [hw]
 rw [hwd] at hst
 clear hw hwd
 obtain ⟨W, hW⟩ : ∃ W, W = r.waited c is := ⟨_, rfl⟩
 rw [← hW] at hst ⊢
 clear hW hT hT'
 obtain ⟨ws, wacc, seen, done, wl⟩ := W
 obtain ⟨a0, a1, a2, a3, a4⟩ := wacc
 simp only at hst ⊢
 obtain ⟨r1, hr1⟩ : ∃ r1, r1 = kept set { r with l := wl } seen a4 := ⟨_, rfl⟩
 have hfin : { r1 with acc := ⟨a0, a1, a2, a3, a4⟩, f := { r1.f with stage := ws } } = kept set { r with l := wl, acc := ⟨a0, a1, a2, a3, a4⟩, f := { r.f with stage := ws } } seen a4 := by
  rw [hr1]
  unfold kept
  split <;> rfl
 rw [← hfin]
 clear hfin
 rw [← hr1] at hst
 obtain ⟨en, em, et, es⟩ : r1.n = r.n ∧ r1.mode = r.mode ∧ r1.task = r.task ∧ r1.f.stage = r.f.stage := by
  rw [hr1]
  exact kept_eq _ _ _ _
 clear hr1
 unfold accV at hst
 have c0 := h.drew.cell 0 (fun _ => rfl)
 have c1 := h.drew.cell 1 (fun _ => rfl)
 have c2 := h.drew.cell 2 (fun _ => rfl)
 have c3 := h.drew.cell 3 (fun _ => rfl)
 have c8 := h.drew.cell 8 (fun _ => rfl)
 replace h := Lib.hid h
 replace hst := Lib.hid hst
 replace en := Lib.hid en
 replace em := Lib.hid em
 replace et := Lib.hid et
 replace es := Lib.hid es
 go_enter Tryz.func101, Tryz.ntmps101
 go_upto_region 3 with (fail)
 refine start_ (n := 40) (S := fun w' => w'.cell? ⟨p, 0, none⟩ = some (.pointer (some ⟨pm, 0, none⟩)) ∧ w'.cell? ⟨p, 1, none⟩ = some (.int .i64 r.n) ∧ w'.cell? ⟨p, 2, none⟩ = some (.int .i64 r.mode) ∧ w'.cell? ⟨p, 3, none⟩ = some (.int .i64 r.task) ∧ w'.cell? ⟨p, 8, none⟩ = some (.int .i64 r.f.stage)) (ds := [34, 37]) #[false, false, false, false, false, false, false, false, false, false, false, false, false, false, false, false, false, false, false, false, false, false, false, false, false, false, false, false, false, false, false, false, false, false, false, false, false, false, false, false] (by kernel_rfl) rfl rfl ⟨c0, c1, c2, c3, c8⟩ (fun hHeld => ?_)
 refine pu_ 0 11 (mk 40 1) rfl rfl ?_
 refine pu_ 1 12 (mk 40 3) rfl rfl ?_
 refine pu_ 2 13 (mk 40 7) rfl rfl ?_
 refine pu_ 3 14 (mk 40 15) rfl rfl ?_
 refine pu_ 4 15 (mk 40 31) rfl rfl ?_
 refine pu_ 6 17 (mk 40 95) rfl rfl ?_
 refine pu_ 7 18 (mk 40 223) rfl rfl ?_
 refine pu_ 8 19 (mk 40 479) rfl rfl ?_
 refine pu_ 10 21 (mk 40 1503) rfl rfl ?_
 refine pu_ 11 22 (mk 40 3551) rfl rfl ?_
 refine pu_ 12 23 (mk 40 7647) rfl rfl ?_
 refine pu_ 14 25 (mk 40 24031) rfl rfl ?_
 refine pu_ 15 26 (mk 40 56799) rfl rfl ?_
 refine pu_ 16 27 (mk 40 122335) rfl rfl ?_
 refine pu_ 18 29 (mk 40 384479) rfl rfl ?_
 refine pu_ 19 30 (mk 40 908767) rfl rfl ?_
 refine pu_ 20 31 (mk 40 1957343) rfl rfl ?_
 refine pu_ 21 32 (mk 40 4054495) rfl rfl ?_
 refine pu_ 23 34 (mk 40 12443103) rfl rfl ?_
 refine pu_ 24 35 (mk 40 29220319) rfl rfl ?_
 refine tk5_ 5 16 (mk 40 29220351) rfl rfl hHeld ?_
 refine tk5_ 9 20 (mk 40 29220863) rfl rfl hHeld ?_
 refine tk5_ 13 24 (mk 40 29229055) rfl rfl hHeld ?_
 refine tk5_ 17 28 (mk 40 29360127) rfl rfl hHeld ?_
 refine tk5_ 22 33 (mk 40 33554431) rfl rfl hHeld ?_
 refine one_ (i := 25) (N := some 36) (mk 40 67108863) rfl rfl (by kernel_rfl) (by decide) (fun K hK => ?_)
 refine goes_ Tryz.func148 (by kernel_rfl) rfl #[.pointer (some ⟨pm, 0, none⟩), .agg #[.int .i64 r.n], .int .i64 r.mode, .int .i64 r.task, .agg #[.int .i64 r.f.stage], .int .i64 c, .func (.func kf) #[] caps] (by rfl) rfl rfl (by simp only [List.map_toArray, List.map_cons, List.map_nil]; rfl) ?_
 with_reducible refine (hst.out).mono ?_
 rintro e w1 ⟨rfl, hA1, hF1⟩
 refine ⟨_, rfl, ?_⟩
 have d0 := hA1.cell 0 (fun _ => rfl)
 have d1 := hA1.cell 1 (fun _ => rfl)
 have d2 := hA1.cell 2 (fun _ => rfl)
 have d3 := hA1.cell 3 (fun _ => rfl)
 have d8 := hA1.cell 8 (fun _ => rfl)
 rw [en.out] at d1
 rw [em.out] at d2
 rw [et.out] at d3
 have s8 := hA1.cell 8 (fun _ => rfl)
 rw [es.out] at d8
 replace d0 := Lib.hid d0
 replace d1 := Lib.hid d1
 replace d2 := Lib.hid d2
 replace d3 := Lib.hid d3
 replace d8 := Lib.hid d8
 have z8 := hA1.frozen 8
 have s14 := hA1.cell 14 (fun _ => rfl)
 have s15 := hA1.cell 15 (fun _ => rfl)
 have s16 := hA1.cell 16 (fun _ => rfl)
 have s17 := hA1.cell 17 (fun _ => rfl)
 have s18 := hA1.cell 18 (fun _ => rfl)
 have z14 := hA1.frozen 14
 have z15 := hA1.frozen 15
 have z16 := hA1.frozen 16
 have z17 := hA1.frozen 17
 have z18 := hA1.frozen 18
 have hF1 := (Fr.refl B p g w).drew.trans hF1
 replace hA1 := Lib.hid hA1
 replace hF1 := Lib.hid hF1
 refine hK.out _ _ ⟨d0.out, d1.out, d2.out, d3.out, d8.out⟩ (fun hHeld => ?_)
 clear hK K
 refine nm_ ?_
 refine pu_ 26 10 (mk 40 134217727) rfl rfl ?_
 refine pu_ 27 37 (mk 40 268435455) rfl rfl ?_
 refine pu_ 28 38 (mk 40 536870911) rfl rfl ?_
 refine pu_ 29 39 (mk 40 1073741823) rfl rfl ?_
 refine pu_ 30 40 (mk 40 2147483647) rfl rfl ?_
 refine pu_ 31 41 (mk 40 4294967295) rfl rfl ?_
 refine pu_ 32 42 (mk 40 8589934591) rfl rfl ?_
 refine pu_ 33 43 (mk 40 17179869183) rfl rfl ?_
 refine last_ (i := 34) (N := none) (mk 40 34359738367) rfl rfl (by kernel_rfl) (by decide) (fun K hK => ?_)
 refine skip_ (w1 := ?_) (by rfl) rfl ?_ ?_
 rotate_left
 ·go_simp
  rfl
 refine hK.out _ _ ?_
 clear hK K
 refine pu_ 35 44 (mk 40 68719476735) rfl rfl ?_
 refine pu_ 36 45 (mk 40 137438953471) rfl rfl ?_
 refine last_ (i := 37) (N := none) (mk 40 274877906943) rfl rfl (by kernel_rfl) (by decide) (fun K hK => ?_)
 refine skip_ (w1 := ?_) (by rfl) rfl ?_ ?_
 rotate_left
 ·go_simp
  rfl
 refine hK.out _ _ ?_
 clear hK K
 refine pu_ 38 6 (mk 40 549755813887) rfl rfl ?_
 refine pu_ 39 7 (mk 40 1099511627775) rfl rfl ?_
 refine done_ (by kernel_rfl) ?_
 have b1 := hA1.out.store 8 (.int .i64 ws) { r1 with f := { r1.f with stage := ws } } (fun _ => rfl) rfl rfl
 have g1 := hF1.out.set ⟨p, 8, none⟩ (.inl rfl) (.int .i64 ws)
 have b2 := b1.putAcc ⟨a0, a1, a2, a3, a4⟩
 have g2 := g1.putAcc ⟨a0, a1, a2, a3, a4⟩
 replace b1 := Lib.hid b1
 replace g1 := Lib.hid g1
 replace b2 := Lib.hid b2
 replace g2 := Lib.hid g2
 go_wp2
 go_ret2
 exact ⟨rfl, b2.out, g2.out⟩
end Go.Proofs.YtkmlefbdhdlfmaaGreat.Wo
