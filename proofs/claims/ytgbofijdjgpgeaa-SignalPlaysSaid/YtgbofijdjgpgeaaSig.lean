/- The boxes of package signal: what Put, Take, Full, New do, in one goroutine. -/
import Derived.Test.YtgbofijdjgpgeaaProg
import Derived.Conc.LoneCalls
import Derived.Conc.LoneSelect
import Derived.Conc.LoneSelectN
import Derived.WalkKit
import Derived.KernelRfl
import Derived.Lib.Hide
import Derived.LoopTactic
namespace Go.Proofs.Ytgbofijdjgpgeaa.Sig
open Go.RowKit Go.Conc


/-- w' is w but for block c. -/
structure Only (w w' : World) (c : Nat) : Prop where
  size : w'.heap.size = w.heap.size
  other : ∀ b, b ≠ c → w'.heap[b]? = w.heap[b]?
  os : w'.os = w.os
  tape : w'.tape = w.tape
  output : w'.output = w.output
theorem Only.refl (w : World) (c : Nat) : Only w w c := ⟨rfl, fun _ _ => rfl, rfl, rfl, rfl⟩
theorem Only.setChan (w : World) (c cap : Nat) (buf : Array Value) (cl : Bool) (s r : Nat) (tm : Bool) : Only w (w.setChan c cap buf cl s r tm) c :=
  ⟨by simp [World.setChan], fun b hb => by simp [World.setChan, Array.getElem?_setIfInBounds_ne (Ne.symm hb)], rfl, rfl, rfl⟩
theorem Only.below {w w' : World} {c B : Nat} (h : Only w w' c) (hB : B ≤ c) {w0 : World} (k : Below B w0 w) : Below B w0 w' :=
  ⟨h.os.trans k.os, h.tape.trans k.tape, h.output.trans k.output, h.size ▸ k.size, fun b hb => (h.other b (by omega)).trans (k.block b hb)⟩

/-- Block bb is a box; its channel is block c; it holds ct. -/
structure Box (w : World) (t : TypeId) (bb c : Nat) (ct : Option Value) : Prop where
  cell : w.heap[bb]? = some (.cells #[.chan (some c)] t (0, 0))
  chan : ∃ s r, w.heap[c]? = some (.chan 1 (match ct with | some v => #[v] | none => #[]) false s r false)
theorem Box.lt {w : World} {t : TypeId} {bb c : Nat} {ct : Option Value} (h : Box w t bb c ct) : bb < w.heap.size ∧ c < w.heap.size := by
  obtain ⟨s, r, hc⟩ := h.chan
  exact ⟨(Array.getElem?_eq_some_iff.1 h.cell).1, (Array.getElem?_eq_some_iff.1 hc).1⟩
theorem Box.ne {w : World} {t : TypeId} {bb c : Nat} {ct : Option Value} (h : Box w t bb c ct) : bb ≠ c := by
  rintro rfl
  obtain ⟨s, r, hc⟩ := h.chan
  rw [h.cell] at hc
  cases hc
theorem Box.of_blocks {w w' : World} {t : TypeId} {bb c : Nat} {ct : Option Value} (h : Box w t bb c ct) (h1 : w'.heap[bb]? = w.heap[bb]?) (h2 : w'.heap[c]? = w.heap[c]?) : Box w' t bb c ct :=
  ⟨h1.trans h.cell, by obtain ⟨s, r, hc⟩ := h.chan; exact ⟨s, r, h2.trans hc⟩⟩
theorem Box.below {w w' : World} {t : TypeId} {bb c B : Nat} {ct : Option Value} (h : Box w t bb c ct) (hb : Below B w w') (h1 : bb < B) (h2 : c < B) : Box w' t bb c ct :=
  h.of_blocks (hb.block _ h1) (hb.block _ h2)
theorem Box.grown {w w' : World} {t : TypeId} {bb c : Nat} {ct : Option Value} (h : Box w t bb c ct) (hb : Below w.heap.size w w') : Box w' t bb c ct :=
  h.below hb h.lt.1 h.lt.2
theorem Box.only {w w' : World} {t : TypeId} {bb c d : Nat} {ct : Option Value} (h : Box w t bb c ct) (k : Only w w' d) (h1 : bb ≠ d) (h2 : c ≠ d) : Box w' t bb c ct :=
  h.of_blocks (k.other _ h1) (k.other _ h2)


set_option maxRecDepth 100000 in
set_option maxHeartbeats 1000000 in
theorem put_int_room (x : Int) (bb c : Nat) (w : World) (s r : Nat) (h : w.heap[bb]? = some (.cells #[.chan (some c)] 61 (0, 0))) (hc : w.heap[c]? = some (.chan 1 #[] false s r false)) :
    Calls Try.prog 35 #[.pointer (some ⟨bb, 0, none⟩), .int .i64 x] w fun e w' => e = .returned (.bool true) ∧ w' = w.setChan c 1 #[.int .i64 x] false (s + 1) r false := by
  refine calls_of_loneTo fun cs => ?_
  have e : Frame.enter Try.prog 35 #[.pointer (some ⟨bb, 0, none⟩), .int .i64 x] .normal = (base 35).at ⟨#[.pointer (some ⟨bb, 0, none⟩), .int .i64 x, undef, undef, undef, undef, undef, undef, undef, undef, undef, undef, undef, undef, undef], []⟩ [.code (Try.f35.body.getD .skip)] := by
    simp [Frame.enter, Frame.at, Try.func35, base, Try.f35]
  rw [e]
  have hcell : w.cell? ⟨bb, 0, none⟩ = some (.chan (some c)) := by simp [World.cell?, h]
  refine LoneTo.goes (n := 25) ?_
  simp only [Try.f35, Option.getD_some]
  s_c stepG_seq
  s_reg
  s_op
  s_c stepG_region_end
  s_c stepG_seq
  s_c stepG_seq
  s_reg
  s_op
  s_op
  s_c stepG_region_end
  s_cond false
  s_c stepG_skip
  s_c stepG_seq
  s_c stepG_seq
  s_reg
  s_op
  s_op
  s_op
  s_op
  s_c stepG_region_end
  s_reg
  s_op
  s_c stepG_region_end
  s_c stepG_seq
  s_reg
  s_stop
  refine LoneTo.step (step_lone_select_send_room (c := c) (v := .int .i64 x) (z' := .int .i64 0) (cap := 1) (buf := #[]) (s := s) (r := r) (tm := false) (stepG_comm (cases := #[scase c (.int .i64 x) (.int .i64 0)]) (blocking := false) (shape := .select) (w' := w) rfl rfl (by decide) (by simp [go_sem, execOp, scase, Act.eval])) hc (by simp)) ?_
  rw [Frame.finish_at]
  walk_nrm
  refine LoneTo.goes (n := 10) ?_
  s_op
  s_op
  s_c stepG_region_end
  s_c stepG_block
  s_cond true
  s_c stepG_seq
  s_reg
  s_op
  s_c stepG_region_end
  s_c stepG_ret'
  s_stop
  exact LoneTo.done ⟨.returned (.bool true), _, rfl, ⟨rfl, rfl⟩, rfl, rfl, rfl, rfl, _, Try.func35, by simp [results, Try.f35, Frame.at]⟩

set_option maxRecDepth 100000 in
set_option maxHeartbeats 1000000 in
theorem put_int_full (x : Int) (u : Value) (bb c : Nat) (w : World) (s r : Nat) (h : w.heap[bb]? = some (.cells #[.chan (some c)] 61 (0, 0))) (hc : w.heap[c]? = some (.chan 1 #[u] false s r false)) :
    Calls Try.prog 35 #[.pointer (some ⟨bb, 0, none⟩), .int .i64 x] w fun e w' => e = .returned (.bool false) ∧ w' = w := by
  refine calls_of_loneTo fun cs => ?_
  have e : Frame.enter Try.prog 35 #[.pointer (some ⟨bb, 0, none⟩), .int .i64 x] .normal = (base 35).at ⟨#[.pointer (some ⟨bb, 0, none⟩), .int .i64 x, undef, undef, undef, undef, undef, undef, undef, undef, undef, undef, undef, undef, undef], []⟩ [.code (Try.f35.body.getD .skip)] := by
    simp [Frame.enter, Frame.at, Try.func35, base, Try.f35]
  rw [e]
  have hcell : w.cell? ⟨bb, 0, none⟩ = some (.chan (some c)) := by simp [World.cell?, h]
  refine LoneTo.goes (n := 25) ?_
  simp only [Try.f35, Option.getD_some]
  s_c stepG_seq
  s_reg
  s_op
  s_c stepG_region_end
  s_c stepG_seq
  s_c stepG_seq
  s_reg
  s_op
  s_op
  s_c stepG_region_end
  s_cond false
  s_c stepG_skip
  s_c stepG_seq
  s_c stepG_seq
  s_reg
  s_op
  s_op
  s_op
  s_op
  s_c stepG_region_end
  s_reg
  s_op
  s_c stepG_region_end
  s_c stepG_seq
  s_reg
  s_stop
  refine LoneTo.step (step_lone_select_send_full (c := c) (v := .int .i64 x) (z' := .int .i64 0) (cap := 1) (buf := #[u]) (s := s) (r := r) (tm := false) (stepG_comm (cases := #[scase c (.int .i64 x) (.int .i64 0)]) (blocking := false) (shape := .select) (w' := w) rfl rfl (by decide) (by simp [go_sem, execOp, scase, Act.eval])) hc (by simp)) ?_
  rw [Frame.finish_at]
  walk_nrm
  refine LoneTo.goes (n := 10) ?_
  s_op
  s_op
  s_c stepG_region_end
  s_c stepG_block
  s_cond false
  s_c stepG_seq
  s_reg
  s_op
  s_c stepG_region_end
  s_c stepG_ret'
  s_stop
  exact LoneTo.done ⟨.returned (.bool false), _, rfl, ⟨rfl, rfl⟩, rfl, rfl, rfl, rfl, _, Try.func35, by simp [results, Try.f35, Frame.at]⟩

set_option maxRecDepth 100000 in
set_option maxHeartbeats 1000000 in
theorem take_int_some (x : Int) (bb c : Nat) (w : World) (s r : Nat) (h : w.heap[bb]? = some (.cells #[.chan (some c)] 61 (0, 0))) (hc : w.heap[c]? = some (.chan 1 #[.int .i64 x] false s r false)) :
    Calls Try.prog 37 #[.pointer (some ⟨bb, 0, none⟩)] w fun e w' => e = .returned (.tuple #[.int .i64 x, .bool true]) ∧ w' = w.setChan c 1 #[] false s (r + 1) false := by
  refine calls_of_loneTo fun cs => ?_
  have e : Frame.enter Try.prog 37 #[.pointer (some ⟨bb, 0, none⟩)] .normal = (base 37).at ⟨#[.pointer (some ⟨bb, 0, none⟩), undef, undef, undef, undef, undef, undef, undef, undef, undef, undef, undef, undef, undef, undef, undef, undef], []⟩ [.code (Try.f37.body.getD .skip)] := by
    simp [Frame.enter, Frame.at, Try.func37, base, Try.f37]
  rw [e]
  have hcell : w.cell? ⟨bb, 0, none⟩ = some (.chan (some c)) := by simp [World.cell?, h]
  refine LoneTo.goes (n := 23) ?_
  simp only [Try.f37, Option.getD_some]
  s_c stepG_seq
  s_reg
  s_op
  s_op
  s_c stepG_region_end
  s_c stepG_seq
  s_c stepG_seq
  s_reg
  s_op
  s_op
  s_c stepG_region_end
  s_cond false
  s_c stepG_skip
  s_c stepG_seq
  s_reg
  s_op
  s_op
  s_op
  s_op
  s_c stepG_region_end
  s_c stepG_seq
  s_reg
  s_stop
  refine LoneTo.step (step_lone_select_recv_buf (c := c) (z := .int .i64 0) (cap := 1) (buf := #[.int .i64 x]) (closed := false) (s := s) (r := r) (tm := false) (stepG_comm (cases := #[rcase c (.int .i64 0)]) (blocking := false) (shape := .select) (w' := w) rfl rfl (by decide) (by simp [go_sem, execOp, rcase, Act.eval])) hc (by simp)) ?_
  rw [Frame.finish_at]
  walk_nrm
  refine LoneTo.goes (n := 17) ?_
  s_op
  s_op
  s_c stepG_region_end
  s_c stepG_block
  s_cond true
  s_c stepG_seq
  s_reg
  s_op
  s_op
  s_c stepG_region_end
  s_c stepG_seq
  s_reg
  s_op
  s_op
  s_op
  s_c stepG_region_end
  s_c stepG_ret'
  s_stop
  exact LoneTo.done ⟨.returned (.tuple #[.int .i64 x, .bool true]), _, rfl, ⟨rfl, by simp⟩, rfl, rfl, rfl, rfl, _, Try.func37, by simp [results, Try.f37, Frame.at]⟩

set_option maxRecDepth 100000 in
set_option maxHeartbeats 1000000 in
theorem take_int_none (bb c : Nat) (w : World) (s r : Nat) (h : w.heap[bb]? = some (.cells #[.chan (some c)] 61 (0, 0))) (hc : w.heap[c]? = some (.chan 1 #[] false s r false)) :
    Calls Try.prog 37 #[.pointer (some ⟨bb, 0, none⟩)] w fun e w' => e = .returned (.tuple #[.int .i64 0, .bool false]) ∧ w' = w := by
  refine calls_of_loneTo fun cs => ?_
  have e : Frame.enter Try.prog 37 #[.pointer (some ⟨bb, 0, none⟩)] .normal = (base 37).at ⟨#[.pointer (some ⟨bb, 0, none⟩), undef, undef, undef, undef, undef, undef, undef, undef, undef, undef, undef, undef, undef, undef, undef, undef], []⟩ [.code (Try.f37.body.getD .skip)] := by
    simp [Frame.enter, Frame.at, Try.func37, base, Try.f37]
  rw [e]
  have hcell : w.cell? ⟨bb, 0, none⟩ = some (.chan (some c)) := by simp [World.cell?, h]
  refine LoneTo.goes (n := 23) ?_
  simp only [Try.f37, Option.getD_some]
  s_c stepG_seq
  s_reg
  s_op
  s_op
  s_c stepG_region_end
  s_c stepG_seq
  s_c stepG_seq
  s_reg
  s_op
  s_op
  s_c stepG_region_end
  s_cond false
  s_c stepG_skip
  s_c stepG_seq
  s_reg
  s_op
  s_op
  s_op
  s_op
  s_c stepG_region_end
  s_c stepG_seq
  s_reg
  s_stop
  refine LoneTo.step (step_lone_select_default (c := c) (z := .int .i64 0) (cap := 1) (s := s) (r := r) (tm := false) (stepG_comm (cases := #[rcase c (.int .i64 0)]) (blocking := false) (shape := .select) (w' := w) rfl rfl (by decide) (by simp [go_sem, execOp, rcase, Act.eval])) hc) ?_
  rw [Frame.finish_at]
  walk_nrm
  refine LoneTo.goes (n := 12) ?_
  s_op
  s_op
  s_c stepG_region_end
  s_c stepG_block
  s_cond false
  s_c stepG_seq
  s_reg
  s_op
  s_op
  s_op
  s_c stepG_region_end
  s_c stepG_ret'
  s_stop
  exact LoneTo.done ⟨.returned (.tuple #[.int .i64 0, .bool false]), _, rfl, ⟨rfl, by simp⟩, rfl, rfl, rfl, rfl, _, Try.func37, by simp [results, Try.f37, Frame.at]⟩

theorem put_int (x : Int) (bb c : Nat) (ct : Option Value) (w : World) (h : Box w 61 bb c ct) :
    Calls Try.prog 35 #[.pointer (some ⟨bb, 0, none⟩), .int .i64 x] w fun e w' => e = .returned (.bool ct.isNone) ∧ Box w' 61 bb c (some (ct.getD (.int .i64 x))) ∧ Only w w' c := by
  obtain ⟨s, r, hc⟩ := h.chan
  cases ct with
  | none =>
    refine (put_int_room x bb c w s r h.cell hc).mono ?_
    rintro e w' ⟨rfl, rfl⟩
    exact ⟨rfl, ⟨(Only.setChan ..).other _ h.ne |>.trans h.cell, s + 1, r, heap_setChan _ _ _ _ _ _ _ _ h.lt.2⟩, .setChan ..⟩
  | some u =>
    refine (put_int_full x u bb c w s r h.cell hc).mono ?_
    rintro e w' ⟨rfl, rfl⟩
    exact ⟨rfl, h, .refl ..⟩

theorem take_int_full (x : Int) (bb c : Nat) (w : World) (h : Box w 61 bb c (some (.int .i64 x))) :
    Calls Try.prog 37 #[.pointer (some ⟨bb, 0, none⟩)] w fun e w' => e = .returned (.tuple #[.int .i64 x, .bool true]) ∧ Box w' 61 bb c none ∧ Only w w' c := by
  obtain ⟨s, r, hc⟩ := h.chan
  refine (take_int_some x bb c w s r h.cell hc).mono ?_
  rintro e w' ⟨rfl, rfl⟩
  exact ⟨rfl, ⟨(Only.setChan ..).other _ h.ne |>.trans h.cell, s, r + 1, heap_setChan _ _ _ _ _ _ _ _ h.lt.2⟩, .setChan ..⟩

theorem take_int_empty (bb c : Nat) (w : World) (h : Box w 61 bb c none) :
    Calls Try.prog 37 #[.pointer (some ⟨bb, 0, none⟩)] w fun e w' => e = .returned (.tuple #[.int .i64 0, .bool false]) ∧ w = w' := by
  obtain ⟨s, r, hc⟩ := h.chan
  refine (take_int_none bb c w s r h.cell hc).mono ?_
  rintro e w' ⟨rfl, rfl⟩
  exact ⟨rfl, rfl⟩

theorem bytes_int : ∃ i, Try.prog.info? 3 = some i ∧ i.bytes ≤ 16 := by
  have h : (Try.prog.info? 3).map (fun i => decide (i.bytes ≤ 16)) = some true := by kernel_rfl
  obtain ⟨i, hi, hb⟩ := Option.map_eq_some_iff.1 h
  exact ⟨i, hi, of_decide_eq_true hb⟩
theorem mk_int (w : World) : (Instr.makeChan 59 (.int .i64 1)).run Try.prog w = .ok (.chan (some w.heap.size)) (w.alloc (.chan 1 #[] false 0 0 false)) := by
  obtain ⟨i, hi, hb⟩ := bytes_int
  simpa using run_makeChan (P := Try.prog) (w := w) Try.underlying59 hi .i64 1 (by omega) (by omega)

set_option maxHeartbeats 400000 in
theorem new_int (w : World) : Calls Try.prog 34 #[] w fun e w' => e = .returned (.pointer (some ⟨w.heap.size + 1, 0, none⟩)) ∧ Box w' 61 (w.heap.size + 1) w.heap.size none ∧ Below w.heap.size w w' := by
  have hmc := mk_int
  go_enter Try.func34, Try.ntmps34
  go_wp2
  go_ret
  refine ⟨rfl, ⟨?_, 0, 0, ?_⟩, ((Below.refl _ _).alloc (Nat.le_refl _) _).alloc (by simp) _⟩
  · have := heap_alloc_new (w.alloc (.chan 1 #[] false 0 0 false)) (.cells #[.chan (some w.heap.size)] 61)
    simpa using this
  · rw [Below.heap_alloc _ _ _ (by simp)]
    exact heap_alloc_new w _

set_option maxHeartbeats 400000 in
theorem full_int (bb c : Nat) (ct : Option Value) (w : World) (h : Box w 61 bb c ct) :
    Calls Try.prog 40 #[.pointer (some ⟨bb, 0, none⟩)] w fun e w' => e = .returned (.bool ct.isSome) ∧ w = w' := by
  obtain ⟨s, r, hc⟩ := h.chan
  have hcell : w.cell? ⟨bb, 0, none⟩ = some (.chan (some c)) := by simp [World.cell?, h.cell]
  have hlen := fun ty => run_len_chan (P := Try.prog) 59 ty Try.underlying59 hc
  clear hc h
  cases ct with
  | none =>
    go_enter Try.func40, Try.ntmps40
    go_wp2
    go_ret
    exact ⟨rfl, rfl⟩
  | some u =>
    go_enter Try.func40, Try.ntmps40
    go_wp2
    go_ret
    exact ⟨rfl, rfl⟩

set_option maxRecDepth 100000 in
set_option maxHeartbeats 1000000 in
theorem put_str_room (x : ByteArray) (bb c : Nat) (w : World) (s r : Nat) (h : w.heap[bb]? = some (.cells #[.chan (some c)] 101 (0, 0))) (hc : w.heap[c]? = some (.chan 1 #[] false s r false)) :
    Calls Try.prog 31 #[.pointer (some ⟨bb, 0, none⟩), .string x] w fun e w' => e = .returned (.bool true) ∧ w' = w.setChan c 1 #[.string x] false (s + 1) r false := by
  refine calls_of_loneTo fun cs => ?_
  have e : Frame.enter Try.prog 31 #[.pointer (some ⟨bb, 0, none⟩), .string x] .normal = (base 31).at ⟨#[.pointer (some ⟨bb, 0, none⟩), .string x, undef, undef, undef, undef, undef, undef, undef, undef, undef, undef, undef, undef, undef], []⟩ [.code (Try.f31.body.getD .skip)] := by
    simp [Frame.enter, Frame.at, Try.func31, base, Try.f31]
  rw [e]
  have hcell : w.cell? ⟨bb, 0, none⟩ = some (.chan (some c)) := by simp [World.cell?, h]
  refine LoneTo.goes (n := 25) ?_
  simp only [Try.f31, Option.getD_some]
  s_c stepG_seq
  s_reg
  s_op
  s_c stepG_region_end
  s_c stepG_seq
  s_c stepG_seq
  s_reg
  s_op
  s_op
  s_c stepG_region_end
  s_cond false
  s_c stepG_skip
  s_c stepG_seq
  s_c stepG_seq
  s_reg
  s_op
  s_op
  s_op
  s_op
  s_c stepG_region_end
  s_reg
  s_op
  s_c stepG_region_end
  s_c stepG_seq
  s_reg
  s_stop
  refine LoneTo.step (step_lone_select_send_room (c := c) (v := .string x) (z' := .string ⟨#[]⟩) (cap := 1) (buf := #[]) (s := s) (r := r) (tm := false) (stepG_comm (cases := #[scase c (.string x) (.string ⟨#[]⟩)]) (blocking := false) (shape := .select) (w' := w) rfl rfl (by decide) (by simp [go_sem, execOp, scase, Act.eval])) hc (by simp)) ?_
  rw [Frame.finish_at]
  walk_nrm
  refine LoneTo.goes (n := 10) ?_
  s_op
  s_op
  s_c stepG_region_end
  s_c stepG_block
  s_cond true
  s_c stepG_seq
  s_reg
  s_op
  s_c stepG_region_end
  s_c stepG_ret'
  s_stop
  exact LoneTo.done ⟨.returned (.bool true), _, rfl, ⟨rfl, rfl⟩, rfl, rfl, rfl, rfl, _, Try.func31, by simp [results, Try.f31, Frame.at]⟩

set_option maxRecDepth 100000 in
set_option maxHeartbeats 1000000 in
theorem put_str_full (x : ByteArray) (u : Value) (bb c : Nat) (w : World) (s r : Nat) (h : w.heap[bb]? = some (.cells #[.chan (some c)] 101 (0, 0))) (hc : w.heap[c]? = some (.chan 1 #[u] false s r false)) :
    Calls Try.prog 31 #[.pointer (some ⟨bb, 0, none⟩), .string x] w fun e w' => e = .returned (.bool false) ∧ w' = w := by
  refine calls_of_loneTo fun cs => ?_
  have e : Frame.enter Try.prog 31 #[.pointer (some ⟨bb, 0, none⟩), .string x] .normal = (base 31).at ⟨#[.pointer (some ⟨bb, 0, none⟩), .string x, undef, undef, undef, undef, undef, undef, undef, undef, undef, undef, undef, undef, undef], []⟩ [.code (Try.f31.body.getD .skip)] := by
    simp [Frame.enter, Frame.at, Try.func31, base, Try.f31]
  rw [e]
  have hcell : w.cell? ⟨bb, 0, none⟩ = some (.chan (some c)) := by simp [World.cell?, h]
  refine LoneTo.goes (n := 25) ?_
  simp only [Try.f31, Option.getD_some]
  s_c stepG_seq
  s_reg
  s_op
  s_c stepG_region_end
  s_c stepG_seq
  s_c stepG_seq
  s_reg
  s_op
  s_op
  s_c stepG_region_end
  s_cond false
  s_c stepG_skip
  s_c stepG_seq
  s_c stepG_seq
  s_reg
  s_op
  s_op
  s_op
  s_op
  s_c stepG_region_end
  s_reg
  s_op
  s_c stepG_region_end
  s_c stepG_seq
  s_reg
  s_stop
  refine LoneTo.step (step_lone_select_send_full (c := c) (v := .string x) (z' := .string ⟨#[]⟩) (cap := 1) (buf := #[u]) (s := s) (r := r) (tm := false) (stepG_comm (cases := #[scase c (.string x) (.string ⟨#[]⟩)]) (blocking := false) (shape := .select) (w' := w) rfl rfl (by decide) (by simp [go_sem, execOp, scase, Act.eval])) hc (by simp)) ?_
  rw [Frame.finish_at]
  walk_nrm
  refine LoneTo.goes (n := 10) ?_
  s_op
  s_op
  s_c stepG_region_end
  s_c stepG_block
  s_cond false
  s_c stepG_seq
  s_reg
  s_op
  s_c stepG_region_end
  s_c stepG_ret'
  s_stop
  exact LoneTo.done ⟨.returned (.bool false), _, rfl, ⟨rfl, rfl⟩, rfl, rfl, rfl, rfl, _, Try.func31, by simp [results, Try.f31, Frame.at]⟩

set_option maxRecDepth 100000 in
set_option maxHeartbeats 1000000 in
theorem take_str_some (x : ByteArray) (bb c : Nat) (w : World) (s r : Nat) (h : w.heap[bb]? = some (.cells #[.chan (some c)] 101 (0, 0))) (hc : w.heap[c]? = some (.chan 1 #[.string x] false s r false)) :
    Calls Try.prog 33 #[.pointer (some ⟨bb, 0, none⟩)] w fun e w' => e = .returned (.tuple #[.string x, .bool true]) ∧ w' = w.setChan c 1 #[] false s (r + 1) false := by
  refine calls_of_loneTo fun cs => ?_
  have e : Frame.enter Try.prog 33 #[.pointer (some ⟨bb, 0, none⟩)] .normal = (base 33).at ⟨#[.pointer (some ⟨bb, 0, none⟩), undef, undef, undef, undef, undef, undef, undef, undef, undef, undef, undef, undef, undef, undef, undef, undef], []⟩ [.code (Try.f33.body.getD .skip)] := by
    simp [Frame.enter, Frame.at, Try.func33, base, Try.f33]
  rw [e]
  have hcell : w.cell? ⟨bb, 0, none⟩ = some (.chan (some c)) := by simp [World.cell?, h]
  refine LoneTo.goes (n := 23) ?_
  simp only [Try.f33, Option.getD_some]
  s_c stepG_seq
  s_reg
  s_op
  s_op
  s_c stepG_region_end
  s_c stepG_seq
  s_c stepG_seq
  s_reg
  s_op
  s_op
  s_c stepG_region_end
  s_cond false
  s_c stepG_skip
  s_c stepG_seq
  s_reg
  s_op
  s_op
  s_op
  s_op
  s_c stepG_region_end
  s_c stepG_seq
  s_reg
  s_stop
  refine LoneTo.step (step_lone_select_recv_buf (c := c) (z := .string ⟨#[]⟩) (cap := 1) (buf := #[.string x]) (closed := false) (s := s) (r := r) (tm := false) (stepG_comm (cases := #[rcase c (.string ⟨#[]⟩)]) (blocking := false) (shape := .select) (w' := w) rfl rfl (by decide) (by simp [go_sem, execOp, rcase, Act.eval])) hc (by simp)) ?_
  rw [Frame.finish_at]
  walk_nrm
  refine LoneTo.goes (n := 17) ?_
  s_op
  s_op
  s_c stepG_region_end
  s_c stepG_block
  s_cond true
  s_c stepG_seq
  s_reg
  s_op
  s_op
  s_c stepG_region_end
  s_c stepG_seq
  s_reg
  s_op
  s_op
  s_op
  s_c stepG_region_end
  s_c stepG_ret'
  s_stop
  exact LoneTo.done ⟨.returned (.tuple #[.string x, .bool true]), _, rfl, ⟨rfl, by simp⟩, rfl, rfl, rfl, rfl, _, Try.func33, by simp [results, Try.f33, Frame.at]⟩

set_option maxRecDepth 100000 in
set_option maxHeartbeats 1000000 in
theorem take_str_none (bb c : Nat) (w : World) (s r : Nat) (h : w.heap[bb]? = some (.cells #[.chan (some c)] 101 (0, 0))) (hc : w.heap[c]? = some (.chan 1 #[] false s r false)) :
    Calls Try.prog 33 #[.pointer (some ⟨bb, 0, none⟩)] w fun e w' => e = .returned (.tuple #[.string ⟨#[]⟩, .bool false]) ∧ w' = w := by
  refine calls_of_loneTo fun cs => ?_
  have e : Frame.enter Try.prog 33 #[.pointer (some ⟨bb, 0, none⟩)] .normal = (base 33).at ⟨#[.pointer (some ⟨bb, 0, none⟩), undef, undef, undef, undef, undef, undef, undef, undef, undef, undef, undef, undef, undef, undef, undef, undef], []⟩ [.code (Try.f33.body.getD .skip)] := by
    simp [Frame.enter, Frame.at, Try.func33, base, Try.f33]
  rw [e]
  have hcell : w.cell? ⟨bb, 0, none⟩ = some (.chan (some c)) := by simp [World.cell?, h]
  refine LoneTo.goes (n := 23) ?_
  simp only [Try.f33, Option.getD_some]
  s_c stepG_seq
  s_reg
  s_op
  s_op
  s_c stepG_region_end
  s_c stepG_seq
  s_c stepG_seq
  s_reg
  s_op
  s_op
  s_c stepG_region_end
  s_cond false
  s_c stepG_skip
  s_c stepG_seq
  s_reg
  s_op
  s_op
  s_op
  s_op
  s_c stepG_region_end
  s_c stepG_seq
  s_reg
  s_stop
  refine LoneTo.step (step_lone_select_default (c := c) (z := .string ⟨#[]⟩) (cap := 1) (s := s) (r := r) (tm := false) (stepG_comm (cases := #[rcase c (.string ⟨#[]⟩)]) (blocking := false) (shape := .select) (w' := w) rfl rfl (by decide) (by simp [go_sem, execOp, rcase, Act.eval])) hc) ?_
  rw [Frame.finish_at]
  walk_nrm
  refine LoneTo.goes (n := 12) ?_
  s_op
  s_op
  s_c stepG_region_end
  s_c stepG_block
  s_cond false
  s_c stepG_seq
  s_reg
  s_op
  s_op
  s_op
  s_c stepG_region_end
  s_c stepG_ret'
  s_stop
  exact LoneTo.done ⟨.returned (.tuple #[.string ⟨#[]⟩, .bool false]), _, rfl, ⟨rfl, by simp⟩, rfl, rfl, rfl, rfl, _, Try.func33, by simp [results, Try.f33, Frame.at]⟩

theorem put_str (x : ByteArray) (bb c : Nat) (ct : Option Value) (w : World) (h : Box w 101 bb c ct) :
    Calls Try.prog 31 #[.pointer (some ⟨bb, 0, none⟩), .string x] w fun e w' => e = .returned (.bool ct.isNone) ∧ Box w' 101 bb c (some (ct.getD (.string x))) ∧ Only w w' c := by
  obtain ⟨s, r, hc⟩ := h.chan
  cases ct with
  | none =>
    refine (put_str_room x bb c w s r h.cell hc).mono ?_
    rintro e w' ⟨rfl, rfl⟩
    exact ⟨rfl, ⟨(Only.setChan ..).other _ h.ne |>.trans h.cell, s + 1, r, heap_setChan _ _ _ _ _ _ _ _ h.lt.2⟩, .setChan ..⟩
  | some u =>
    refine (put_str_full x u bb c w s r h.cell hc).mono ?_
    rintro e w' ⟨rfl, rfl⟩
    exact ⟨rfl, h, .refl ..⟩

theorem take_str_full (x : ByteArray) (bb c : Nat) (w : World) (h : Box w 101 bb c (some (.string x))) :
    Calls Try.prog 33 #[.pointer (some ⟨bb, 0, none⟩)] w fun e w' => e = .returned (.tuple #[.string x, .bool true]) ∧ Box w' 101 bb c none ∧ Only w w' c := by
  obtain ⟨s, r, hc⟩ := h.chan
  refine (take_str_some x bb c w s r h.cell hc).mono ?_
  rintro e w' ⟨rfl, rfl⟩
  exact ⟨rfl, ⟨(Only.setChan ..).other _ h.ne |>.trans h.cell, s, r + 1, heap_setChan _ _ _ _ _ _ _ _ h.lt.2⟩, .setChan ..⟩

theorem take_str_empty (bb c : Nat) (w : World) (h : Box w 101 bb c none) :
    Calls Try.prog 33 #[.pointer (some ⟨bb, 0, none⟩)] w fun e w' => e = .returned (.tuple #[.string ⟨#[]⟩, .bool false]) ∧ w = w' := by
  obtain ⟨s, r, hc⟩ := h.chan
  refine (take_str_none bb c w s r h.cell hc).mono ?_
  rintro e w' ⟨rfl, rfl⟩
  exact ⟨rfl, rfl⟩

theorem bytes_str : ∃ i, Try.prog.info? 9 = some i ∧ i.bytes ≤ 16 := by
  have h : (Try.prog.info? 9).map (fun i => decide (i.bytes ≤ 16)) = some true := by kernel_rfl
  obtain ⟨i, hi, hb⟩ := Option.map_eq_some_iff.1 h
  exact ⟨i, hi, of_decide_eq_true hb⟩
theorem mk_str (w : World) : (Instr.makeChan 99 (.int .i64 1)).run Try.prog w = .ok (.chan (some w.heap.size)) (w.alloc (.chan 1 #[] false 0 0 false)) := by
  obtain ⟨i, hi, hb⟩ := bytes_str
  simpa using run_makeChan (P := Try.prog) (w := w) Try.underlying99 hi .i64 1 (by omega) (by omega)

set_option maxHeartbeats 400000 in
theorem new_str (w : World) : Calls Try.prog 30 #[] w fun e w' => e = .returned (.pointer (some ⟨w.heap.size + 1, 0, none⟩)) ∧ Box w' 101 (w.heap.size + 1) w.heap.size none ∧ Below w.heap.size w w' := by
  have hmc := mk_str
  go_enter Try.func30, Try.ntmps30
  go_wp2
  go_ret
  refine ⟨rfl, ⟨?_, 0, 0, ?_⟩, ((Below.refl _ _).alloc (Nat.le_refl _) _).alloc (by simp) _⟩
  · have := heap_alloc_new (w.alloc (.chan 1 #[] false 0 0 false)) (.cells #[.chan (some w.heap.size)] 101)
    simpa using this
  · rw [Below.heap_alloc _ _ _ (by simp)]
    exact heap_alloc_new w _

set_option maxHeartbeats 400000 in
theorem full_str (bb c : Nat) (ct : Option Value) (w : World) (h : Box w 101 bb c ct) :
    Calls Try.prog 32 #[.pointer (some ⟨bb, 0, none⟩)] w fun e w' => e = .returned (.bool ct.isSome) ∧ w = w' := by
  obtain ⟨s, r, hc⟩ := h.chan
  have hcell : w.cell? ⟨bb, 0, none⟩ = some (.chan (some c)) := by simp [World.cell?, h.cell]
  have hlen := fun ty => run_len_chan (P := Try.prog) 99 ty Try.underlying99 hc
  clear hc h
  cases ct with
  | none =>
    go_enter Try.func32, Try.ntmps32
    go_wp2
    go_ret
    exact ⟨rfl, rfl⟩
  | some u =>
    go_enter Try.func32, Try.ntmps32
    go_wp2
    go_ret
    exact ⟨rfl, rfl⟩

set_option maxRecDepth 100000 in
set_option maxHeartbeats 1000000 in
theorem put_zero (x : Int) (bb : Nat) (w : World) (hcell : w.cell? ⟨bb, 0, none⟩ = some (.chan none)) :
    Calls Try.prog 35 #[.pointer (some ⟨bb, 0, none⟩), .int .i64 x] w fun e w' => e = .returned (.bool false) ∧ w = w' := by
  refine calls_of_loneTo fun cs => ?_
  have e : Frame.enter Try.prog 35 #[.pointer (some ⟨bb, 0, none⟩), .int .i64 x] .normal = (base 35).at ⟨#[.pointer (some ⟨bb, 0, none⟩), .int .i64 x, undef, undef, undef, undef, undef, undef, undef, undef, undef, undef, undef, undef, undef], []⟩ [.code (Try.f35.body.getD .skip)] := by
    simp [Frame.enter, Frame.at, Try.func35, base, Try.f35]
  rw [e]
  refine LoneTo.goes (n := 25) ?_
  simp only [Try.f35, Option.getD_some]
  s_c stepG_seq
  s_reg
  s_op
  s_c stepG_region_end
  s_c stepG_seq
  s_c stepG_seq
  s_reg
  s_op
  s_op
  s_c stepG_region_end
  s_cond false
  s_c stepG_skip
  s_c stepG_seq
  s_c stepG_seq
  s_reg
  s_op
  s_op
  s_op
  s_op
  s_c stepG_region_end
  s_reg
  s_op
  s_c stepG_region_end
  s_c stepG_seq
  s_reg
  s_stop
  refine LoneTo.step (step_lone_select_send_nil (v := .int .i64 x) (z' := .int .i64 0) (stepG_comm (cases := #[scaseNil (.int .i64 x) (.int .i64 0)]) (blocking := false) (shape := .select) (w' := w) rfl rfl (by decide) (by simp [go_sem, execOp, scaseNil, Act.eval]))) ?_
  rw [Frame.finish_at]
  walk_nrm
  refine LoneTo.goes (n := 10) ?_
  s_op
  s_op
  s_c stepG_region_end
  s_c stepG_block
  s_cond false
  s_c stepG_seq
  s_reg
  s_op
  s_c stepG_region_end
  s_c stepG_ret'
  s_stop
  exact LoneTo.done ⟨.returned (.bool false), _, rfl, ⟨rfl, rfl⟩, rfl, rfl, rfl, rfl, _, Try.func35, by simp [results, Try.f35, Frame.at]⟩

set_option maxRecDepth 100000 in
set_option maxHeartbeats 1000000 in
theorem take_zero (bb : Nat) (w : World) (hcell : w.cell? ⟨bb, 0, none⟩ = some (.chan none)) :
    Calls Try.prog 37 #[.pointer (some ⟨bb, 0, none⟩)] w fun e w' => e = .returned (.tuple #[.int .i64 0, .bool false]) ∧ w = w' := by
  refine calls_of_loneTo fun cs => ?_
  have e : Frame.enter Try.prog 37 #[.pointer (some ⟨bb, 0, none⟩)] .normal = (base 37).at ⟨#[.pointer (some ⟨bb, 0, none⟩), undef, undef, undef, undef, undef, undef, undef, undef, undef, undef, undef, undef, undef, undef, undef, undef], []⟩ [.code (Try.f37.body.getD .skip)] := by
    simp [Frame.enter, Frame.at, Try.func37, base, Try.f37]
  rw [e]
  refine LoneTo.goes (n := 23) ?_
  simp only [Try.f37, Option.getD_some]
  s_c stepG_seq
  s_reg
  s_op
  s_op
  s_c stepG_region_end
  s_c stepG_seq
  s_c stepG_seq
  s_reg
  s_op
  s_op
  s_c stepG_region_end
  s_cond false
  s_c stepG_skip
  s_c stepG_seq
  s_reg
  s_op
  s_op
  s_op
  s_op
  s_c stepG_region_end
  s_c stepG_seq
  s_reg
  s_stop
  refine LoneTo.step (step_lone_select_recv_nil (z := .int .i64 0) (stepG_comm (cases := #[rcaseNil (.int .i64 0)]) (blocking := false) (shape := .select) (w' := w) rfl rfl (by decide) (by simp [go_sem, execOp, rcaseNil, Act.eval]))) ?_
  rw [Frame.finish_at]
  walk_nrm
  refine LoneTo.goes (n := 12) ?_
  s_op
  s_op
  s_c stepG_region_end
  s_c stepG_block
  s_cond false
  s_c stepG_seq
  s_reg
  s_op
  s_op
  s_op
  s_c stepG_region_end
  s_c stepG_ret'
  s_stop
  exact LoneTo.done ⟨.returned (.tuple #[.int .i64 0, .bool false]), _, rfl, ⟨rfl, by simp⟩, rfl, rfl, rfl, rfl, _, Try.func37, by simp [results, Try.f37, Frame.at]⟩

theorem len_nil (t ty : TypeId) {dir e} (ht : Try.prog.underlying t = some (.chan dir e)) (w : World) : (Builtin.len_ #[t] ty #[.chan none]).run Try.prog w = .ok (.int .i64 0) w := by
  simp [Builtin.len_, run_underlying ht, goInt]

set_option maxHeartbeats 400000 in
theorem full_zero (bb : Nat) (w : World) (hcell : w.cell? ⟨bb, 0, none⟩ = some (.chan none)) :
    Calls Try.prog 40 #[.pointer (some ⟨bb, 0, none⟩)] w fun e w' => e = .returned (.bool false) ∧ w = w' := by
  have hlen := fun ty => len_nil 59 ty Try.underlying59 w
  go_enter Try.func40, Try.ntmps40
  go_wp2
  go_ret
  exact ⟨rfl, rfl⟩
theorem put_nil (x : Int) (w : World) : Calls Try.prog 35 #[.pointer none, .int .i64 x] w fun e w' => e = .returned (.bool false) ∧ w = w' := by
  go_enter Try.func35, Try.ntmps35
  go_wp2
  go_ret
  exact ⟨rfl, rfl⟩
theorem take_nil (w : World) : Calls Try.prog 37 #[.pointer none] w fun e w' => e = .returned (.tuple #[.int .i64 0, .bool false]) ∧ w = w' := by
  go_enter Try.func37, Try.ntmps37
  go_wp2
  go_ret2
  exact ⟨rfl, rfl⟩
theorem full_nil (w : World) : Calls Try.prog 40 #[.pointer none] w fun e w' => e = .returned (.bool false) ∧ w = w' := by
  go_enter Try.func40, Try.ntmps40
  go_wp2
  go_ret
  exact ⟨rfl, rfl⟩

set_option maxHeartbeats 1000000 in
/-- First: none of the boxes gives anything. -/
theorem first_none (g n cap : Nat) (L : List Value) (w : World) (hn : n ≤ 1000) (hL : ∀ i, i < n → w.cell? ⟨g, i, none⟩ = some (L.getD i undef))
    (hE : ∀ i, i < n → Calls Try.prog 37 #[L.getD i undef] w fun e w' => e = .returned (.tuple #[.int .i64 0, .bool false]) ∧ w = w') :
    Calls Try.prog 39 #[.slice (some ⟨g, 0, none⟩) n cap] w fun e w' => e = .returned (.tuple #[.int .i64 0, .int .i64 0, .bool false]) ∧ w = w' := by
  have HE := Lib.hid hE
  have HL := Lib.hid hL
  clear hE hL
  go_enter Try.func39, Try.ntmps39
  go_wp2
  go_loop [9, 2] (fun i v => ∃ k : Nat, k ≤ n ∧ i = .int .i64 k ∧ v = .int .i64 0) (fun i _ => n - (intOf i).toNat)
  case atStart => exact ⟨0, Nat.zero_le _, rfl, rfl⟩
  case round =>
    obtain ⟨k, hk, rfl, rfl⟩ := hrel
    by_cases hlt : k < n
    · obtain ⟨p, hp⟩ : ∃ p, p = L.getD k undef := ⟨_, rfl⟩
      have hc := HL.out k hlt
      have he := HE.out k hlt
      rw [← hp] at hc he
      have He := Lib.hid he
      clear he hp
      go_wp2_with (go_at_call 37; refine He.out.mono ?_; rintro e w' ⟨rfl, rfl⟩)
      go_round
      case rel => exact ⟨k + 1, by omega, by go_num, rfl⟩
      case measure => simp [intOf]; omega
    · go_wp2
      go_ret3
      exact ⟨rfl, rfl⟩

end Go.Proofs.Ytgbofijdjgpgeaa.Sig
