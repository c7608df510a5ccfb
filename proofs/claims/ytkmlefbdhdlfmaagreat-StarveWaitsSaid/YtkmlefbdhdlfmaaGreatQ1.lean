/- Printed contracts (print.sh), gathered: place_right, place_New, place_Map_Size, place_begin. -/
import Derived.Test.YtkmlefbdhdlfmaaGreatQ0
namespace Go.Proofs.YtkmlefbdhdlfmaaGreat.Pr
open Go.RowKit Go.Proofs.YtkmlefbdhdlfmaaGreatW.PrintWords Go.Proofs.YtkmlefbdhdlfmaaGreatW.PrintLast Go.Proofs.YtkmlefbdhdlfmaaGreatW.PrintMore
set_option linter.unusedVariables false
set_option linter.unusedSimpArgs false
def place_right.f (a0 : Int) : Option (Bool) := if a0 ≥ 1 then (some (decide (a0 ≤ 64))) else (some false)
set_option maxHeartbeats 8000000 in
set_option maxRecDepth 100000 in
theorem place_right.calls (a0 : Int) (r : Bool) (w : World) (h : place_right.f a0 = some r) :
  Calls Tryz.prog 139 #[.int .i64 a0] w fun e w' => e = .returned (.bool r) ∧ Drawn0 w w' := by
 have H : (if a0 ≥ 1 then (some (decide (a0 ≤ 64))) else (some false)) = some r := h
 clear h
 by_cases c2 : a0 ≥ 1
 ·rw [if_pos c2] at H
  have c2b0 : decide (1 ≤ a0) = true := decide_eq_true c2
  clear c2
  obtain rfl := Option.some.inj H
  go_enter Tryz.func139, Tryz.ntmps139
  go_wp2
  go_ret
  exact ⟨by first | rfl | (simp; done) | (simp [*]; done), by repeat (first | exact Drawn0.refl _ | apply Drawn0.step)⟩
 ·rw [if_neg c2] at H
  have c2b0 : decide (1 ≤ a0) = false := decide_eq_false c2
  clear c2
  obtain rfl := Option.some.inj H
  go_enter Tryz.func139, Tryz.ntmps139
  go_wp2
  go_ret
  exact ⟨by first | rfl | (simp; done) | (simp [*]; done), by repeat (first | exact Drawn0.refl _ | apply Drawn0.step)⟩
def place_New.f (a0 : Int) : Option (Int × Int) := (place_right.f a0).bind fun t130 => (if t130 = true then (some (a0, 0)) else (some (0, 2)))
set_option maxHeartbeats 8000000 in
set_option maxRecDepth 100000 in
theorem place_New.calls (a0 : Int) (r1 : Int) (r2 : Int) (w : World) (h : place_New.f a0 = some (r1, r2)) :
  Calls Tryz.prog 78 #[.int .i64 a0] w fun e w' => e = .returned (.tuple #[.agg #[.int .i64 r1], .int .i64 r2]) ∧ Below w.heap.size w w' := by
 have hu94 := Tryz.underlying94
 have HB := Aside0.mk (Below.refl w.heap.size w)
 have H : ((place_right.f a0).bind fun t130 => (if t130 = true then (some (a0, 0)) else (some (0, 2)))) = some (r1, r2) := h
 clear h
 replace H := Option.bind_eq_some_iff.mp H
 obtain ⟨t130, A20, H⟩ := H
 replace H : (if t130 = true then (some (a0, 0)) else (some (0, 2))) = some (r1, r2) := H
 have A2 := Aside0.mk A20
 clear A20
 by_cases c3 : t130 = true
 ·subst c3
  have H1 : (some (a0, 0)) = some (r1, r2) := by rw [if_pos rfl] at H; exact H
  clear H
  have H := H1
  clear H1
  simp only [Option.some.injEq, Prod.mk.injEq] at H
  obtain ⟨rfl, rfl⟩ := H
  go_enter Tryz.func78, Tryz.ntmps78
  go_wp2_with (first | ((with_reducible refine gate_dst (N := 2) rfl ?_); refine box_event ?hg (N := 2) ?hd (cs := #[.int .i64 0]) (t := 94) ?hr ?_; (case hd => rfl); (case hg => rfl); (case hr => first | (go_simp; done) | (go_simp; rfl)); intro gb129 hg w4 hbox hb; have n0_ := Aside0.mk (below_step (by repeat (first | (with_reducible first | exact HB.out | apply below_alloc | apply pw_below_drewN | apply below_drew1) | exact HB.out)) hb); have n1_ := Aside0.mk (hbox); have n2_ := Aside0.mk ((by rw [hg]; exact (below_size (by repeat (first | (with_reducible first | exact HB.out | apply below_alloc | apply pw_below_drewN | apply below_drew1) | exact HB.out))) : w.heap.size ≤ gb129)); have n3_ := Aside0.mk ((by rw [hg]; exact (below_size (by repeat (first | (with_reducible first | exact HB.out | apply below_alloc | apply pw_below_drewN | apply below_drew1) | exact HB.out))) : w.heap.size ≤ gb129)); clear HB; have HB := n0_; have BK129 := n1_; have GW129 := n2_; have GE129 := n3_; clear n0_ n1_ n2_ n3_; clear hb hbox hg) | ((with_reducible refine gate_callee (f := 139) rfl ?_); refine goesL_ (some 5) rfl rfl Tryz.func139 (by kernel_rfl) rfl #[.int .i64 a0] rfl (by (try simp only [List.map_toArray, List.map_cons, List.map_nil]); first | done | rfl | (simp only [List.length_drop, List.length_take]; rfl)) ?_; (with_reducible refine (place_right.calls a0 true _ A2.out).mono ?_); rintro e w' ⟨rfl, ⟨nd, rfl⟩⟩; refine ⟨_, rfl, ?_⟩; (try (rw [drewN_self w4]; generalize hq_ : World.drewN w4 _ = w4; have n0_ : Aside0 (w4.heap[gb129]? = some (.cells #[.int .i64 0] 94 (0, 0))) := ⟨by rw [← hq_]; exact (by (with_reducible repeat (first | refine blk_drewN ?_ _ | refine blk_drew ?_ | refine blk_alloc ?_ _)); exact BK129.out)⟩; have n1_ : Aside0 (Below w.heap.size w w4) := ⟨by rw [← hq_]; exact (by repeat (first | (with_reducible first | exact HB.out | apply below_alloc | apply pw_below_drewN | apply below_drew1 | refine below_set ?_ GE129.out) | exact HB.out))⟩; clear BK129 HB hq_; have BK129 := n0_; have HB := n1_; clear n0_ n1_)); have hcz5_0 : w4.cell? ⟨gb129, 0, none⟩ = some (.int .i64 0) := (blk_cell BK129.out 0).trans rfl; have hfz5_0 := blk_frozen BK129.out 0))
  refine bodyPost_ret (results_ct rfl _ _ gb129 94 #[.int .i64 a0] (0, 0) _ rfl (by (with_reducible repeat (first | refine blk_drewN ?_ _ | refine blk_drew ?_ | refine blk_alloc ?_ _)); refine blk_put (cs := #[.int .i64 0]) ?_ 0 _ rfl; (with_reducible repeat (first | refine blk_drewN ?_ _ | refine blk_drew ?_ | refine blk_alloc ?_ _)); exact BK129.out) Tryz.underlying94 rfl (by kernel_rfl)) rfl ?_
  exact ⟨by first | rfl | (simp [errW_none, errW_some] <;> rfl) | (simp [*, errW_none, errW_some] <;> rfl), by repeat (first | (with_reducible first | exact HB.out | apply below_alloc | apply pw_below_drewN | apply below_drew1 | refine below_set ?_ GE129.out) | exact HB.out)⟩
 ·replace c3 := Bool.eq_false_iff.mpr c3
  subst c3
  have H1 : (some (0, 2)) = some (r1, r2) := by rw [if_neg (show ¬ (false = true) by decide)] at H; exact H
  clear H
  have H := H1
  clear H1
  simp only [Option.some.injEq, Prod.mk.injEq] at H
  obtain ⟨rfl, rfl⟩ := H
  go_enter Tryz.func78, Tryz.ntmps78
  go_wp2_with (first | ((with_reducible refine gate_dst (N := 2) rfl ?_); refine box_event ?hg (N := 2) ?hd (cs := #[.int .i64 0]) (t := 94) ?hr ?_; (case hd => rfl); (case hg => rfl); (case hr => first | (go_simp; done) | (go_simp; rfl)); intro gb129 hg w6 hbox hb; have n0_ := Aside0.mk (below_step (by repeat (first | (with_reducible first | exact HB.out | apply below_alloc | apply pw_below_drewN | apply below_drew1) | exact HB.out)) hb); have n1_ := Aside0.mk (hbox); have n2_ := Aside0.mk ((by rw [hg]; exact (below_size (by repeat (first | (with_reducible first | exact HB.out | apply below_alloc | apply pw_below_drewN | apply below_drew1) | exact HB.out))) : w.heap.size ≤ gb129)); have n3_ := Aside0.mk ((by rw [hg]; exact (below_size (by repeat (first | (with_reducible first | exact HB.out | apply below_alloc | apply pw_below_drewN | apply below_drew1) | exact HB.out))) : w.heap.size ≤ gb129)); clear HB; have HB := n0_; have BK129 := n1_; have GW129 := n2_; have GE129 := n3_; clear n0_ n1_ n2_ n3_; clear hb hbox hg) | ((with_reducible refine gate_callee (f := 139) rfl ?_); refine goesL_ (some 5) rfl rfl Tryz.func139 (by kernel_rfl) rfl #[.int .i64 a0] rfl (by (try simp only [List.map_toArray, List.map_cons, List.map_nil]); first | done | rfl | (simp only [List.length_drop, List.length_take]; rfl)) ?_; (with_reducible refine (place_right.calls a0 false _ A2.out).mono ?_); rintro e w' ⟨rfl, ⟨nd, rfl⟩⟩; refine ⟨_, rfl, ?_⟩; (try (rw [drewN_self w6]; generalize hq_ : World.drewN w6 _ = w6; have n0_ : Aside0 (w6.heap[gb129]? = some (.cells #[.int .i64 0] 94 (0, 0))) := ⟨by rw [← hq_]; exact (by (with_reducible repeat (first | refine blk_drewN ?_ _ | refine blk_drew ?_ | refine blk_alloc ?_ _)); exact BK129.out)⟩; have n1_ : Aside0 (Below w.heap.size w w6) := ⟨by rw [← hq_]; exact (by repeat (first | (with_reducible first | exact HB.out | apply below_alloc | apply pw_below_drewN | apply below_drew1 | refine below_set ?_ GE129.out) | exact HB.out))⟩; clear BK129 HB hq_; have BK129 := n0_; have HB := n1_; clear n0_ n1_)); have hcz7_0 : w6.cell? ⟨gb129, 0, none⟩ = some (.int .i64 0) := (blk_cell BK129.out 0).trans rfl; have hfz7_0 := blk_frozen BK129.out 0))
  refine bodyPost_ret (results_ct rfl _ _ gb129 94 #[.int .i64 0] (0, 0) _ rfl (by (with_reducible repeat (first | refine blk_drewN ?_ _ | refine blk_drew ?_ | refine blk_alloc ?_ _)); refine blk_put (cs := #[.int .i64 0]) ?_ 0 _ rfl; (with_reducible repeat (first | refine blk_drewN ?_ _ | refine blk_drew ?_ | refine blk_alloc ?_ _)); exact BK129.out) Tryz.underlying94 rfl (by kernel_rfl)) rfl ?_
  exact ⟨by first | rfl | (simp [errW_none, errW_some] <;> rfl) | (simp [*, errW_none, errW_some] <;> rfl), by repeat (first | (with_reducible first | exact HB.out | apply below_alloc | apply pw_below_drewN | apply below_drew1 | refine below_set ?_ GE129.out) | exact HB.out)⟩
def place_Map_Size.f (a0_0 : Int) : Option (Int) := (place_right.f a0_0).bind fun t132 => (if t132 = true then (some (wrap64 (8 + (wrap64 (4 * a0_0))))) else (some 0))
set_option maxHeartbeats 8000000 in
set_option maxRecDepth 100000 in
theorem place_Map_Size.calls (a0_0 : Int) (r : Int) (w : World) (h : place_Map_Size.f a0_0 = some r) :
  Calls Tryz.prog 79 #[.agg #[.int .i64 a0_0]] w fun e w' => e = .returned (.int .i64 r) ∧ Below w.heap.size w w' := by
 have hu94 := Tryz.underlying94
 have HB := Aside0.mk (Below.refl w.heap.size w)
 have H : ((place_right.f a0_0).bind fun t132 => (if t132 = true then (some (wrap64 (8 + (wrap64 (4 * a0_0))))) else (some 0))) = some r := h
 clear h
 replace H := Option.bind_eq_some_iff.mp H
 obtain ⟨t132, A20, H⟩ := H
 replace H : (if t132 = true then (some (wrap64 (8 + (wrap64 (4 * a0_0))))) else (some 0)) = some r := H
 have A2 := Aside0.mk A20
 clear A20
 by_cases c3 : t132 = true
 ·subst c3
  have H1 : (some (wrap64 (8 + (wrap64 (4 * a0_0))))) = some r := by rw [if_pos rfl] at H; exact H
  clear H
  have H := H1
  clear H1
  obtain rfl := Option.some.inj H
  go_enter Tryz.func79, Tryz.ntmps79
  go_wp2_with (first | ((with_reducible refine gate_dst (N := 1) rfl ?_); refine box_event ?hg (N := 1) ?hd (cs := #[.int .i64 a0_0]) (t := 94) ?hr ?_; (case hd => rfl); (case hg => rfl); (case hr => first | (go_simp; done) | (go_simp; rfl)); intro gb131 hg w4 hbox hb; have n0_ := Aside0.mk (below_step (by repeat (first | (with_reducible first | exact HB.out | apply below_alloc | apply pw_below_drewN | apply below_drew1) | exact HB.out)) hb); have n1_ := Aside0.mk (hbox); have n2_ := Aside0.mk ((by rw [hg]; exact (below_size (by repeat (first | (with_reducible first | exact HB.out | apply below_alloc | apply pw_below_drewN | apply below_drew1) | exact HB.out))) : w.heap.size ≤ gb131)); have n3_ := Aside0.mk ((by rw [hg]; exact (below_size (by repeat (first | (with_reducible first | exact HB.out | apply below_alloc | apply pw_below_drewN | apply below_drew1) | exact HB.out))) : w.heap.size ≤ gb131)); clear HB; have HB := n0_; have BK131 := n1_; have GW131 := n2_; have GE131 := n3_; clear n0_ n1_ n2_ n3_; clear hb hbox hg; have hcz5_0 : w4.cell? ⟨gb131, 0, none⟩ = some (.int .i64 a0_0) := (blk_cell BK131.out 0).trans rfl; have hfz5_0 := blk_frozen BK131.out 0) | ((with_reducible refine gate_callee (f := 139) rfl ?_); refine goesL_ (some 5) rfl rfl Tryz.func139 (by kernel_rfl) rfl #[.int .i64 a0_0] rfl (by (try simp only [List.map_toArray, List.map_cons, List.map_nil]); first | done | rfl | (simp only [List.length_drop, List.length_take]; rfl)) ?_; (with_reducible refine (place_right.calls a0_0 true _ A2.out).mono ?_); rintro e w' ⟨rfl, ⟨nd, rfl⟩⟩; refine ⟨_, rfl, ?_⟩))
  go_ret
  exact ⟨by first | rfl | (simp [errW_none, errW_some] <;> rfl) | (simp [*, errW_none, errW_some] <;> rfl), by repeat (first | (with_reducible first | exact HB.out | apply below_alloc | apply pw_below_drewN | apply below_drew1 | refine below_set ?_ GE131.out) | exact HB.out)⟩
 ·replace c3 := Bool.eq_false_iff.mpr c3
  subst c3
  have H1 : (some 0) = some r := by rw [if_neg (show ¬ (false = true) by decide)] at H; exact H
  clear H
  have H := H1
  clear H1
  obtain rfl := Option.some.inj H
  go_enter Tryz.func79, Tryz.ntmps79
  go_wp2_with (first | ((with_reducible refine gate_dst (N := 1) rfl ?_); refine box_event ?hg (N := 1) ?hd (cs := #[.int .i64 a0_0]) (t := 94) ?hr ?_; (case hd => rfl); (case hg => rfl); (case hr => first | (go_simp; done) | (go_simp; rfl)); intro gb131 hg w6 hbox hb; have n0_ := Aside0.mk (below_step (by repeat (first | (with_reducible first | exact HB.out | apply below_alloc | apply pw_below_drewN | apply below_drew1) | exact HB.out)) hb); have n1_ := Aside0.mk (hbox); have n2_ := Aside0.mk ((by rw [hg]; exact (below_size (by repeat (first | (with_reducible first | exact HB.out | apply below_alloc | apply pw_below_drewN | apply below_drew1) | exact HB.out))) : w.heap.size ≤ gb131)); have n3_ := Aside0.mk ((by rw [hg]; exact (below_size (by repeat (first | (with_reducible first | exact HB.out | apply below_alloc | apply pw_below_drewN | apply below_drew1) | exact HB.out))) : w.heap.size ≤ gb131)); clear HB; have HB := n0_; have BK131 := n1_; have GW131 := n2_; have GE131 := n3_; clear n0_ n1_ n2_ n3_; clear hb hbox hg; have hcz7_0 : w6.cell? ⟨gb131, 0, none⟩ = some (.int .i64 a0_0) := (blk_cell BK131.out 0).trans rfl; have hfz7_0 := blk_frozen BK131.out 0) | ((with_reducible refine gate_callee (f := 139) rfl ?_); refine goesL_ (some 5) rfl rfl Tryz.func139 (by kernel_rfl) rfl #[.int .i64 a0_0] rfl (by (try simp only [List.map_toArray, List.map_cons, List.map_nil]); first | done | rfl | (simp only [List.length_drop, List.length_take]; rfl)) ?_; (with_reducible refine (place_right.calls a0_0 false _ A2.out).mono ?_); rintro e w' ⟨rfl, ⟨nd, rfl⟩⟩; refine ⟨_, rfl, ?_⟩))
  go_ret
  exact ⟨by first | rfl | (simp [errW_none, errW_some] <;> rfl) | (simp [*, errW_none, errW_some] <;> rfl), by repeat (first | (with_reducible first | exact HB.out | apply below_alloc | apply pw_below_drewN | apply below_drew1 | refine below_set ?_ GE131.out) | exact HB.out)⟩
mutual
def place_begin.j0 : Nat → Int → Int → ByteArray → Bool → Option (Int)
 | 0, _, _, _, _ => none
 | k + 1, x0, x2, x7, x8 => if x8 = true then (some x2) else (if x7.toList = ([114, 105, 110] : List UInt8) then (place_begin.j1 k x0 x2 x7 (x7.toList == ([114, 105, 110] : List UInt8))) else (place_begin.j1 k x0 x2 x7 (x7.toList == ([114, 111, 117, 116] : List UInt8))))
def place_begin.j1 : Nat → Int → Int → ByteArray → Bool → Option (Int)
 | 0, _, _, _, _ => none
 | k + 1, x0, x2, x7, x16 => if x16 = true then (some ((x2 * 256) % 4294967296)) else (if x7.toList = ([119, 111, 114, 100] : List UInt8) then (if x0 = 6 then (some (((Go.bits .and .u32 x2 255) * 65792) % 4294967296)) else (some 0)) else (some 0))
end
def place_begin.f (k : Nat) (a0 : Int) (a1 : ByteArray) (a2 : Int) : Option (Int) := if a1.toList = ([117, 115, 101, 114, 115] : List UInt8) then (place_begin.j0 k a0 a2 a1 (a1.toList == ([117, 115, 101, 114, 115] : List UInt8))) else (if a1.toList = ([114, 101, 97, 100, 115] : List UInt8) then (place_begin.j0 k a0 a2 a1 (a1.toList == ([114, 101, 97, 100, 115] : List UInt8))) else (if a1.toList = ([119, 114, 105, 116, 101, 115] : List UInt8) then (place_begin.j0 k a0 a2 a1 (a1.toList == ([119, 114, 105, 116, 101, 115] : List UInt8))) else (if a1.toList = ([119, 105, 110] : List UInt8) then (place_begin.j0 k a0 a2 a1 (a1.toList == ([119, 105, 110] : List UInt8))) else (if a1.toList = ([119, 111, 117, 116] : List UInt8) then (place_begin.j0 k a0 a2 a1 (a1.toList == ([119, 111, 117, 116] : List UInt8))) else (place_begin.j0 k a0 a2 a1 (a1.toList == ([112, 104, 97, 115, 101] : List UInt8)))))))
theorem place_begin.mono_l : ∀ k, (∀ y0 y1 y2 y3, LeO (place_begin.j0 k y0 y1 y2 y3) (place_begin.j0 (k + 1) y0 y1 y2 y3)) ∧ (∀ y0 y1 y2 y3, LeO (place_begin.j1 k y0 y1 y2 y3) (place_begin.j1 (k + 1) y0 y1 y2 y3))
 | 0 => ⟨fun _ _ _ _ r h => by simp [place_begin.j0] at h, fun _ _ _ _ r h => by simp [place_begin.j1] at h⟩
 | k + 1 => by
  obtain ⟨ih0, ih1⟩ := place_begin.mono_l k
  refine ⟨?_, ?_⟩
  ·intro y0 y1 y2 y3
   unfold place_begin.j0
   repeat' first
   | (with_reducible exact ih0 _ _ _ _)
   | (with_reducible exact ih1 _ _ _ _)
   | (with_reducible exact LeO.refl _)
   | (with_reducible exact LeO.none _)
   | (with_reducible refine LeO.ite ?_ ?_)
   | (with_reducible refine LeO.bind ?_ (fun _ => ?_))
   | exact ih0 _ _ _ _
   | exact ih1 _ _ _ _
   | exact LeO.none _
   | refine LeO.ite ?_ ?_
   | refine LeO.bind ?_ (fun _ => ?_)
  ·intro y0 y1 y2 y3
   unfold place_begin.j1
   repeat' first
   | (with_reducible exact ih0 _ _ _ _)
   | (with_reducible exact ih1 _ _ _ _)
   | (with_reducible exact LeO.refl _)
   | (with_reducible exact LeO.none _)
   | (with_reducible refine LeO.ite ?_ ?_)
   | (with_reducible refine LeO.bind ?_ (fun _ => ?_))
   | exact ih0 _ _ _ _
   | exact ih1 _ _ _ _
   | exact LeO.none _
   | refine LeO.ite ?_ ?_
   | refine LeO.bind ?_ (fun _ => ?_)
theorem place_begin.mono : ∀ a0 a1 a2 k, LeO (place_begin.f k a0 a1 a2) (place_begin.f (k + 1) a0 a1 a2) := by
 intro a0 a1 a2 k
 obtain ⟨ih0, ih1⟩ := place_begin.mono_l k
 unfold place_begin.f
 repeat' first
   | (with_reducible exact ih0 _ _ _ _)
   | (with_reducible exact ih1 _ _ _ _)
   | (with_reducible exact LeO.refl _)
   | (with_reducible exact LeO.none _)
   | (with_reducible refine LeO.ite ?_ ?_)
   | (with_reducible refine LeO.bind ?_ (fun _ => ?_))
   | exact ih0 _ _ _ _
   | exact ih1 _ _ _ _
   | exact LeO.none _
   | refine LeO.ite ?_ ?_
   | refine LeO.bind ?_ (fun _ => ?_)
set_option maxHeartbeats 8000000 in
set_option maxRecDepth 100000 in
theorem place_begin.calls (k : Nat) (a0 : Int) (a1 : ByteArray) (a2 : Int) (r : Int) (w : World) (h : place_begin.f k a0 a1 a2 = some r) :
  Calls Tryz.prog 80 #[.int .i64 a0, .string a1, .int .u32 a2] w fun e w' => e = .returned (.int .u32 r) ∧ Drawn0 w w' := by
 have H : (if a1.toList = ([117, 115, 101, 114, 115] : List UInt8) then (place_begin.j0 k a0 a2 a1 (a1.toList == ([117, 115, 101, 114, 115] : List UInt8))) else (if a1.toList = ([114, 101, 97, 100, 115] : List UInt8) then (place_begin.j0 k a0 a2 a1 (a1.toList == ([114, 101, 97, 100, 115] : List UInt8))) else (if a1.toList = ([119, 114, 105, 116, 101, 115] : List UInt8) then (place_begin.j0 k a0 a2 a1 (a1.toList == ([119, 114, 105, 116, 101, 115] : List UInt8))) else (if a1.toList = ([119, 105, 110] : List UInt8) then (place_begin.j0 k a0 a2 a1 (a1.toList == ([119, 105, 110] : List UInt8))) else (if a1.toList = ([119, 111, 117, 116] : List UInt8) then (place_begin.j0 k a0 a2 a1 (a1.toList == ([119, 111, 117, 116] : List UInt8))) else (place_begin.j0 k a0 a2 a1 (a1.toList == ([112, 104, 97, 115, 101] : List UInt8)))))))) = some r := h
 clear h
 have HC4 := Aside0.mk H
 clear H
 go_enter Tryz.func80, Tryz.ntmps80
 go_upto_if 8 with (fail)
 go_cut [8] (fun v8 wc => ∃ (kq : Nat) (x8_3 : Bool), v8 = .bool x8_3 ∧ Aside0 (place_begin.j0 kq a0 a2 a1 x8_3 = some r) ∧ Aside0 (kq ≤ k) ∧ Drawn0 w wc)
 case first =>
  have H := HC4.out
  clear HC4
  by_cases c5 : a1.toList = ([117, 115, 101, 114, 115] : List UInt8)
  ·rw [if_pos c5] at H
   have c5b0 : (a1.toList == ([117, 115, 101, 114, 115] : List UInt8)) = true := beq_iff_eq.mpr c5
   have c5b1 : (a1.toList != ([117, 115, 101, 114, 115] : List UInt8)) = false := bne_eq_false_iff_eq.mpr c5
   clear c5
   (first | rw [c5b0] | (simp only [i64_w, i32_w]; rw [c5b0]) | skip)
   have H' := Aside0.mk H
   clear H
   go_wp2
   go_meet
   case rel => exact ⟨_, ((a1.toList == ([117, 115, 101, 114, 115] : List UInt8))), (by first | rfl | (simp; done) | (simp [*]; done)), H', ⟨by first | omega | exact Nat.le_refl _⟩, by repeat (first | exact Drawn0.refl _ | apply Drawn0.step)⟩
  ·rw [if_neg c5] at H
   have c5b0 : (a1.toList == ([117, 115, 101, 114, 115] : List UInt8)) = false := beq_eq_false_iff_ne.mpr c5
   have c5b1 : (a1.toList != ([117, 115, 101, 114, 115] : List UInt8)) = true := bne_iff_ne.mpr c5
   (first | rw [c5b0] | (simp only [i64_w, i32_w]; rw [c5b0]) | skip)
   by_cases c6 : a1.toList = ([114, 101, 97, 100, 115] : List UInt8)
   ·rw [if_pos c6] at H
    have c6b0 : (a1.toList == ([114, 101, 97, 100, 115] : List UInt8)) = true := beq_iff_eq.mpr c6
    have c6b1 : (a1.toList != ([114, 101, 97, 100, 115] : List UInt8)) = false := bne_eq_false_iff_eq.mpr c6
    clear c6
    have H' := Aside0.mk H
    clear H
    go_wp2
    go_meet
    case rel => exact ⟨_, ((a1.toList == ([114, 101, 97, 100, 115] : List UInt8))), (by first | rfl | (simp; done) | (simp [*]; done)), H', ⟨by first | omega | exact Nat.le_refl _⟩, by repeat (first | exact Drawn0.refl _ | apply Drawn0.step)⟩
   ·rw [if_neg c6] at H
    have c6b0 : (a1.toList == ([114, 101, 97, 100, 115] : List UInt8)) = false := beq_eq_false_iff_ne.mpr c6
    have c6b1 : (a1.toList != ([114, 101, 97, 100, 115] : List UInt8)) = true := bne_iff_ne.mpr c6
    by_cases c7 : a1.toList = ([119, 114, 105, 116, 101, 115] : List UInt8)
    ·rw [if_pos c7] at H
     have c7b0 : (a1.toList == ([119, 114, 105, 116, 101, 115] : List UInt8)) = true := beq_iff_eq.mpr c7
     have c7b1 : (a1.toList != ([119, 114, 105, 116, 101, 115] : List UInt8)) = false := bne_eq_false_iff_eq.mpr c7
     clear c7
     have H' := Aside0.mk H
     clear H
     go_wp2
     go_meet
     case rel => exact ⟨_, ((a1.toList == ([119, 114, 105, 116, 101, 115] : List UInt8))), (by first | rfl | (simp; done) | (simp [*]; done)), H', ⟨by first | omega | exact Nat.le_refl _⟩, by repeat (first | exact Drawn0.refl _ | apply Drawn0.step)⟩
    ·rw [if_neg c7] at H
     have c7b0 : (a1.toList == ([119, 114, 105, 116, 101, 115] : List UInt8)) = false := beq_eq_false_iff_ne.mpr c7
     have c7b1 : (a1.toList != ([119, 114, 105, 116, 101, 115] : List UInt8)) = true := bne_iff_ne.mpr c7
     by_cases c8 : a1.toList = ([119, 105, 110] : List UInt8)
     ·rw [if_pos c8] at H
      have c8b0 : (a1.toList == ([119, 105, 110] : List UInt8)) = true := beq_iff_eq.mpr c8
      have c8b1 : (a1.toList != ([119, 105, 110] : List UInt8)) = false := bne_eq_false_iff_eq.mpr c8
      clear c8
      have H' := Aside0.mk H
      clear H
      go_wp2
      go_meet
      case rel => exact ⟨_, ((a1.toList == ([119, 105, 110] : List UInt8))), (by first | rfl | (simp; done) | (simp [*]; done)), H', ⟨by first | omega | exact Nat.le_refl _⟩, by repeat (first | exact Drawn0.refl _ | apply Drawn0.step)⟩
     ·rw [if_neg c8] at H
      have c8b0 : (a1.toList == ([119, 105, 110] : List UInt8)) = false := beq_eq_false_iff_ne.mpr c8
      have c8b1 : (a1.toList != ([119, 105, 110] : List UInt8)) = true := bne_iff_ne.mpr c8
      by_cases c9 : a1.toList = ([119, 111, 117, 116] : List UInt8)
      ·rw [if_pos c9] at H
       have c9b0 : (a1.toList == ([119, 111, 117, 116] : List UInt8)) = true := beq_iff_eq.mpr c9
       have c9b1 : (a1.toList != ([119, 111, 117, 116] : List UInt8)) = false := bne_eq_false_iff_eq.mpr c9
       clear c9
       have H' := Aside0.mk H
       clear H
       go_wp2
       go_meet
       case rel => exact ⟨_, ((a1.toList == ([119, 111, 117, 116] : List UInt8))), (by first | rfl | (simp; done) | (simp [*]; done)), H', ⟨by first | omega | exact Nat.le_refl _⟩, by repeat (first | exact Drawn0.refl _ | apply Drawn0.step)⟩
      ·rw [if_neg c9] at H
       have c9b0 : (a1.toList == ([119, 111, 117, 116] : List UInt8)) = false := beq_eq_false_iff_ne.mpr c9
       have c9b1 : (a1.toList != ([119, 111, 117, 116] : List UInt8)) = true := bne_iff_ne.mpr c9
       have H' := Aside0.mk H
       clear H
       go_wp2
       go_meet
       case rel => exact ⟨_, ((a1.toList == ([112, 104, 97, 115, 101] : List UInt8))), (by first | rfl | (simp; done) | (simp [*]; done)), H', ⟨by first | omega | exact Nat.le_refl _⟩, by repeat (first | exact Drawn0.refl _ | apply Drawn0.step)⟩
 case rest =>
  clear HC4
  try clear p2
  try clear c5
  try clear c5b0
  try clear c5b1
  try clear c6
  try clear c6b0
  try clear c6b1
  try clear c7
  try clear c7b0
  try clear c7b1
  try clear c8
  try clear c8b0
  try clear c8b1
  try clear c9
  try clear c9b0
  try clear c9b1
  obtain ⟨kq, x8_3, rfl, HA, HJ3, ⟨mc3, rfl⟩⟩ := hcut
  cases kq with
  | zero => exact absurd HA.out (by simp [place_begin.j0])
  | succ kj3 =>
   have H := HA.out
   clear HA
   simp only [place_begin.j0] at H
   by_cases c10 : x8_3 = true
   ·subst c10
    have H1 : (some a2) = some r := by rw [if_pos rfl] at H; exact H
    clear H
    have H := H1
    clear H1
    obtain rfl := Option.some.inj H
    go_wp2
    go_ret
    exact ⟨by first | rfl | (simp; done) | (simp [*]; done), by repeat (first | exact Drawn0.refl _ | apply Drawn0.step)⟩
   ·replace c10 := Bool.eq_false_iff.mpr c10
    subst c10
    have H1 : (if a1.toList = ([114, 105, 110] : List UInt8) then (place_begin.j1 kj3 a0 a2 a1 (a1.toList == ([114, 105, 110] : List UInt8))) else (place_begin.j1 kj3 a0 a2 a1 (a1.toList == ([114, 111, 117, 116] : List UInt8)))) = some r := by rw [if_neg (show ¬ (false = true) by decide)] at H; exact H
    clear H
    have H := H1
    clear H1
    have HC11 := Aside0.mk H
    clear H
    go_upto_if 16 with (fail)
    go_cut [16] (fun v16 wc => ∃ (kq : Nat) (x16_10 : Bool), v16 = .bool x16_10 ∧ Aside0 (place_begin.j1 kq a0 a2 a1 x16_10 = some r) ∧ Aside0 (kq ≤ kj3) ∧ Drawn0 w wc)
    case first =>
     have H := HC11.out
     clear HC11
     by_cases c12 : a1.toList = ([114, 105, 110] : List UInt8)
     ·rw [if_pos c12] at H
      have c12b0 : (a1.toList == ([114, 105, 110] : List UInt8)) = true := beq_iff_eq.mpr c12
      have c12b1 : (a1.toList != ([114, 105, 110] : List UInt8)) = false := bne_eq_false_iff_eq.mpr c12
      clear c12
      (first | rw [c12b0] | (simp only [i64_w, i32_w]; rw [c12b0]) | skip)
      have H' := Aside0.mk H
      clear H
      go_wp2
      go_meet
      case rel => exact ⟨_, ((a1.toList == ([114, 105, 110] : List UInt8))), (by first | rfl | (simp; done) | (simp [*]; done)), H', ⟨by have := HJ3.out; first | omega | exact Nat.le_refl _⟩, by repeat (first | exact Drawn0.refl _ | apply Drawn0.step)⟩
     ·rw [if_neg c12] at H
      have c12b0 : (a1.toList == ([114, 105, 110] : List UInt8)) = false := beq_eq_false_iff_ne.mpr c12
      have c12b1 : (a1.toList != ([114, 105, 110] : List UInt8)) = true := bne_iff_ne.mpr c12
      (first | rw [c12b0] | (simp only [i64_w, i32_w]; rw [c12b0]) | skip)
      have H' := Aside0.mk H
      clear H
      go_wp2
      go_meet
      case rel => exact ⟨_, ((a1.toList == ([114, 111, 117, 116] : List UInt8))), (by first | rfl | (simp; done) | (simp [*]; done)), H', ⟨by have := HJ3.out; first | omega | exact Nat.le_refl _⟩, by repeat (first | exact Drawn0.refl _ | apply Drawn0.step)⟩
    case rest =>
     clear HC11
     try clear c1
     try clear p2
     try clear c3
     try clear c5
     try clear c5b0
     try clear c5b1
     try clear c6
     try clear c6b0
     try clear c6b1
     try clear c7
     try clear c7b0
     try clear c7b1
     try clear c8
     try clear c8b0
     try clear c8b1
     try clear c9
     try clear c9b0
     try clear c9b1
     try clear c10
     try clear c12
     try clear c12b0
     try clear c12b1
     try clear p2
     obtain ⟨kq, x16_10, rfl, HA, HJ10, ⟨mc10, rfl⟩⟩ := hcut
     cases kq with
     | zero => exact absurd HA.out (by simp [place_begin.j1])
     | succ kj10 =>
      have H := HA.out
      clear HA
      simp only [place_begin.j1] at H
      by_cases c13 : x16_10 = true
      ·subst c13
       have H1 : (some ((a2 * 256) % 4294967296)) = some r := by rw [if_pos rfl] at H; exact H
       clear H
       have H := H1
       clear H1
       obtain rfl := Option.some.inj H
       go_wp2
       go_ret
       exact ⟨by first | rfl | (simp; done) | (simp [*]; done), by repeat (first | exact Drawn0.refl _ | apply Drawn0.step)⟩
      ·replace c13 := Bool.eq_false_iff.mpr c13
       subst c13
       have H1 : (if a1.toList = ([119, 111, 114, 100] : List UInt8) then (if a0 = 6 then (some (((Go.bits .and .u32 a2 255) * 65792) % 4294967296)) else (some 0)) else (some 0)) = some r := by rw [if_neg (show ¬ (false = true) by decide)] at H; exact H
       clear H
       have H := H1
       clear H1
       by_cases c14 : a1.toList = ([119, 111, 114, 100] : List UInt8)
       ·rw [if_pos c14] at H
        have c14b0 : (a1.toList == ([119, 111, 114, 100] : List UInt8)) = true := beq_iff_eq.mpr c14
        have c14b1 : (a1.toList != ([119, 111, 114, 100] : List UInt8)) = false := bne_eq_false_iff_eq.mpr c14
        clear c14
        by_cases c15 : a0 = 6
        ·rw [if_pos c15] at H
         have c15b0 : (a0 == 6) = true := beq_iff_eq.mpr c15
         have c15b1 : (a0 != 6) = false := bne_eq_false_iff_eq.mpr c15
         clear c15
         obtain rfl := Option.some.inj H
         go_wp2
         go_ret
         exact ⟨by first | rfl | (simp; done) | (simp [*]; done), by repeat (first | exact Drawn0.refl _ | apply Drawn0.step)⟩
        ·rw [if_neg c15] at H
         have c15b0 : (a0 == 6) = false := beq_eq_false_iff_ne.mpr c15
         have c15b1 : (a0 != 6) = true := bne_iff_ne.mpr c15
         obtain rfl := Option.some.inj H
         go_wp2
         go_ret
         exact ⟨by first | rfl | (simp; done) | (simp [*]; done), by repeat (first | exact Drawn0.refl _ | apply Drawn0.step)⟩
       ·rw [if_neg c14] at H
        have c14b0 : (a1.toList == ([119, 111, 114, 100] : List UInt8)) = false := beq_eq_false_iff_ne.mpr c14
        have c14b1 : (a1.toList != ([119, 111, 114, 100] : List UInt8)) = true := bne_iff_ne.mpr c14
        obtain rfl := Option.some.inj H
        go_wp2
        go_ret
        exact ⟨by first | rfl | (simp; done) | (simp [*]; done), by repeat (first | exact Drawn0.refl _ | apply Drawn0.step)⟩
end Go.Proofs.YtkmlefbdhdlfmaaGreat.Pr
