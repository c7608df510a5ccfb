/- starve's functions. -/
import Derived.Test.YtkmlefbdhdlfmaaGreatStv3
namespace Go.Proofs.YtkmlefbdhdlfmaaGreat.Stv
open Go.RowKit Go.Proofs.YtkmlefbdhdlfmaaGreatW.PrintWords Go.Proofs.YtkmlefbdhdlfmaaGreatW.PrintMore Go.Proofs.YtkmlefbdhdlfmaaGreatW.PrintLast Go.Proofs.YtkmlefbdhdlfmaaGreat.Pr
set_option linter.unusedSimpArgs false
set_option maxRecDepth 100000
variable {w w1 : World} {B : Nat} {v : Value} {ys : List Pk}
theorem cell_of_heap {w : World} {b j : Nat} {cells : Array Value} {t : TypeId} {v : Value} (h : w.heap[b]? = some (.cells cells t (0, 0))) (hv : cells[j]? = some v) : w.cell? ⟨b, j, none⟩ = some v := by
 simp [World.cell?, h, hv]
def Row (w : World) (v : Value) (l : List Pk) : Prop := ∃ A c, v = .slice A l.length c ∧ l.length ≤ c ∧ Kd.C k2 w A l.length l
theorem Row.of_R (h : Kd.R k2 30 w B T v ys) : Row w v ys := by
 obtain ⟨A, c, rfl⟩ := Kd.R_slice h
 obtain ⟨_, hm, hC⟩ := Kd.R_reads' h
 exact ⟨A, c, rfl, hm, hC⟩
theorem C_lists {b t : Nat} (hs : List ((Option Addr × Nat) × List Pk)) (hc : w.heap[b]? = some (.cells (hs.map fun h => Value.slice h.1.1 h.2.length h.1.2).toArray t (0, 0)))
  (hh : ∀ h ∈ hs, h.2.length ≤ h.1.2 ∧ Kd.C k2 w h.1.1 h.2.length h.2) (hl : hs.length ≤ 1000) : Kd.C (Kd.slice 30 k2) w (some ⟨b, 0, none⟩) hs.length (hs.map (·.2)) := by
 refine ⟨List.length_map .., by omega, fun _ => ⟨_, rfl, fun j p hj => ?_⟩⟩
 rw [List.getElem?_map] at hj
 obtain ⟨h, hq, rfl⟩ := Option.map_eq_some_iff.1 hj
 obtain ⟨h1, h2⟩ := hh h (List.mem_of_getElem? hq)
 refine ⟨[.slice h.1.1 h.2.length h.1.2], rfl, ⟨_, _, rfl, h1, h2⟩, fun i u hu => ?_⟩
 match i, hu with
 | 0, hu =>
  cases hu
  have e1 : (Kd.slice 30 k2).sz = 1 := rfl
  rw [e1, Nat.mul_one, Nat.add_zero]
  have := cell_of_heap (j := j) (v := .slice h.1.1 h.2.length h.1.2) hc (by simp [hq])
  unfold Addr.add
  split
  ·next e => subst e; exact this
  ·simpa using this
theorem C_lists2 {b t : Nat} {A0 A1 : Option Addr} {c0 c1 : Nat} {l0 l1 : List Pk} (hc : w.heap[b]? = some (.cells #[.slice A0 l0.length c0, .slice A1 l1.length c1] t (0, 0))) (m0 : l0.length ≤ c0) (C0 : Kd.C k2 w A0 l0.length l0) (m1 : l1.length ≤ c1) (C1 : Kd.C k2 w A1 l1.length l1) : Kd.C (Kd.slice 30 k2) w (some ⟨b, 0, none⟩) 2 [l0, l1] :=
 C_lists [((A0, c0), l0), ((A1, c1), l1)] hc (fun h hh => by
  simp only [List.mem_cons, List.not_mem_nil, or_false] at hh
  rcases hh with rfl | rfl
  ·exact ⟨m0, C0⟩
  ·exact ⟨m1, C1⟩) (by simp)
theorem C_lists3 {b t : Nat} {A0 A1 A2 : Option Addr} {c0 c1 c2 : Nat} {l0 l1 l2 : List Pk} (hc : w.heap[b]? = some (.cells #[.slice A0 l0.length c0, .slice A1 l1.length c1, .slice A2 l2.length c2] t (0, 0))) (m0 : l0.length ≤ c0) (C0 : Kd.C k2 w A0 l0.length l0) (m1 : l1.length ≤ c1) (C1 : Kd.C k2 w A1 l1.length l1) (m2 : l2.length ≤ c2) (C2 : Kd.C k2 w A2 l2.length l2) : Kd.C (Kd.slice 30 k2) w (some ⟨b, 0, none⟩) 3 [l0, l1, l2] :=
 C_lists [((A0, c0), l0), ((A1, c1), l1), ((A2, c2), l2)] hc (fun h hh => by
  simp only [List.mem_cons, List.not_mem_nil, or_false] at hh
  rcases hh with rfl | rfl | rfl
  ·exact ⟨m0, C0⟩
  ·exact ⟨m1, C1⟩
  ·exact ⟨m2, C2⟩) (by simp)
theorem C_lists4 {b t : Nat} {A0 A1 A2 A3 : Option Addr} {c0 c1 c2 c3 : Nat} {l0 l1 l2 l3 : List Pk} (hc : w.heap[b]? = some (.cells #[.slice A0 l0.length c0, .slice A1 l1.length c1, .slice A2 l2.length c2, .slice A3 l3.length c3] t (0, 0))) (m0 : l0.length ≤ c0) (C0 : Kd.C k2 w A0 l0.length l0) (m1 : l1.length ≤ c1) (C1 : Kd.C k2 w A1 l1.length l1) (m2 : l2.length ≤ c2) (C2 : Kd.C k2 w A2 l2.length l2) (m3 : l3.length ≤ c3) (C3 : Kd.C k2 w A3 l3.length l3) : Kd.C (Kd.slice 30 k2) w (some ⟨b, 0, none⟩) 4 [l0, l1, l2, l3] :=
 C_lists [((A0, c0), l0), ((A1, c1), l1), ((A2, c2), l2), ((A3, c3), l3)] hc (fun h hh => by
  simp only [List.mem_cons, List.not_mem_nil, or_false] at hh
  rcases hh with rfl | rfl | rfl | rfl
  ·exact ⟨m0, C0⟩
  ·exact ⟨m1, C1⟩
  ·exact ⟨m2, C2⟩
  ·exact ⟨m3, C3⟩) (by simp)
theorem one_pick {b t : Nat} {x y : Int} (h : w.heap[b]? = some (.cells #[.int .i64 x, .int .i64 y] t (0, 0))) : Kd.C k2 w (some ⟨b, 0, none⟩) [(x, y)].length [(x, y)] := by
 refine ⟨rfl, by simp, fun _ => ⟨_, rfl, fun j p hj => ?_⟩⟩
 match j, hj with
 | 0, hj =>
  cases hj
  refine ⟨[.int .i64 x, .int .i64 y], rfl, ⟨_, _, rfl, rfl, rfl⟩, fun i u hu => ?_⟩
  match i, hu with
  | 0, hu => cases hu; exact cell_of_heap h rfl
  | 1, hu => cases hu; exact cell_of_heap h rfl
def restL (t : Int) (k : Nat) : List Pk := rep [(t, 0)] k
def doL (t o : Int) : List Pk := (t, o) :: restL t 18
def lookL : List Pk := restL 0 6
theorem rest_walk (t : Int) (k : Nat) (hk : k ≤ 1000) (w : World) : Calls Tryz.prog 65 #[.int .i64 t, .int .i64 (k : Int)] w fun e w' => ∃ A c, e = .returned (.slice A (restL t k).length c) ∧ (restL t k).length ≤ c ∧ Kd.C k2 w' A (restL t k).length (restL t k) ∧ Below w.heap.size w w' := by
 have h1 := one_pick (x := t) (y := 0) (heap_alloc_new w (.cells #[.int .i64 t, .int .i64 0] 30))
 have h2 := Lib.hid (repeat_walk (some ⟨w.heap.size, 0, none⟩) 1 [(t, 0)] k (w.alloc (.cells #[.int .i64 t, .int .i64 0] 30)) h1 (by simp) (by simp) (by omega) (by simp; omega))
 clear h1
 go_enter Tryz.func65, Tryz.ntmps65
 go_wp2_with (go_at_call 66; refine h2.out.mono ?_; clear h2; rintro e w1 ⟨v, rfl, hR, hB⟩; (obtain ⟨A, c, rfl, hm, hC⟩ := Row.of_R hR); replace hC := Lib.hid hC; replace hm := Lib.hid hm; replace hB := Lib.hid (below_then (below_alloc (Below.refl _ _) _) (by simp) hB); clear hR)
 go_ret
 exact ⟨A, c, rfl, hm.out, hC.out, hB.out⟩
theorem look_walk (w : World) : Calls Tryz.prog 93 #[] w fun e w' => ∃ A c, e = .returned (.slice A lookL.length c) ∧ lookL.length ≤ c ∧ Kd.C k2 w' A lookL.length lookL ∧ Below w.heap.size w w' := by
 go_enter Tryz.func93, Tryz.ntmps93
 go_wp2_with (go_at_call 65; refine (rest_walk 0 6 (by decide) _).mono ?_; rintro e w1 ⟨A, c, rfl, hm, hC, hB⟩; replace hC := Lib.hid hC; replace hm := Lib.hid hm; replace hB := Lib.hid hB)
 go_ret
 exact ⟨A, c, rfl, hm.out, hC.out, hB.out⟩
theorem concat_row (b c m : Nat) (xss : List (List Pk)) (out : List Pk) (hout : xss.flatten = out) (w : World) (hm : xss.length = m) (hC : Kd.C (Kd.slice 30 k2) w (some ⟨b, 0, none⟩) m xss) (hm1 : m ≤ 1000000) (ht : out.length ≤ 1000000) :
  Calls Tryz.prog 62 #[.slice (some ⟨b, 0, none⟩) m c] w fun e w' => ∃ A c, e = .returned (.slice A out.length c) ∧ out.length ≤ c ∧ Kd.C k2 w' A out.length out ∧ Below w.heap.size w w' := by
 refine (concat_walk (some ⟨b, 0, none⟩) c m xss w hm hC hm1 (by rw [hout]; exact ht)).mono ?_
 rintro e w1 ⟨v, rfl, hR, hB⟩
 rw [hout] at hR
 obtain ⟨A, c, rfl, hm, hC⟩ := Row.of_R hR
 exact ⟨A, c, rfl, hm, hC, hB⟩
theorem doL_len (t o : Int) : (doL t o).length = 19 := by simp [doL, restL, rep_length]
set_option maxHeartbeats 1000000 in
theorem do_walk (t o : Int) (w : World) : Calls Tryz.prog 63 #[.int .i64 t, .int .i64 o] w fun e w' => ∃ A c, e = .returned (.slice A (doL t o).length c) ∧ (doL t o).length ≤ c ∧ Kd.C k2 w' A (doL t o).length (doL t o) ∧ Below w.heap.size w w' := by
 have h1 := Lib.hid (one_pick (x := t) (y := o) (heap_alloc_new w (.cells #[.int .i64 t, .int .i64 o] 30)))
 have hb0 := Lib.hid (below_alloc (Below.refl w.heap.size w) (.cells #[.int .i64 t, .int .i64 o] 30))
 go_enter Tryz.func63, Tryz.ntmps63
 go_wp2_with (first
  | (go_at_call 65; refine (rest_walk t 18 (by decide) _).mono ?_; rintro e w1 ⟨A, c, rfl, hm, hC, hB⟩; replace hC := Lib.hid hC; replace hm := Lib.hid hm; replace hB := Lib.hid hB)
  | (go_at_call 62; refine (concat_row w1.heap.size 2 2 [[(t, o)], restL t 18] (doL t o) (by simp [doL]) _ rfl (C_lists2 (l0 := [(t, o)]) (heap_alloc_new w1 _) (by simp) (Kd.C_below h1.out (below_alloc hB.out _)) hm.out (Kd.C_below hC.out (below_alloc (Below.refl _ _) _))) (by decide) (by rw [doL_len]; decide)).mono ?_; rintro e w2 ⟨A2, c2, rfl, hm2, hC2, hB2⟩; replace hC2 := Lib.hid hC2; replace hm2 := Lib.hid hm2; replace hB2 := Lib.hid (below_then (below_then hb0.out hb0.out.size hB.out) (Nat.le_trans hb0.out.size hB.out.size) (below_then (below_alloc (Below.refl _ _) _) (by simp) hB2))))
 go_ret
 exact ⟨A2, c2, rfl, hm2.out, hC2.out, hB2.out⟩
end Go.Proofs.YtkmlefbdhdlfmaaGreat.Stv
