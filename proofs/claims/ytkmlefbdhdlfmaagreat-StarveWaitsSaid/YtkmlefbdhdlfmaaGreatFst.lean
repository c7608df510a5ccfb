/- place.First: the words of a world at first (walks), and what they are. -/
import Derived.Test.YtkmlefbdhdlfmaaGreatQ1
import Derived.Test.YtkmlefbdhdlfmaaGreatPr
import Derived.Test.YtkmlefbdhdlfmaaGreatMapsI
import Derived.LoopTactic
namespace Go.Proofs.YtkmlefbdhdlfmaaGreat.First
open Go.RowKit Go.Proofs.YtkmlefbdhdlfmaaGreat.Pr Go.Proofs.YtkmlefbdhdlfmaaGreatW.PrintWords Go.Proofs.YtkmlefbdhdlfmaaGreatW.PrintLast
set_option linter.unusedSimpArgs false
set_option linter.unusedVariables false
def sizev (n : Int) : Int := if 1 ≤ n ∧ n ≤ 64 then 8 + 4 * n else 0
theorem fwrap (x : Int) (h0 : 0 ≤ x) (h1 : x ≤ 100000) : wrap64 x = x := by unfold wrap64; omega
theorem size_f (n : Int) : place_Map_Size.f n = some (sizev n) := by
 unfold place_Map_Size.f place_right.f
 by_cases a : n ≥ 1
 ·by_cases b : n ≤ 64
  ·rw [show sizev n = 8 + 4 * n from if_pos ⟨a, b⟩, if_pos a]
   simp only [Option.bind_some]
   rw [if_pos (by simpa using b), fwrap (4 * n) (by omega) (by omega), fwrap (8 + 4 * n) (by omega) (by omega)]
  ·rw [show sizev n = 0 from if_neg (by omega), if_pos a]
   simp only [Option.bind_some]
   rw [if_neg (by simpa using b)]
 ·rw [show sizev n = 0 from if_neg (by omega), if_neg a]
  simp only [Option.bind_some]
  rw [if_neg (by simp)]
theorem map_size (n : Int) (w : World) :
  Calls Tryz.prog 79 #[.agg #[.int .i64 n]] w fun e w' => e = .returned (.int .i64 (sizev n)) ∧ Below w.heap.size w w' :=
 place_Map_Size.calls n _ w (size_f n)
theorem new_in {n : Int} (h0 : 1 ≤ n) (h1 : n ≤ 64) : place_New.f n = some (n, 0) := by
 unfold place_New.f place_right.f
 rw [if_pos (by omega)]
 simp only [Option.bind_some]
 rw [if_pos (by simpa using h1)]
def StrRow (w : World) (b : Nat) (l : List ByteArray) : Prop := w.heap[b]? = some (.cells (l.map Value.string).toArray 9 (0, 0))
theorem StrRow.lt {w : World} {b : Nat} {l : List ByteArray} (h : StrRow w b l) : b < w.heap.size := (Array.getElem?_eq_some_iff.1 h).1
theorem StrRow.below {w w' : World} {b B : Nat} {l : List ByteArray} (h : StrRow w b l) (hb : Below B w w') (hB : b < B) : StrRow w' b l := (hb.block b hB).trans h
theorem StrRow.alloc {w : World} {b : Nat} {l : List ByteArray} (h : StrRow w b l) (o : Obj) : StrRow (w.alloc o) b l := (Below.heap_alloc w o b h.lt).trans h
theorem StrRow.step {w w' : World} {r b : Nat} {l : List ByteArray} (h : StrRow w b l) (o : Obj) (t : IMap.Turned (w.alloc o) w' r) (hb : b ≠ r) : StrRow w' b l :=
 (t.other b hb).trans ((Below.heap_alloc w o b h.lt).trans h)
theorem StrRow.new {w w' : World} {r : Nat} (l : List ByteArray) (o : Obj) (ho : o = .cells (l.map Value.string).toArray 9 (0, 0)) (t : IMap.Turned (w.alloc o) w' r) (hb : w.heap.size ≠ r) : StrRow w' w.heap.size l := by
 subst ho; exact (t.other _ hb).trans (heap_alloc_new w _)
def own (kind : Int) : List ByteArray :=
 if kind = 1 then [⟨#[117, 115, 101, 114, 115]⟩, ⟨#[114, 101, 97, 100, 115]⟩, ⟨#[119, 114, 105, 116, 101, 115]⟩] else if kind = 2 then [⟨#[114, 105, 110]⟩, ⟨#[114, 111, 117, 116]⟩, ⟨#[119, 105, 110]⟩, ⟨#[119, 111, 117, 116]⟩, ⟨#[112, 104, 97, 115, 101]⟩] else if kind = 3 then [⟨#[114, 105, 110]⟩, ⟨#[114, 111, 117, 116]⟩, ⟨#[116, 97, 105, 108]⟩, ⟨#[112, 104, 97, 115, 101]⟩] else if kind = 4 then [⟨#[116, 97, 105, 108]⟩, ⟨#[99, 111, 117, 110, 116]⟩] else if kind = 5 then [⟨#[119, 111, 114, 100]⟩] else if kind = 6 then [⟨#[119, 111, 114, 100]⟩] else []
set_option maxRecDepth 100000 in
set_option maxHeartbeats 2000000 in
theorem names (w : World) :
  Calls Tryz.prog 77 #[] w fun e w' => e = .returned (.map (some w.heap.size)) ∧ Below w.heap.size w w' ∧ ∃ b1 b2 b3 b4 b5 b6,
   IMap.Is w' w.heap.size [(1, .slice (some ⟨b1, 0, none⟩) 3 3), (2, .slice (some ⟨b2, 0, none⟩) 5 5), (3, .slice (some ⟨b3, 0, none⟩) 4 4), (4, .slice (some ⟨b4, 0, none⟩) 2 2), (5, .slice (some ⟨b5, 0, none⟩) 1 1), (6, .slice (some ⟨b6, 0, none⟩) 1 1)] ∧ (StrRow w' b1 (own 1) ∧ w.heap.size < b1) ∧ (StrRow w' b2 (own 2) ∧ w.heap.size < b2) ∧ (StrRow w' b3 (own 3) ∧ w.heap.size < b3) ∧ (StrRow w' b4 (own 4) ∧ w.heap.size < b4) ∧ (StrRow w' b5 (own 5) ∧ w.heap.size < b5) ∧ (StrRow w' b6 (own 6) ∧ w.heap.size < b6) := by
 have hmm := @run_makeMap Tryz.prog
 go_enter Tryz.func77, Tryz.ntmps77
 go_wp2_with (first
  | (refine IMap.wp_insert rfl 132 (.tmp 1) (.const (.int .i64 1)) (.tmp 2) rfl 3 131 Tryz.underlying132 Tryz.underlying3 w.heap.size _ 1 _ rfl rfl rfl ((IMap.Is.made w).alloc _) ?_; intro w1 h1 t1)
  | (refine IMap.wp_insert rfl 132 (.tmp 1) (.const (.int .i64 2)) (.tmp 3) rfl 3 131 Tryz.underlying132 Tryz.underlying3 w.heap.size _ 2 _ rfl rfl rfl (h1.alloc _) ?_; intro w2 h2 t2)
  | (refine IMap.wp_insert rfl 132 (.tmp 1) (.const (.int .i64 3)) (.tmp 4) rfl 3 131 Tryz.underlying132 Tryz.underlying3 w.heap.size _ 3 _ rfl rfl rfl (h2.alloc _) ?_; intro w3 h3 t3)
  | (refine IMap.wp_insert rfl 132 (.tmp 1) (.const (.int .i64 4)) (.tmp 5) rfl 3 131 Tryz.underlying132 Tryz.underlying3 w.heap.size _ 4 _ rfl rfl rfl (h3.alloc _) ?_; intro w4 h4 t4)
  | (refine IMap.wp_insert rfl 132 (.tmp 1) (.const (.int .i64 5)) (.tmp 6) rfl 3 131 Tryz.underlying132 Tryz.underlying3 w.heap.size _ 5 _ rfl rfl rfl (h4.alloc _) ?_; intro w5 h5 t5)
  | (refine IMap.wp_insert rfl 132 (.tmp 1) (.const (.int .i64 6)) (.tmp 7) rfl 3 131 Tryz.underlying132 Tryz.underlying3 w.heap.size _ 6 _ rfl rfl rfl (h5.alloc _) ?_; intro w6 h6 t6))
 go_ret
 have s1 := t1.size; have s2 := t2.size; have s3 := t3.size; have s4 := t4.size; have s5 := t5.size; have s6 := t6.size
 simp only [World.size_alloc] at s1 s2 s3 s4 s5 s6
 have r1 : StrRow w1 (w.heap.size + 1) (own 1) := by have := StrRow.new (own 1) _ rfl t1 (by simp); simpa using this
 have r2 : StrRow w2 w1.heap.size (own 2) := StrRow.new (own 2) _ rfl t2 (by omega)
 have r1 := r1.step _ t2 (by omega)
 have r3 : StrRow w3 w2.heap.size (own 3) := StrRow.new (own 3) _ rfl t3 (by omega)
 have r1 := r1.step _ t3 (by omega)
 have r2 := r2.step _ t3 (by omega)
 have r4 : StrRow w4 w3.heap.size (own 4) := StrRow.new (own 4) _ rfl t4 (by omega)
 have r1 := r1.step _ t4 (by omega)
 have r2 := r2.step _ t4 (by omega)
 have r3 := r3.step _ t4 (by omega)
 have r5 : StrRow w5 w4.heap.size (own 5) := StrRow.new (own 5) _ rfl t5 (by omega)
 have r1 := r1.step _ t5 (by omega)
 have r2 := r2.step _ t5 (by omega)
 have r3 := r3.step _ t5 (by omega)
 have r4 := r4.step _ t5 (by omega)
 have r6 : StrRow w6 w5.heap.size (own 6) := StrRow.new (own 6) _ rfl t6 (by omega)
 have r1 := r1.step _ t6 (by omega)
 have r2 := r2.step _ t6 (by omega)
 have r3 := r3.step _ t6 (by omega)
 have r4 := r4.step _ t6 (by omega)
 have r5 := r5.step _ t6 (by omega)
 have c1 := t1.below (Nat.le_refl _) (below_alloc (below_alloc (Below.refl _ w) _) _)
 have c2 := t2.below (Nat.le_refl _) (below_alloc c1 _)
 have c3 := t3.below (Nat.le_refl _) (below_alloc c2 _)
 have c4 := t4.below (Nat.le_refl _) (below_alloc c3 _)
 have c5 := t5.below (Nat.le_refl _) (below_alloc c4 _)
 have c6 := t6.below (Nat.le_refl _) (below_alloc c5 _)
 exact ⟨rfl, c6, _, _, _, _, _, _, h6, ⟨r1, by omega⟩, ⟨r2, by omega⟩, ⟨r3, by omega⟩, ⟨r4, by omega⟩, ⟨r5, by omega⟩, ⟨r6, by omega⟩⟩
theorem own_other {k : Int} (h : ¬ (1 ≤ k ∧ k ≤ 6)) : own k = [] := by
 unfold own
 rw [if_neg (by omega), if_neg (by omega), if_neg (by omega), if_neg (by omega), if_neg (by omega), if_neg (by omega)]
def Named (w w' : World) (m : IMap.M) : Prop := ∀ k, (own k = [] ∧ IMap.get m k = none) ∨
 (own k ≠ [] ∧ ∃ b, IMap.get m k = some (.slice (some ⟨b, 0, none⟩) (own k).length (own k).length) ∧ StrRow w' b (own k) ∧ w.heap.size < b)
theorem names_map (w : World) :
  Calls Tryz.prog 77 #[] w fun e w' => e = .returned (.map (some w.heap.size)) ∧ Below w.heap.size w w' ∧ ∃ m, IMap.Is w' w.heap.size m ∧ Named w w' m := by
 refine (names w).mono ?_
 rintro e w' ⟨rfl, hb, b1, b2, b3, b4, b5, b6, hi, h1, h2, h3, h4, h5, h6⟩
 refine ⟨rfl, hb, _, hi, fun k => ?_⟩
 by_cases e1 : k = 1
 ·subst e1; exact .inr ⟨by decide, b1, rfl, h1⟩
 by_cases e2 : k = 2
 ·subst e2; exact .inr ⟨by decide, b2, rfl, h2⟩
 by_cases e3 : k = 3
 ·subst e3; exact .inr ⟨by decide, b3, rfl, h3⟩
 by_cases e4 : k = 4
 ·subst e4; exact .inr ⟨by decide, b4, rfl, h4⟩
 by_cases e5 : k = 5
 ·subst e5; exact .inr ⟨by decide, b5, rfl, h5⟩
 by_cases e6 : k = 6
 ·subst e6; exact .inr ⟨by decide, b6, rfl, h6⟩
 refine .inl ⟨own_other (by omega), ?_⟩
 simp only [IMap.get]
 rw [if_neg (Ne.symm e1), if_neg (Ne.symm e2), if_neg (Ne.symm e3), if_neg (Ne.symm e4), if_neg (Ne.symm e5), if_neg (Ne.symm e6)]
theorem zero37 (w : World) : (zeroValue 131).run Tryz.prog w = .ok (.slice none 0 0) w := by kernel_rfl
theorem info64 : (Tryz.prog.info? 22).map (fun i => (i.zero, i.size, i.bytes)) = some (some (.int .u32 0), 1, 4) := by kernel_rfl
theorem own_len (k : Int) : (own k).length ≤ 5 := by
 unfold own
 split
 ·decide
 split
 ·decide
 split
 ·decide
 split
 ·decide
 split
 ·decide
 split
 ·decide
 ·decide
def bgv (kind : Int) (name : ByteArray) (base : Int) : Int := (place_begin.f 5 kind name base).getD 0
theorem begin_some (kind : Int) (name : ByteArray) (base : Int) : place_begin.f 5 kind name base = some (bgv kind name base) := by
 have h : ∃ r, place_begin.f 5 kind name base = some r := by
  unfold place_begin.f
  have j0 : ∀ b, ∃ r, place_begin.j0 5 kind base name b = some r := by
   intro b
   simp only [place_begin.j0]
   have j1 : ∀ b, ∃ r, place_begin.j1 4 kind base name b = some r := by
    intro b
    simp only [place_begin.j1]
    repeat' split
    all_goals exact ⟨_, rfl⟩
   repeat' split
   all_goals first | exact ⟨_, rfl⟩ | exact j1 _
  repeat' split
  all_goals exact j0 _
 obtain ⟨r, hr⟩ := h
 unfold bgv
 rw [hr]; rfl
theorem begin_any (kind : Int) (name : ByteArray) (base : Int) (w : World) :
  Calls Tryz.prog 80 #[.int .i64 kind, .string name, .int .u32 base] w fun e w' => e = .returned (.int .u32 (bgv kind name base)) ∧ Drawn0 w w' :=
 place_begin.calls 5 kind name base _ w (begin_some kind name base)
def ws (kind base : Int) (l : List ByteArray) (N : Nat) : Nat → List Int
 | 0 => List.replicate N 0
 | i + 1 => (ws kind base l N i).set i (bgv kind (l.getD i ByteArray.empty) base)
theorem ws_length (kind base : Int) (l : List ByteArray) (N : Nat) : ∀ i, (ws kind base l N i).length = N
 | 0 => by simp [ws]
 | i + 1 => by simp [ws, ws_length kind base l N i]
theorem size_in (n : Int) (N : Nat) (w : World) (h0 : 1 ≤ n) (h1 : n ≤ 64) (hN : (N : Int) = 8 + 4 * n) :
  Calls Tryz.prog 79 #[.agg #[.int .i64 n]] w fun e w' => e = .returned (.int .i64 (N : Int)) ∧ Below w.heap.size w w' := by
 refine (map_size n w).mono ?_
 rintro e w' ⟨rfl, hb⟩
 refine ⟨?_, hb⟩
 rw [show sizev n = 8 + 4 * n from if_pos ⟨h0, h1⟩, hN]
set_option maxRecDepth 100000 in
set_option maxHeartbeats 4000000 in
theorem first_good (kind n base : Int) (w : World) (hk : own kind ≠ []) (h0 : 1 ≤ n) (h1 : n ≤ 64) (N : Nat) (hN : (N : Int) = 8 + 4 * n) :
  Calls Tryz.prog 39 #[.int .i64 kind, .int .i64 n, .int .u32 base] w fun e w' => ∃ v, e = .returned (.tuple #[v, .int .i64 0]) ∧
   Kd.R (Kd.int .u32) 22 w' w.heap.size (fun _ => True) v (ws kind base (own kind) N (own kind).length) ∧ Below w.heap.size w w' := by
 have HK := Lib.hid hk
 have HO := Lib.hid (new_in h0 h1)
 have HS := Lib.hid (fun w => size_in n N w h0 h1 hN)
 have hL : 0 < (own kind).length := List.length_pos_iff.2 hk
 have hL5 := own_len kind
 have hN12 : 12 ≤ N := by omega
 have hNb : N ≤ 264 := by omega
 clear hk hN h0 h1
 obtain ⟨L, eL⟩ : ∃ L, L = (own kind).length := ⟨_, rfl⟩
 have HL := Lib.hid eL
 rw [← eL] at hL hL5 ⊢
 clear eL
 go_enter Tryz.func39, Tryz.ntmps39
 go_wp2_with (first
  | (go_at_call 77; refine (names_map _).mono ?_; rintro e w1 ⟨rfl, hb1, m, hi, hn⟩; have HN := Lib.hid (hn kind); clear hn)
  | (refine IMap.wp_lookup rfl 132 (.tmp 14) (.tmp 15) rfl 3 131 Tryz.underlying132 Tryz.underlying3 (zero37 _) w.heap.size m kind rfl rfl hi ?_; rintro v hv; obtain ⟨b, rfl, hrow⟩ : ∃ b, v = .slice (some ⟨b, 0, none⟩) L L ∧ Hid (StrRow w1 b (own kind)) := (by rcases HN.out with ⟨h, _⟩ | ⟨_, b, h, hr, _⟩; (exact absurd h HK.out); (rw [h] at hv; exact ⟨b, by rw [HL.out]; exact hv.symm, hr⟩)); clear hv)
  | (go_at_call 78; refine (place_New.calls n n 0 _ HO.out).mono ?_; rintro e w2 ⟨rfl, hb2⟩)
  | (go_at_call 79; refine (HS.out _).mono ?_; rintro e w3 ⟨rfl, hb3⟩)
  | (at_make; go_must (refine Kd.R_make (Kd.int .u32) (w0 := w) w.heap.size 22 rfl (N := 30) rfl 32 _ _ rfl (N : Int) rfl rfl Tryz.underlying32 (.int .u32 0) 4 info64 rfl (by decide) (by omega) 0 (ok := fun _ => True) (okp := fun _ => True) rfl (fun _ hk => hk) trivial (by omega) (by omega) (below_then (below_alloc (below_then hb1 hb1.size hb2) _) (below_alloc (below_then hb1 hb1.size hb2) _).size hb3) (below_then (below_alloc (below_then hb1 hb1.size hb2) _) (below_alloc (below_then hb1 hb1.size hb2) _).size hb3).size ?_; intro v4 w4 hr4 hb4 hg4 ho4)))
 obtain ⟨bo, hbo, hbo3⟩ := ho4
 obtain ⟨g, cap, hv, hg0, hg1, _, _⟩ := Kd.R_form hr4 (by simp; omega)
 simp only [List.length_replicate, Int.toNat_natCast] at hv hr4
 subst hv
 obtain rfl : bo = g := by simpa [Value.ownBlock] using hbo.symm
 have hrow4 : Hid (StrRow w4 b (own kind)) := by
  have h1 := hrow.out.lt
  have c2 := below_alloc (below_then hb1 hb1.size hb2) (.cells #[.int .i64 n] 94)
  have h2 : StrRow w2 b (own kind) := hrow.out.below hb2 h1
  have h3 := (h2.alloc (.cells #[.int .i64 n] 94)).below hb3 (by simp; have := hb2.size; omega)
  exact (hg4.block b h3.lt (by simp)).trans h3
 have hbg : b < bo := by
  have h1 := hrow.out.lt
  have := hb2.size
  have := hb3.size
  simp at this
  omega
 have hg0' := Lib.hid hg0
 clear hbo hbo3 hg0 hg1 hrow hb1 hb2 hb3 hg4 hi HN HO HS
 go_loopw [33] (fun i wr => ∃ k : Nat, k ≤ L ∧ i = .int .i64 k ∧ Hid (StrRow wr b (own kind)) ∧ Hid (Kd.R (Kd.int .u32) 22 wr w.heap.size (fun _ => True) (.slice (some ⟨bo, 0, none⟩) N cap) (ws kind base (own kind) N k)) ∧ Hid (Below w.heap.size w wr)) (fun i _ => L - (intOf i).toNat)
 case atStart => exact ⟨0, Nat.zero_le _, rfl, hrow4, hr4, hb4⟩
 case round =>
  obtain ⟨k, hk, rfl, hrowk, hrk, hbk⟩ := hrel
  clear hr4 hb4 hrow4
  by_cases hlt : k < L
  ·obtain ⟨nm, hnm⟩ : ∃ nm, nm = (own kind).getD k ByteArray.empty := ⟨_, rfl⟩
   have HNM := Lib.hid hnm
   have hc : wr.cell? ⟨b, k, none⟩ = some (.string nm) := by
    rw [blk_cell hrowk.out k, hnm]
    simp [show k < (own kind).length by rw [← HL.out]; exact hlt]
   have hlen : (ws kind base (own kind) N k).length = N := ws_length ..
   obtain ⟨xs, hxs⟩ : ∃ xs, xs = ws kind base (own kind) N k := ⟨_, rfl⟩
   rw [← hxs] at hlen hrk
   have HX := Lib.hid hxs
   clear hxs
   have hcf : wr.cell? ⟨bo, k, none⟩ = some (.int .u32 (rdOf 0 xs (k : Int))) ∧ wr.frozen? ⟨bo, k, none⟩ = false := by
    have hrk' : Kd.R (Kd.int .u32) 22 wr w.heap.size (fun _ => True) (.slice (some ⟨bo, 0, none⟩) xs.length cap) xs := by rw [hlen]; exact hrk.out
    have := Kd.R_cell 0 hrk' (k : Int) (by omega) (by omega)
    simpa using this
   obtain ⟨hcg, hfg⟩ := hcf
   have HLN := Lib.hid hlen
   clear hnm hlen
   have hkN : k < N := by omega
   go_wp2_with (first
    | (go_at_call 80; refine (begin_any kind nm base _).mono ?_; rintro e w' ⟨rfl, ⟨nd, rfl⟩⟩))
   go_roundw
   case rel =>
    refine ⟨k + 1, by omega, by go_num, (Below.heap_setCell _ _ _ b (by simp; omega)).trans hrowk.out, ?_, (pw_below_drewN hbk.out nd).setCell (p := ⟨bo, k, none⟩) hg0'.out _⟩
    have h := Kd.R_putn (Kd.R_drewN hrk.out nd) (k : Int) (bgv kind nm base)
    rw [HX.out, HNM.out] at h
    simp only [Int.toNat_natCast] at h
    rw [HNM.out]
    exact h
   case measure => simp [intOf]; omega
  ·obtain rfl : k = L := by omega
   go_wp2
   go_ret2
   refine ⟨_, rfl, ?_, hbk.out⟩
   exact hrk.out
end Go.Proofs.YtkmlefbdhdlfmaaGreat.First
