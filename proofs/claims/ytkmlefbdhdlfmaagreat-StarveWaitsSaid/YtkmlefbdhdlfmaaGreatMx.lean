/- The queue of tasks (package mutex), against the plain texts. -/
import Derived.Test.YtkmlefbdhdlfmaaGreatLn
import Derived.Test.YtkmlefbdhdlfmaaGreatValid
namespace Go.Proofs.YtkmlefbdhdlfmaaGreat.Wo
open Go.RowKit Go.Proofs.YtkmlefbdhdlfmaaGreatW.PrintWords Go.Proofs.YtkmlefbdhdlfmaaGreatW.PrintMore Go.Proofs.YtkmlefbdhdlfmaaGreatW.PrintLast
open Stile
set_option linter.unusedSimpArgs false
set_option linter.unusedVariables false
set_option maxRecDepth 100000
variable {w w1 w2 w0 : World} {B p pm g m : Nat} {r r1 : Run} {Q : Ending → World → Prop} {tail a : Int} {xs : List Int} {sb cap : Nat} {cs : Array Value}
theorem e79 {P : Prop} (h : P := by
 refine store_step hc _ _ (by decide) ?_
 intro w1 f1 hc d6 d7
 refine ⟨_, rfl, ?_⟩
 refine hK.out _ _ ?_
 clear hK K
 refine nm_ ?_
 refine done_ (by kernel_rfl) ?_
 clear c6 c7
 have c6 := d6
 have c7 := d7
 go_wp2_with (first
  | (go_at_call 102; (try clear c6); (try clear c7); go_must (refine go_step hc _ ?_; intro w1 f1 hc c6 c7; clear f1)))
 exact e82) : P := h
theorem e82 {P : Prop} (h : P := by
 go_ret
 refine ⟨rfl, ?_, hc.out.fr⟩
 unfold Mx.enter
 exact e90) : P := h
theorem e83 {P : Prop} (h : P := by
 obtain ⟨hc, c4, c5, c6, c7⟩ := start h hO hn rfl hln
 replace h := Lib.hid h
 replace hO := Lib.hid hO
 replace hn := Lib.hid hn
 replace hln := Lib.hid hln
 replace hs := Lib.hid hs
 replace hd := Lib.hid hd
 go_enter Tryz.func159, Tryz.ntmps159
 go_upto_region 23 with (fail)
 refine start_ (n := 16) (S := fun w' => w'.cell? ⟨p, 1, none⟩ = some (.int .i64 r.n) ∧ w'.cell? ⟨p, 3, none⟩ = some (.int .i64 r.task)) (ds := []) #[false, false, false, false, false, false, false, false, false, false, false, false, false, false, false, false] (by kernel_rfl) rfl rfl ⟨hc.out.drew.c1, hc.out.drew.c3⟩ (fun hHeld => ?_)
 refine pu_ 0 95 (mk 16 1) rfl rfl ?_
 refine pu_ 1 96 (mk 16 3) rfl rfl ?_
 refine pu_ 2 97 (mk 16 7) rfl rfl ?_
 refine pu_ 3 98 (mk 16 15) rfl rfl ?_
 refine pu_ 5 100 (mk 16 47) rfl rfl ?_
 refine pu_ 6 101 (mk 16 111) rfl rfl ?_
 refine pu_ 7 102 (mk 16 239) rfl rfl ?_
 refine tk2_ 4 99 (mk 16 255) rfl rfl hHeld ?_
 refine tk2_ 8 103 (mk 16 511) rfl rfl hHeld ?_
 refine one_ (i := 9) (N := some 104) (mk 16 1023) rfl rfl (by kernel_rfl) (by decide) (fun K hK => ?_)
 refine goes_ Tryz.func192 (by kernel_rfl) rfl #[.agg #[.int .i64 r.n], .int .i64 r.task] (by rfl) rfl rfl (by simp only [List.map_toArray, List.map_cons, List.map_nil]; rfl) ?_
 with_reducible refine (pblocked_walk r.n r.task _).mono ?_
 rintro e w1 ⟨rfl, hb1⟩
 refine ⟨_, rfl, ?_⟩
 replace hc := Lib.hid (hc.out.drew.below hb1)
 clear hb1
 refine hK.out _ _ ⟨hc.out.c1, hc.out.c3⟩ (fun hHeld => ?_)
 clear hK K
 refine nm_ ?_
 refine one_ (i := 10) (N := some 105) (mk 16 2047) rfl rfl (by kernel_rfl) (by decide) (fun K hK => ?_)
 refine goes_ Tryz.func101 (by kernel_rfl) rfl #[.pointer (some ⟨p, 0, none⟩), .int .i64 (pblocked r.n r.task), .func (.func 196) #[] #[]] (by rfl) rfl rfl (by simp only [List.map_toArray, List.map_cons, List.map_nil]; rfl) ?_
 refine wait_step hc _ (fun v => v == 0) mxzero_tells _ _ hs.out hd.out ?_
 intro w1 f1 hc d6 d7
 refine ⟨_, rfl, ?_⟩
 refine hK.out _ _ ⟨hc.out.c1, hc.out.c3⟩ (fun hHeld => ?_)
 clear hK K
 refine nm_ ?_
 refine pu_ 11 94 (mk 16 4095) rfl rfl ?_
 refine pu_ 12 106 (mk 16 8191) rfl rfl ?_
 refine pu_ 13 107 (mk 16 16383) rfl rfl ?_
 refine pu_ 14 9 (mk 16 32767) rfl rfl ?_
 refine pu_ 15 10 (mk 16 65535) rfl rfl ?_
 refine done_ (by kernel_rfl) ?_
 clear c6 c7
 go_wp2
 exact e82) : P := h
theorem e84 {P : Prop} (h : P := by
 refine ⟨rfl, ?_, hc.out.fr⟩
 have s1 : r.f.line - a = 1 := by rw [hln.out]; omega
 unfold Mx.try_
 simp only [s1]
 exact hc.out.at_) : P := h
theorem e85 {P : Prop} (h : P := by
 go_ret
 refine ⟨rfl, ?_, hc.out.fr⟩
 have s2 : r.f.line - a = 2 := by rw [hln.out]; omega
 rw [g3.out] at hc
 exact e175) : P := h
theorem e86 {P : Prop} (h : P := by
 go_ret
 refine ⟨rfl, ?_, hc.out.fr⟩
 have s2 : r.f.line - a = 2 := by rw [hln.out]; omega
 exact e175) : P := h
theorem e175 {P : Prop} (h : P := by
 unfold Mx.give
 simp only [s2]
 simp only [Int.reduceEq, and_true, true_and, and_self, and_false, false_and, if_true, if_false, or_false, false_or, or_true, true_or]
 simp only [hs, hd, if_true, Bool.false_eq_true, if_false]
 exact hc.out.at_) : P := h
theorem mxown_walk (h : At B w p pm g r) : Calls Tryz.prog 194 #[.pointer (some ⟨p, 0, none⟩)] w fun e w' => e = .returned (.int .u32 (Mx.own r)) ∧ w' = w := by
 have c3 := h.cell 3 (fun _ => rfl)
 replace h := Lib.hid h
 have he : wrap64 (r.task + 1) % 4294967296 = Mx.own r := by unfold Mx.own u32 wrap64; omega
 replace he := Lib.hid he
 go_enter Tryz.func194, Tryz.ntmps194
 go_wp2
 go_ret
 exact ⟨by rw [← he.out]; rfl, rfl⟩
theorem heap_below {b : Nat} {o : Obj} (h : Below w.heap.size w w1) (hb : w.heap[b]? = some o) : w1.heap[b]? = some o :=
 (h.block b (Array.getElem?_eq_some_iff.1 hb).1).trans hb
theorem Car.setA' (h : Car B w0 w p pm g r m) (v : Int) (hv : v = r.acc.old) : Car B w0 (w.setCell ⟨p, 6, none⟩ (.int .u32 v)) p pm g (r.setA v) m :=
 h.to (h.at_.store 6 (.int .u32 v) (r.setA v) (fun _ => rfl) rfl rfl) ((Fr.refl B p g w).set ⟨p, 6, none⟩ (.inl rfl) _) (h.ok.setA (by rw [hv]; exact h.ok.old)) h.few
theorem w32_own (r : Run) : W32 (Mx.own r) := w32_u32 _
theorem mxother_walk (a : Int) (ha : W32 a) (w : World) : Calls Tryz.prog 195 #[.int .u32 a] w fun e w' => e = .returned (.int .i64 (a - 1)) ∧ w' = w := by
 have h1 : wrap64 a = a := by unfold wrap64; have := ha.1; have := ha.2; omega
 have h2 : wrap64 (a - 1) = a - 1 := by unfold wrap64; have := ha.1; have := ha.2; omega
 replace ha := Lib.hid ha
 go_enter Tryz.func195, Tryz.ntmps195
 go_wp2
 go_ret
 exact ⟨by first | rfl | (simp only [h1, h2]; rfl), rfl⟩
theorem mxzero_walk (v : Int) (w : World) : Calls Tryz.prog 196 #[.int .u32 v] w fun e w' => e = .returned (.bool (v == 0)) ∧ w' = w := by
 go_enter Tryz.func196, Tryz.ntmps196
 go_wp2
 go_ret
 exact ⟨rfl, rfl⟩
theorem mxzero_tells : Tells B p pm g r false (fun v => v == 0) 196 #[] w :=
 ⟨⟨_, Tryz.func196, rfl, rfl⟩, fun w1 v hv hf ha => (mxzero_walk v w1).mono (by rintro e w2 ⟨rfl, rfl⟩; exact ⟨rfl, ha, Fr.refl _ _ _ _⟩)⟩
theorem Car.c1 (h : Car B w0 w p pm g r m) : w.cell? ⟨p, 1, none⟩ = some (.int .i64 r.n) := h.at_.cell 1 (fun _ => rfl)
theorem Car.c3 (h : Car B w0 w p pm g r m) : w.cell? ⟨p, 3, none⟩ = some (.int .i64 r.task) := h.at_.cell 3 (fun _ => rfl)
set_option maxHeartbeats 2000000 in
theorem mxnoted_walk (h : At B w p pm g r) (hn : r.notes.length ≤ 900) (xs : List Int) (hx : xs.length ≤ 5) {sb cap : Nat} {cs : Array Value} (hb : w.heap[sb]? = some (.cells cs 3 (0, 0))) (hc : ∀ i, i < xs.length → cs[i]? = some (.int .i64 (xs.getD i 0))) (h1 : sb ≠ p) (h2 : sb ≠ g) :
  Calls Tryz.prog 197 #[.pointer (some ⟨p, 0, none⟩), .slice (some ⟨sb, 0, none⟩) xs.length cap] w fun e w' => e = .returned (.tuple #[]) ∧ At B w' p pm g (Mx.noted r xs) ∧ Fr B p g w w' := by
 have hE : Mx.noted r xs = notes_ r xs := rfl
 rw [hE]
 clear hE
 obtain ⟨n, hnx⟩ : ∃ n, n = xs.length := ⟨_, rfl⟩
 rw [← hnx]
 have hn100 : n ≤ 100 := by omega
 replace h := Lib.hid h
 replace hn := Lib.hid hn
 replace hb := Lib.hid hb
 replace hc := Lib.hid hc
 replace hnx := Lib.hid hnx
 replace hx := Lib.hid hx
 go_enter Tryz.func197, Tryz.ntmps197
 go_wp2
 go_loopw [8] (fun i wr => ∃ k : Nat, k ≤ n ∧ i = .int .i64 k ∧ Hid (At B wr p pm g (notes_ r (xs.take k))) ∧ Hid (Fr B p g w wr)) (fun i _ => n - (intOf i).toNat)
 case atStart => exact ⟨0, Nat.zero_le _, rfl, h.out, Fr.refl _ _ _ _⟩
 case round =>
  obtain ⟨k, hk, rfl, hA, hF⟩ := hrel
  by_cases hlt : k < n
  ·have hl2 : k < xs.length := by rw [← hnx.out]; exact hlt
   have he := cell_of_heap (hF.out.keep hb.out h1 h2 (by decide)) (hc.out k hl2)
   have hlen : (notes_ r (xs.take k)).notes.length ≤ 1000 := by
    rw [notes_len, List.length_take]
    have := hn.out; have := hx.out; omega
   have hs := notes_snoc r xs k hl2
   obtain ⟨x, hxx⟩ : ∃ x, x = xs.getD k 0 := ⟨_, rfl⟩
   rw [← hxx] at hs he
   clear hxx
   replace hs := Lib.hid hs
   replace hl2 := Lib.hid hl2
   replace hlen := Lib.hid hlen
   go_wp2_with (go_at_call 105; refine (note_run hA.out _ _ hlen.out).mono ?_; rintro e w1 ⟨rfl, hA1, hF1⟩; rw [← hs.out] at hA1; replace hA1 := Lib.hid hA1; replace hF1 := Lib.hid (hF.out.trans hF1))
   go_roundw
   case rel => exact ⟨k + 1, by omega, by go_num, hA1, hF1⟩
   case measure => simp [intOf]; omega
  ·obtain rfl : k = n := by omega
   have ht : xs.take k = xs := List.take_of_length_le (by rw [← hnx.out]; exact Nat.le_refl _)
   rw [ht] at hA
   clear ht
   go_wp2
   first | go_end0 | ((try simp only [Exit.inBlock, Exit.then]); refine bodyPost_ret (results_none rfl _ _ _) rfl ?_)
   exact ⟨rfl, hA.out, hF.out⟩
theorem mxgive_tells {b : Nat} (hb : w.heap[b]? = some (.cells #[.pointer (some ⟨p, 4, none⟩)] 175 (0, 0))) (h1 : b ≠ p) (h2 : b ≠ g) : Tells B p pm g r true (fun v => v != 0) 198 #[.pointer (some ⟨b, 0, none⟩)] w := by
 refine ⟨⟨_, Tryz.func198, rfl, rfl⟩, fun w1 v hv hf ha => ?_⟩
 have cb := cell_of_heap (j := 0) (hf.keep hb h1 h2 (by decide)) rfl
 replace ha := Lib.hid ha
 replace hf := Lib.hid hf
 replace hb := Lib.hid hb
 replace hv := Lib.hid hv
 show Calls _ _ #[.int .u32 v, .pointer (some ⟨b, 0, none⟩)] w1 fun e w2 => e = .returned (.bool (v != 0)) ∧ At B w2 p pm g (kept true r (v != 0) v) ∧ Fr B p g w1 w2
 cases hz : (v != 0) with
 | true =>
  have hk : kept true r true v = r.setA v := rfl
  rw [hk]
  clear hk
  go_enter Tryz.func198, Tryz.ntmps198
  go_wp2_with ((with_reducible refine gate_store rfl ?_); refine store_A rfl rfl rfl rfl rfl ha.out ?_; intro w2 ha2 hf2; replace ha2 := Lib.hid ha2; replace hf2 := Lib.hid hf2)
  go_ret
  exact ⟨by first | rfl | (simp only [hz]; done) | (rw [hz]; rfl), ha2.out, hf2.out⟩
 | false =>
  have hk : kept true r false v = r := rfl
  rw [hk]
  clear hk
  go_enter Tryz.func198, Tryz.ntmps198
  go_wp2
  go_ret
  exact ⟨by first | rfl | (simp only [hz]; done) | (rw [hz]; rfl), ha.out, Fr.refl _ _ _ _⟩
theorem Car.noted (h : Car B w0 w p pm g r m) (hx : xs.length ≤ 5) (ha : At B w1 p pm g (Mx.noted r xs)) (hf : Fr B p g w w1) : Car B w0 w1 p pm g (Mx.noted r xs) (m + 5) :=
 h.to ha hf (ok_notes h.ok xs) (by rw [show Mx.noted r xs = notes_ r xs from rfl, notes_len]; have := h.few; omega)
set_option maxHeartbeats 4000000 in
theorem mxe_0 (h : At B w p pm g r) (hO : Ok r) (hn : r.notes = []) (hln : r.f.line = 0) (tail cls : Int) : Calls Tryz.prog 159 #[.pointer (some ⟨p, 0, none⟩), .int .i64 tail, .int .i64 cls] w fun e w' => e = .returned (.bool false) ∧ At B w' p pm g ((Mx.enter r tail cls).1) ∧ Fr B p g w w' := by
 obtain ⟨hc, c4, c5, c6, c7⟩ := start h hO hn rfl hln
 replace h := Lib.hid h
 replace hO := Lib.hid hO
 replace hn := Lib.hid hn
 replace hln := Lib.hid hln
 go_enter Tryz.func159, Tryz.ntmps159
 go_upto_region 6 with (fail)
 refine start_ (n := 11) (S := fun w' => w'.cell? ⟨p, 1, none⟩ = some (.int .i64 r.n) ∧ w'.cell? ⟨p, 3, none⟩ = some (.int .i64 r.task)) (ds := [10]) #[false, false, false, false, false, false, false, false, false, false, false] (by kernel_rfl) rfl rfl ⟨hc.out.drew.c1, hc.out.drew.c3⟩ (fun hHeld => ?_)
 refine pu_ 0 22 (mk 11 1) rfl rfl ?_
 refine pu_ 1 23 (mk 11 3) rfl rfl ?_
 refine pu_ 2 24 (mk 11 7) rfl rfl ?_
 refine pu_ 3 25 (mk 11 15) rfl rfl ?_
 refine pu_ 5 27 (mk 11 47) rfl rfl ?_
 refine pu_ 6 28 (mk 11 111) rfl rfl ?_
 refine pu_ 7 29 (mk 11 239) rfl rfl ?_
 refine tk2_ 4 26 (mk 11 255) rfl rfl hHeld ?_
 refine tk2_ 8 30 (mk 11 511) rfl rfl hHeld ?_
 refine one_ (i := 9) (N := some 31) (mk 11 1023) rfl rfl (by kernel_rfl) (by decide) (fun K hK => ?_)
 refine goes_ Tryz.func191 (by kernel_rfl) rfl #[.agg #[.int .i64 r.n], .int .i64 r.task] (by rfl) rfl rfl (by simp only [List.map_toArray, List.map_cons, List.map_nil]; rfl) ?_
 with_reducible refine (pnext_walk r.n r.task _).mono ?_
 rintro e w1 ⟨rfl, hb1⟩
 refine ⟨_, rfl, ?_⟩
 replace hc := Lib.hid (hc.out.drew.below hb1)
 clear hb1
 refine hK.out _ _ ⟨hc.out.c1, hc.out.c3⟩ (fun hHeld => ?_)
 clear hK K
 refine nm_ ?_
 refine last_ (i := 10) (N := some 32) (mk 11 2047) rfl rfl (by kernel_rfl) (by decide) (fun K hK => ?_)
 refine goes_ Tryz.func154 (by kernel_rfl) rfl #[.pointer (some ⟨p, 0, none⟩), .int .i64 (pnext r.n r.task), .int .u32 0] (by rfl) rfl rfl (by simp only [List.map_toArray, List.map_cons, List.map_nil]; rfl) ?_
 exact e79
set_option maxHeartbeats 4000000 in
theorem mxe_1 (h : At B w p pm g r) (hO : Ok r) (hn : r.notes = []) (hln : r.f.line = 1) (tail cls : Int) : Calls Tryz.prog 159 #[.pointer (some ⟨p, 0, none⟩), .int .i64 tail, .int .i64 cls] w fun e w' => e = .returned (.bool false) ∧ At B w' p pm g ((Mx.enter r tail cls).1) ∧ Fr B p g w w' := by
 obtain ⟨hc, c4, c5, c6, c7⟩ := start h hO hn rfl hln
 replace h := Lib.hid h
 replace hO := Lib.hid hO
 replace hn := Lib.hid hn
 replace hln := Lib.hid hln
 go_enter Tryz.func159, Tryz.ntmps159
 go_upto_region 9 with (fail)
 refine start_ (n := 11) (S := fun w' => w'.cell? ⟨p, 1, none⟩ = some (.int .i64 r.n) ∧ w'.cell? ⟨p, 3, none⟩ = some (.int .i64 r.task)) (ds := [10]) #[false, false, false, false, false, false, false, false, false, false, false] (by kernel_rfl) rfl rfl ⟨hc.out.drew.c1, hc.out.drew.c3⟩ (fun hHeld => ?_)
 refine pu_ 0 37 (mk 11 1) rfl rfl ?_
 refine pu_ 1 38 (mk 11 3) rfl rfl ?_
 refine pu_ 2 39 (mk 11 7) rfl rfl ?_
 refine pu_ 3 40 (mk 11 15) rfl rfl ?_
 refine pu_ 5 42 (mk 11 47) rfl rfl ?_
 refine pu_ 6 43 (mk 11 111) rfl rfl ?_
 refine pu_ 7 44 (mk 11 239) rfl rfl ?_
 refine tk2_ 4 41 (mk 11 255) rfl rfl hHeld ?_
 refine tk2_ 8 45 (mk 11 511) rfl rfl hHeld ?_
 refine one_ (i := 9) (N := some 46) (mk 11 1023) rfl rfl (by kernel_rfl) (by decide) (fun K hK => ?_)
 refine goes_ Tryz.func192 (by kernel_rfl) rfl #[.agg #[.int .i64 r.n], .int .i64 r.task] (by rfl) rfl rfl (by simp only [List.map_toArray, List.map_cons, List.map_nil]; rfl) ?_
 with_reducible refine (pblocked_walk r.n r.task _).mono ?_
 rintro e w1 ⟨rfl, hb1⟩
 refine ⟨_, rfl, ?_⟩
 replace hc := Lib.hid (hc.out.drew.below hb1)
 clear hb1
 refine hK.out _ _ ⟨hc.out.c1, hc.out.c3⟩ (fun hHeld => ?_)
 clear hK K
 refine nm_ ?_
 refine last_ (i := 10) (N := some 47) (mk 11 2047) rfl rfl (by kernel_rfl) (by decide) (fun K hK => ?_)
 refine goes_ Tryz.func154 (by kernel_rfl) rfl #[.pointer (some ⟨p, 0, none⟩), .int .i64 (pblocked r.n r.task), .int .u32 1] (by rfl) rfl rfl (by simp only [List.map_toArray, List.map_cons, List.map_nil]; rfl) ?_
 exact e79
set_option maxHeartbeats 4000000 in
theorem mxe_2_t (h : At B w p pm g r) (hO : Ok r) (hn : r.notes = []) (hln : r.f.line = 2) (tail cls : Int) (hz : ((r.swp tail (Mx.own r)).old == 0) = true) : Calls Tryz.prog 159 #[.pointer (some ⟨p, 0, none⟩), .int .i64 tail, .int .i64 cls] w fun e w' => e = .returned (.bool true) ∧ At B w' p pm g ((Mx.enter r tail cls).1) ∧ Fr B p g w w' := by
 obtain ⟨hc, c4, c5, c6, c7⟩ := start h hO hn rfl hln
 replace h := Lib.hid h
 replace hO := Lib.hid hO
 replace hn := Lib.hid hn
 replace hln := Lib.hid hln
 go_enter Tryz.func159, Tryz.ntmps159
 go_wp2_with (first
  | (go_at_call 193; (try clear c6); (try clear c7); go_must (refine swp_step hc _ _ (w32_own _) ?_; intro w1 f1 hc c6 c7; clear f1))
  | ((with_reducible refine gate_store rfl ?_); refine stA_step hc rfl rfl rfl rfl rfl rfl ?_; clear c6 c7; intro w1 f1 hc c6 c7; clear f1)
  | (go_at_call 105; (try clear c6); (try clear c7); go_must (refine note_step hc _ _ (by decide) ?_; intro w1 f1 hc c6 c7; replace c6 : w1.cell? ⟨p, 6, none⟩ = some (.int .u32 (r.swp tail (Mx.own r)).old) := c6; clear f1))
  | (go_at_call 102; (try clear c6); (try clear c7); go_must (refine go_step hc _ ?_; intro w1 f1 hc c6 c7; clear f1))
  | (go_at_call 194; go_must (refine (mxown_walk hc.out.at_).mono ?_; rintro e w1 ⟨rfl, rfl⟩)))
 go_ret
 refine ⟨rfl, ?_, hc.out.fr⟩
 unfold Mx.enter
 simp only [hln.out]
 exact e80
set_option maxHeartbeats 4000000 in
theorem mxe_2_f (h : At B w p pm g r) (hO : Ok r) (hn : r.notes = []) (hln : r.f.line = 2) (tail cls : Int) (hz : ((r.swp tail (Mx.own r)).old == 0) = false) : Calls Tryz.prog 159 #[.pointer (some ⟨p, 0, none⟩), .int .i64 tail, .int .i64 cls] w fun e w' => e = .returned (.bool false) ∧ At B w' p pm g ((Mx.enter r tail cls).1) ∧ Fr B p g w w' := by
 obtain ⟨hc, c4, c5, c6, c7⟩ := start h hO hn rfl hln
 replace h := Lib.hid h
 replace hO := Lib.hid hO
 replace hn := Lib.hid hn
 replace hln := Lib.hid hln
 go_enter Tryz.func159, Tryz.ntmps159
 go_wp2_with (first
  | (go_at_call 193; (try clear c6); (try clear c7); go_must (refine swp_step hc _ _ (w32_own _) ?_; intro w1 f1 hc c6 c7; clear f1))
  | ((with_reducible refine gate_store rfl ?_); refine stA_step hc rfl rfl rfl rfl rfl rfl ?_; clear c6 c7; intro w1 f1 hc c6 c7; clear f1)
  | (go_at_call 105; (try clear c6); (try clear c7); go_must (refine note_step hc _ _ (by decide) ?_; intro w1 f1 hc c6 c7; replace c6 : w1.cell? ⟨p, 6, none⟩ = some (.int .u32 (r.swp tail (Mx.own r)).old) := c6; clear f1))
  | (go_at_call 102; (try clear c6); (try clear c7); go_must (refine go_step hc _ ?_; intro w1 f1 hc c6 c7; clear f1))
  | (go_at_call 194; go_must (refine (mxown_walk hc.out.at_).mono ?_; rintro e w1 ⟨rfl, rfl⟩)))
 go_ret
 refine ⟨rfl, ?_, hc.out.fr⟩
 unfold Mx.enter
 simp only [hln.out]
 exact e81
set_option maxHeartbeats 4000000 in
theorem mxe_3 (h : At B w p pm g r) (hO : Ok r) (hn : r.notes = []) (hln : r.f.line = 3) (tail cls : Int) : Calls Tryz.prog 159 #[.pointer (some ⟨p, 0, none⟩), .int .i64 tail, .int .i64 cls] w fun e w' => e = .returned (.bool false) ∧ At B w' p pm g ((Mx.enter r tail cls).1) ∧ Fr B p g w w' := by
 obtain ⟨hc, c4, c5, c6, c7⟩ := start h hO hn rfl hln
 replace h := Lib.hid h
 replace hO := Lib.hid hO
 replace hn := Lib.hid hn
 replace hln := Lib.hid hln
 go_enter Tryz.func159, Tryz.ntmps159
 go_upto_region 18 with (fail)
 refine start_ (n := 11) (S := fun w' => w'.cell? ⟨p, 1, none⟩ = some (.int .i64 r.n) ∧ w'.cell? ⟨p, 6, none⟩ = some (.int .u32 r.f.a)) (ds := []) #[false, false, false, false, false, false, false, false, false, false, false] (by kernel_rfl) rfl rfl ⟨hc.out.drew.c1, hc.out.drew.c6⟩ (fun hHeld => ?_)
 refine pu_ 0 72 (mk 11 1) rfl rfl ?_
 refine pu_ 1 73 (mk 11 3) rfl rfl ?_
 refine pu_ 2 74 (mk 11 7) rfl rfl ?_
 refine pu_ 4 76 (mk 11 23) rfl rfl ?_
 refine pu_ 5 77 (mk 11 55) rfl rfl ?_
 refine pu_ 6 78 (mk 11 119) rfl rfl ?_
 refine tk2_ 3 75 (mk 11 127) rfl rfl hHeld ?_
 refine tk2_ 7 79 (mk 11 255) rfl rfl hHeld ?_
 refine one_ (i := 8) (N := some 80) (mk 11 511) rfl rfl (by kernel_rfl) (by decide) (fun K hK => ?_)
 refine goes_ Tryz.func195 (by kernel_rfl) rfl #[.int .u32 r.f.a] (by rfl) rfl rfl (by simp only [List.map_toArray, List.map_cons, List.map_nil]; rfl) ?_
 with_reducible refine (mxother_walk r.f.a hc.out.ok.a _).mono ?_
 rintro e w1 ⟨rfl, rfl⟩
 refine ⟨_, rfl, ?_⟩
 refine hK.out _ _ ⟨hc.out.drew.c1, hc.out.drew.c6⟩ (fun hHeld => ?_)
 clear hK K
 refine nm_ ?_
 refine one_ (i := 9) (N := some 81) (mk 11 1023) rfl rfl (by kernel_rfl) (by decide) (fun K hK => ?_)
 refine goes_ Tryz.func191 (by kernel_rfl) rfl #[.agg #[.int .i64 r.n], .int .i64 (r.f.a - 1)] (by rfl) rfl rfl (by simp only [List.map_toArray, List.map_cons, List.map_nil]; rfl) ?_
 with_reducible refine (pnext_walk r.n (r.f.a - 1) _).mono ?_
 rintro e w1 ⟨rfl, hb1⟩
 refine ⟨_, rfl, ?_⟩
 replace hc := Lib.hid (hc.out.drew.below hb1)
 clear hb1
 refine hK.out _ _ ⟨hc.out.c1, hc.out.c6⟩ (fun hHeld => ?_)
 clear hK K
 refine nm_ ?_
 refine pu_ 10 8 (mk 11 2047) rfl rfl ?_
 refine done_ (by kernel_rfl) ?_
 go_wp2_with (first
  | (go_at_call 106; (try clear c6); (try clear c7); go_must (refine wake_step hc _ ?_; intro w1 f1 hc c6 c7; clear f1))
  | (go_at_call 102; (try clear c6); (try clear c7); go_must (refine go_step hc _ ?_; intro w1 f1 hc c6 c7; clear f1))
  | (go_at_call 194; go_must (refine (mxown_walk hc.out.at_).mono ?_; rintro e w1 ⟨rfl, rfl⟩))
  | (go_at_call 154; (try clear c6); (try clear c7); go_must (refine store_step hc _ _ (w32_own _) ?_; intro w1 f1 hc c6 c7; clear f1)))
 exact e82
set_option maxHeartbeats 4000000 in
theorem mxe_4_t_t (h : At B w p pm g r) (hO : Ok r) (hn : r.notes = []) (hln : r.f.line = 4) (tail cls : Int) (hs : (r.waited (pblocked r.n r.task) (fun v => v == 0)).seen = true) (hd : (r.waited (pblocked r.n r.task) (fun v => v == 0)).done = true) : Calls Tryz.prog 159 #[.pointer (some ⟨p, 0, none⟩), .int .i64 tail, .int .i64 cls] w fun e w' => e = .returned (.bool true) ∧ At B w' p pm g ((Mx.enter r tail cls).1) ∧ Fr B p g w w' := e83
set_option maxHeartbeats 4000000 in
theorem mxe_4_t_f (h : At B w p pm g r) (hO : Ok r) (hn : r.notes = []) (hln : r.f.line = 4) (tail cls : Int) (hs : (r.waited (pblocked r.n r.task) (fun v => v == 0)).seen = true) (hd : (r.waited (pblocked r.n r.task) (fun v => v == 0)).done = false) : Calls Tryz.prog 159 #[.pointer (some ⟨p, 0, none⟩), .int .i64 tail, .int .i64 cls] w fun e w' => e = .returned (.bool false) ∧ At B w' p pm g ((Mx.enter r tail cls).1) ∧ Fr B p g w w' := e83
set_option maxHeartbeats 4000000 in
theorem mxe_4_f_t (h : At B w p pm g r) (hO : Ok r) (hn : r.notes = []) (hln : r.f.line = 4) (tail cls : Int) (hs : (r.waited (pblocked r.n r.task) (fun v => v == 0)).seen = false) (hd : (r.waited (pblocked r.n r.task) (fun v => v == 0)).done = true) : Calls Tryz.prog 159 #[.pointer (some ⟨p, 0, none⟩), .int .i64 tail, .int .i64 cls] w fun e w' => e = .returned (.bool true) ∧ At B w' p pm g ((Mx.enter r tail cls).1) ∧ Fr B p g w w' := e83
set_option maxHeartbeats 4000000 in
theorem mxe_4_f_f (h : At B w p pm g r) (hO : Ok r) (hn : r.notes = []) (hln : r.f.line = 4) (tail cls : Int) (hs : (r.waited (pblocked r.n r.task) (fun v => v == 0)).seen = false) (hd : (r.waited (pblocked r.n r.task) (fun v => v == 0)).done = false) : Calls Tryz.prog 159 #[.pointer (some ⟨p, 0, none⟩), .int .i64 tail, .int .i64 cls] w fun e w' => e = .returned (.bool false) ∧ At B w' p pm g ((Mx.enter r tail cls).1) ∧ Fr B p g w w' := e83
set_option maxHeartbeats 4000000 in
theorem mxt_0 (h : At B w p pm g r) (hO : Ok r) (hn : r.notes = []) (hln : r.f.line = a) (ha : 0 ≤ a ∧ a ≤ 20) : Calls Tryz.prog 161 #[.pointer (some ⟨p, 0, none⟩), .int .i64 tail, .int .i64 a] w fun e w' => e = .returned (.tuple #[.bool false, .bool false]) ∧ At B w' p pm g ((Mx.try_ r tail a).1) ∧ Fr B p g w w' := by
 obtain ⟨hc, c4, c5, c6, c7⟩ := start h hO hn rfl hln
 have e0 : (wrap64 (a - a) == 0) = true := by rw [show wrap64 (a - a) = 0 by unfold wrap64; omega]; decide
 have hg : wrap64 (a + 1) = a + 1 := by unfold wrap64; omega
 replace ha := Lib.hid ha
 replace hg := Lib.hid hg
 replace h := Lib.hid h
 replace hO := Lib.hid hO
 replace hn := Lib.hid hn
 replace hln := Lib.hid hln
 go_enter Tryz.func161, Tryz.ntmps161
 go_upto_region 5 with (fail)
 refine start_ (n := 11) (S := fun w' => w'.cell? ⟨p, 1, none⟩ = some (.int .i64 r.n) ∧ w'.cell? ⟨p, 3, none⟩ = some (.int .i64 r.task)) (ds := [10]) #[false, false, false, false, false, false, false, false, false, false, false] (by kernel_rfl) rfl rfl ⟨hc.out.drew.c1, hc.out.drew.c3⟩ (fun hHeld => ?_)
 refine pu_ 0 19 (mk 11 1) rfl rfl ?_
 refine pu_ 1 20 (mk 11 3) rfl rfl ?_
 refine pu_ 2 21 (mk 11 7) rfl rfl ?_
 refine pu_ 3 22 (mk 11 15) rfl rfl ?_
 refine pu_ 5 24 (mk 11 47) rfl rfl ?_
 refine pu_ 6 25 (mk 11 111) rfl rfl ?_
 refine pu_ 7 26 (mk 11 239) rfl rfl ?_
 refine tk2_ 4 23 (mk 11 255) rfl rfl hHeld ?_
 refine tk2_ 8 27 (mk 11 511) rfl rfl hHeld ?_
 refine one_ (i := 9) (N := some 28) (mk 11 1023) rfl rfl (by kernel_rfl) (by decide) (fun K hK => ?_)
 refine goes_ Tryz.func191 (by kernel_rfl) rfl #[.agg #[.int .i64 r.n], .int .i64 r.task] (by rfl) rfl rfl (by simp only [List.map_toArray, List.map_cons, List.map_nil]; rfl) ?_
 with_reducible refine (pnext_walk r.n r.task _).mono ?_
 rintro e w1 ⟨rfl, hb1⟩
 refine ⟨_, rfl, ?_⟩
 replace hc := Lib.hid (hc.out.drew.below hb1)
 clear hb1
 refine hK.out _ _ ⟨hc.out.c1, hc.out.c3⟩ (fun hHeld => ?_)
 clear hK K
 refine nm_ ?_
 refine last_ (i := 10) (N := some 29) (mk 11 2047) rfl rfl (by kernel_rfl) (by decide) (fun K hK => ?_)
 refine goes_ Tryz.func154 (by kernel_rfl) rfl #[.pointer (some ⟨p, 0, none⟩), .int .i64 (pnext r.n r.task), .int .u32 0] (by rfl) rfl rfl (by simp only [List.map_toArray, List.map_cons, List.map_nil]; rfl) ?_
 refine store_step hc _ _ (by decide) ?_
 intro w1 f1 hc d6 d7
 refine ⟨_, rfl, ?_⟩
 refine hK.out _ _ ?_
 clear hK K
 refine nm_ ?_
 refine done_ (by kernel_rfl) ?_
 clear c6 c7
 have c6 := d6
 have c7 := d7
 go_wp2_with (first
  | (go_at_call 102; (try clear c6); (try clear c7); go_must (refine go_step hc _ ?_; intro w1 f1 hc c6 c7; clear f1)))
 (try simp only [Exit.inBlock, Exit.then])
 refine bodyPost_ret (results_list (vs := [.bool false, .bool false]) rfl (by simp) (.tmp (.tmp .nil))) rfl ?_
 refine ⟨rfl, ?_, hc.out.fr⟩
 have s0 : r.f.line - a = 0 := by rw [hln.out]; omega
 rw [hg.out] at hc
 unfold Mx.try_
 simp only [s0]
 exact hc.out.at_
set_option maxHeartbeats 4000000 in
theorem mxt_1_t (h : At B w p pm g r) (hO : Ok r) (hn : r.notes = []) (hln : r.f.line = a + 1) (ha : 0 ≤ a ∧ a ≤ 20) (hk : (r.cas tail 0 (Mx.own r)).hitCas 0 = true) : Calls Tryz.prog 161 #[.pointer (some ⟨p, 0, none⟩), .int .i64 tail, .int .i64 a] w fun e w' => e = .returned (.tuple #[.bool true, .bool true]) ∧ At B w' p pm g ((Mx.try_ r tail a).1) ∧ Fr B p g w w' := by
 obtain ⟨hc, c4, c5, c6, c7⟩ := start h hO hn rfl hln
 have e0 : (wrap64 (a + 1 - a) == 0) = false := by rw [show wrap64 (a + 1 - a) = 1 by unfold wrap64; omega]; decide
 have e1 : (wrap64 (a + 1 - a) == 1) = true := by rw [show wrap64 (a + 1 - a) = 1 by unfold wrap64; omega]; decide
 have hg : wrap64 (a + 1) = a + 1 := by unfold wrap64; omega
 replace ha := Lib.hid ha
 replace hg := Lib.hid hg
 replace h := Lib.hid h
 replace hO := Lib.hid hO
 replace hn := Lib.hid hn
 replace hln := Lib.hid hln
 go_enter Tryz.func161, Tryz.ntmps161
 go_wp2_with (first
  | (go_at_call 194; go_must (refine (mxown_walk hc.out.at_).mono ?_; rintro e w1 ⟨rfl, rfl⟩))
  | (go_at_call 128; (try clear c6); (try clear c7); go_must (refine cas_step hc _ _ _ true hk (by decide) (w32_own _) ?_; intro w1 f1 hc c6 c7; clear f1)))
 (try simp only [Exit.inBlock, Exit.then])
 refine bodyPost_ret (results_list (vs := [.bool true, .bool true]) rfl (by simp) (.tmp (.tmp .nil))) rfl ?_
 exact e84
set_option maxHeartbeats 4000000 in
theorem mxt_1_f (h : At B w p pm g r) (hO : Ok r) (hn : r.notes = []) (hln : r.f.line = a + 1) (ha : 0 ≤ a ∧ a ≤ 20) (hk : (r.cas tail 0 (Mx.own r)).hitCas 0 = false) : Calls Tryz.prog 161 #[.pointer (some ⟨p, 0, none⟩), .int .i64 tail, .int .i64 a] w fun e w' => e = .returned (.tuple #[.bool true, .bool false]) ∧ At B w' p pm g ((Mx.try_ r tail a).1) ∧ Fr B p g w w' := by
 obtain ⟨hc, c4, c5, c6, c7⟩ := start h hO hn rfl hln
 have e0 : (wrap64 (a + 1 - a) == 0) = false := by rw [show wrap64 (a + 1 - a) = 1 by unfold wrap64; omega]; decide
 have e1 : (wrap64 (a + 1 - a) == 1) = true := by rw [show wrap64 (a + 1 - a) = 1 by unfold wrap64; omega]; decide
 have hg : wrap64 (a + 1) = a + 1 := by unfold wrap64; omega
 replace ha := Lib.hid ha
 replace hg := Lib.hid hg
 replace h := Lib.hid h
 replace hO := Lib.hid hO
 replace hn := Lib.hid hn
 replace hln := Lib.hid hln
 go_enter Tryz.func161, Tryz.ntmps161
 go_wp2_with (first
  | (go_at_call 194; go_must (refine (mxown_walk hc.out.at_).mono ?_; rintro e w1 ⟨rfl, rfl⟩))
  | (go_at_call 128; (try clear c6); (try clear c7); go_must (refine cas_step hc _ _ _ false hk (by decide) (w32_own _) ?_; intro w1 f1 hc c6 c7; clear f1)))
 (try simp only [Exit.inBlock, Exit.then])
 refine bodyPost_ret (results_list (vs := [.bool true, .bool false]) rfl (by simp) (.tmp (.tmp .nil))) rfl ?_
 exact e84
set_option maxHeartbeats 4000000 in
theorem mxg_0_t (h : At B w p pm g r) (hO : Ok r) (hn : r.notes = []) (hln : r.f.line = a) (ha : 0 ≤ a ∧ a ≤ 20) (hxl : xs.length ≤ 5) (hsb : w.heap[sb]? = some (.cells cs 3 (0, 0))) (hsc : ∀ i, i < xs.length → cs[i]? = some (.int .i64 (xs.getD i 0))) (hs1 : sb ≠ p) (hs2 : sb ≠ g) (hz : ((r.load (pnext r.n r.task)).old != 0) = true) : Calls Tryz.prog 160 #[.pointer (some ⟨p, 0, none⟩), .int .i64 tail, .int .i64 a, .slice (some ⟨sb, 0, none⟩) xs.length cap] w fun e w' => e = .returned (.bool false) ∧ At B w' p pm g ((Mx.give r tail a xs).1) ∧ Fr B p g w w' := by
 obtain ⟨b, hbb⟩ : ∃ b, b = w.heap.size := ⟨_, rfl⟩
 obtain ⟨W, hW⟩ : ∃ W, W = w.alloc (.cells #[.pointer (some ⟨p, 4, none⟩)] 175) := ⟨_, rfl⟩
 obtain ⟨hc, c4, c5, c6, c7, hb, nbp, nbg, v6, v7⟩ := startbox h hO hn rfl hln hW hbb
 have cb := cell_of_heap (j := 0) hb.out rfl
 replace hsb : W.heap[sb]? = some (.cells cs 3 (0, 0)) := by rw [hW]; exact blk_alloc hsb _
 have e0 : (wrap64 (a - a) == 0) = true := by rw [show wrap64 (a - a) = 0 by unfold wrap64; omega]; decide
 have g1 : wrap64 (a + 1) = a + 1 := by unfold wrap64; omega
 replace g1 := Lib.hid g1
 have g2 : wrap64 (a + 2) = a + 2 := by unfold wrap64; omega
 replace g2 := Lib.hid g2
 have g3 : wrap64 (a + 3) = a + 3 := by unfold wrap64; omega
 replace g3 := Lib.hid g3
 replace ha := Lib.hid ha
 replace hxl := Lib.hid hxl
 replace hsb := Lib.hid hsb
 replace hsc := Lib.hid hsc
 replace hs1 := Lib.hid hs1
 replace hs2 := Lib.hid hs2
 replace h := Lib.hid h
 replace hO := Lib.hid hO
 replace hn := Lib.hid hn
 replace hln := Lib.hid hln
 go_enter Tryz.func160, Tryz.ntmps160
 go_upto_region 4 with (fail)
 rw [← hW, ← hbb]
 clear v6 v7
 replace hW := Lib.hid hW
 replace hbb := Lib.hid hbb
 have c1 := hc.out.c1
 have c3 := hc.out.c3
 go_upto_region 4 with (fail)
 go_still_tail 8, (by kernel_rfl)
 change wpList _ _ _ _ _ W.drew
 have hcq := hc.out.drew
 have hbq := blk_drew hb.out
 have hsbq := blk_drew hsb.out
 clear c6 c7 hc cb c1 c3 c4 c5
 generalize W.drew = W8 at hcq hbq hsbq ⊢
 have hc := Lib.hid hcq
 replace hb := Lib.hid hbq
 replace hsb := Lib.hid hsbq
 clear hcq hbq hsbq
 have c6 := hc.out.c6
 have c7 := hc.out.c7
 have cb := cell_of_heap (j := 0) hb.out rfl
 go_upto_region 7 with (go_at_call 191; (try clear c6); (try clear c7); (try clear cb); go_must (refine (pnext_walk r.n r.task _).mono ?_; rintro e w1 ⟨rfl, hb1⟩; replace hb := Lib.hid (heap_below hb1 hb.out); replace hsb := Lib.hid (heap_below hb1 hsb.out); replace hc := Lib.hid (hc.out.below hb1); clear hb1; have c5 : w1.cell? ⟨p, 5, none⟩ = some (.int .i64 (a)) := hc.out.at_.cell 5 (fun _ => by rw [← hln.out]; rfl); have c6 := hc.out.c6; have c7 := hc.out.c7; have cb := cell_of_heap (j := 0) hb.out rfl))
 refine start_ (n := 7) (S := fun w' => w'.cell? ⟨b, 0, none⟩ = some (.pointer (some ⟨p, 4, none⟩))) (ds := [6]) #[false, false, false, false, false, false, false] (by kernel_rfl) rfl rfl (cell_of_heap hb.out rfl) (fun hHeld => ?_)
 refine pu_ 1 37 (mk 7 2) rfl rfl ?_
 refine pu_ 2 38 (mk 7 6) rfl rfl ?_
 refine take_ (i := 0) (N := some 36) (v := ?_) (a' := ?_) (mk 7 7) rfl rfl (by kernel_rfl) (fun _ _ _ h => h) (Or.inl ⟨by rfl, ?_⟩) hHeld ?_ ?_
 rotate_left
 ·intro w' s0
  go_simp
  with_reducible rfl
 rotate_left
 ·exact e4
 refine one_ (i := 3) (N := some 39) (mk 7 15) rfl rfl (by kernel_rfl) (by decide) (fun K hK => ?_)
 refine goes_ Tryz.func112 (by kernel_rfl) rfl #[.pointer (some ⟨p, 0, none⟩), .int .i64 (pnext r.n r.task)] (by rfl) rfl rfl (by simp only [List.map_toArray, List.map_cons, List.map_nil]; rfl) ?_
 refine load_step (Lib.hid hc.out.drew) _ ?_
 intro w2 f2 hc d6 d7
 refine ⟨_, rfl, ?_⟩
 replace hb := Lib.hid (f2.keep (blk_drew hb.out) nbp nbg (by decide))
 have fz := hc.out.at_.frozen 6
 refine hK.out _ _ (cell_of_heap hb.out rfl) (fun hHeld => ?_)
 clear hK K
 refine nm_ ?_
 refine pu_ 4 40 (mk 7 31) rfl rfl ?_
 refine pu_ 5 41 (mk 7 63) rfl rfl ?_
 refine last_ (i := 6) (N := none) (mk 7 127) rfl rfl (by kernel_rfl) (by decide) (fun K hK => ?_)
 refine skip_ (w1 := ?_) (by rfl) rfl ?_ ?_
 rotate_left
 ·go_simp
  rfl
 refine hK.out _ _ ?_
 clear hK K
 refine done_ (by kernel_rfl) ?_
 replace hb := Lib.hid (((Fr.refl B p g w2).set ⟨p, 6, none⟩ (.inl rfl) (.int .u32 (r.load (pnext r.n r.task)).old)).keep hb.out nbp nbg (by decide))
 replace hc := Lib.hid (hc.out.setA' (r.load (pnext r.n r.task)).old rfl)
 generalize w2.setCell ⟨p, 6, none⟩ (.int .u32 (r.load (pnext r.n r.task)).old) = w3 at hb hc ⊢
 clear c5 c6 c7 cb d6 d7 fz
 have c6 := hc.out.c6
 replace c6 : _ = some (Value.int .u32 (r.load (pnext r.n r.task)).old) := c6
 have cb := cell_of_heap (j := 0) hb.out rfl
 go_wp2_with (first
  | (go_at_call 102; (try clear c6); (try clear c7); go_must (refine go_step hc _ ?_; intro w1 f1 hc c6 c7; clear f1)))
 go_ret
 refine ⟨rfl, ?_, hc.out.fr⟩
 have s0 : r.f.line - a = 0 := by rw [hln.out]; omega
 rw [g3.out] at hc
 unfold Mx.give
 simp only [s0]
 simp only [Int.reduceEq, and_true, true_and, and_self, and_false, false_and, if_true, if_false, or_false, false_or, or_true, true_or]
 rw [if_pos (by exact (bne_iff_ne.mp hz))]
 exact hc.out.at_
set_option maxHeartbeats 4000000 in
theorem mxg_0_f (h : At B w p pm g r) (hO : Ok r) (hn : r.notes = []) (hln : r.f.line = a) (ha : 0 ≤ a ∧ a ≤ 20) (hxl : xs.length ≤ 5) (hsb : w.heap[sb]? = some (.cells cs 3 (0, 0))) (hsc : ∀ i, i < xs.length → cs[i]? = some (.int .i64 (xs.getD i 0))) (hs1 : sb ≠ p) (hs2 : sb ≠ g) (hz : ((r.load (pnext r.n r.task)).old != 0) = false) : Calls Tryz.prog 160 #[.pointer (some ⟨p, 0, none⟩), .int .i64 tail, .int .i64 a, .slice (some ⟨sb, 0, none⟩) xs.length cap] w fun e w' => e = .returned (.bool false) ∧ At B w' p pm g ((Mx.give r tail a xs).1) ∧ Fr B p g w w' := by
 obtain ⟨b, hbb⟩ : ∃ b, b = w.heap.size := ⟨_, rfl⟩
 obtain ⟨W, hW⟩ : ∃ W, W = w.alloc (.cells #[.pointer (some ⟨p, 4, none⟩)] 175) := ⟨_, rfl⟩
 obtain ⟨hc, c4, c5, c6, c7, hb, nbp, nbg, v6, v7⟩ := startbox h hO hn rfl hln hW hbb
 have cb := cell_of_heap (j := 0) hb.out rfl
 replace hsb : W.heap[sb]? = some (.cells cs 3 (0, 0)) := by rw [hW]; exact blk_alloc hsb _
 have e0 : (wrap64 (a - a) == 0) = true := by rw [show wrap64 (a - a) = 0 by unfold wrap64; omega]; decide
 have g1 : wrap64 (a + 1) = a + 1 := by unfold wrap64; omega
 replace g1 := Lib.hid g1
 have g2 : wrap64 (a + 2) = a + 2 := by unfold wrap64; omega
 replace g2 := Lib.hid g2
 have g3 : wrap64 (a + 3) = a + 3 := by unfold wrap64; omega
 replace g3 := Lib.hid g3
 replace ha := Lib.hid ha
 replace hxl := Lib.hid hxl
 replace hsb := Lib.hid hsb
 replace hsc := Lib.hid hsc
 replace hs1 := Lib.hid hs1
 replace hs2 := Lib.hid hs2
 replace h := Lib.hid h
 replace hO := Lib.hid hO
 replace hn := Lib.hid hn
 replace hln := Lib.hid hln
 go_enter Tryz.func160, Tryz.ntmps160
 go_upto_region 4 with (fail)
 rw [← hW, ← hbb]
 clear v6 v7
 replace hW := Lib.hid hW
 replace hbb := Lib.hid hbb
 have c1 := hc.out.c1
 have c3 := hc.out.c3
 go_upto_region 4 with (fail)
 go_still_tail 8, (by kernel_rfl)
 change wpList _ _ _ _ _ W.drew
 have hcq := hc.out.drew
 have hbq := blk_drew hb.out
 have hsbq := blk_drew hsb.out
 clear c6 c7 hc cb c1 c3 c4 c5
 generalize W.drew = W8 at hcq hbq hsbq ⊢
 have hc := Lib.hid hcq
 replace hb := Lib.hid hbq
 replace hsb := Lib.hid hsbq
 clear hcq hbq hsbq
 have c6 := hc.out.c6
 have c7 := hc.out.c7
 have cb := cell_of_heap (j := 0) hb.out rfl
 go_upto_region 7 with (go_at_call 191; (try clear c6); (try clear c7); (try clear cb); go_must (refine (pnext_walk r.n r.task _).mono ?_; rintro e w1 ⟨rfl, hb1⟩; replace hb := Lib.hid (heap_below hb1 hb.out); replace hsb := Lib.hid (heap_below hb1 hsb.out); replace hc := Lib.hid (hc.out.below hb1); clear hb1; have c5 : w1.cell? ⟨p, 5, none⟩ = some (.int .i64 (a)) := hc.out.at_.cell 5 (fun _ => by rw [← hln.out]; rfl); have c6 := hc.out.c6; have c7 := hc.out.c7; have cb := cell_of_heap (j := 0) hb.out rfl))
 refine start_ (n := 7) (S := fun w' => w'.cell? ⟨b, 0, none⟩ = some (.pointer (some ⟨p, 4, none⟩))) (ds := [6]) #[false, false, false, false, false, false, false] (by kernel_rfl) rfl rfl (cell_of_heap hb.out rfl) (fun hHeld => ?_)
 refine pu_ 1 37 (mk 7 2) rfl rfl ?_
 refine pu_ 2 38 (mk 7 6) rfl rfl ?_
 refine take_ (i := 0) (N := some 36) (v := ?_) (a' := ?_) (mk 7 7) rfl rfl (by kernel_rfl) (fun _ _ _ h => h) (Or.inl ⟨by rfl, ?_⟩) hHeld ?_ ?_
 rotate_left
 ·intro w' s0
  go_simp
  with_reducible rfl
 rotate_left
 ·exact e4
 refine one_ (i := 3) (N := some 39) (mk 7 15) rfl rfl (by kernel_rfl) (by decide) (fun K hK => ?_)
 refine goes_ Tryz.func112 (by kernel_rfl) rfl #[.pointer (some ⟨p, 0, none⟩), .int .i64 (pnext r.n r.task)] (by rfl) rfl rfl (by simp only [List.map_toArray, List.map_cons, List.map_nil]; rfl) ?_
 refine load_step (Lib.hid hc.out.drew) _ ?_
 intro w2 f2 hc d6 d7
 refine ⟨_, rfl, ?_⟩
 replace hb := Lib.hid (f2.keep (blk_drew hb.out) nbp nbg (by decide))
 have fz := hc.out.at_.frozen 6
 refine hK.out _ _ (cell_of_heap hb.out rfl) (fun hHeld => ?_)
 clear hK K
 refine nm_ ?_
 refine pu_ 4 40 (mk 7 31) rfl rfl ?_
 refine pu_ 5 41 (mk 7 63) rfl rfl ?_
 refine last_ (i := 6) (N := none) (mk 7 127) rfl rfl (by kernel_rfl) (by decide) (fun K hK => ?_)
 refine skip_ (w1 := ?_) (by rfl) rfl ?_ ?_
 rotate_left
 ·go_simp
  rfl
 refine hK.out _ _ ?_
 clear hK K
 refine done_ (by kernel_rfl) ?_
 replace hb := Lib.hid (((Fr.refl B p g w2).set ⟨p, 6, none⟩ (.inl rfl) (.int .u32 (r.load (pnext r.n r.task)).old)).keep hb.out nbp nbg (by decide))
 replace hc := Lib.hid (hc.out.setA' (r.load (pnext r.n r.task)).old rfl)
 generalize w2.setCell ⟨p, 6, none⟩ (.int .u32 (r.load (pnext r.n r.task)).old) = w3 at hb hc ⊢
 clear c5 c6 c7 cb d6 d7 fz
 have c6 := hc.out.c6
 replace c6 : _ = some (Value.int .u32 (r.load (pnext r.n r.task)).old) := c6
 have cb := cell_of_heap (j := 0) hb.out rfl
 go_wp2_with (first
  | (go_at_call 102; (try clear c6); (try clear c7); go_must (refine go_step hc _ ?_; intro w1 f1 hc c6 c7; clear f1)))
 go_ret
 refine ⟨rfl, ?_, hc.out.fr⟩
 have s0 : r.f.line - a = 0 := by rw [hln.out]; omega
 rw [g1.out] at hc
 unfold Mx.give
 simp only [s0]
 simp only [Int.reduceEq, and_true, true_and, and_self, and_false, false_and, if_true, if_false, or_false, false_or, or_true, true_or]
 rw [if_neg (by intro k; exact absurd (bne_iff_ne.mpr k) (by rw [show ((r.load (pnext r.n r.task)).setA (r.load (pnext r.n r.task)).old).f.a = (r.load (pnext r.n r.task)).old from rfl, hz]; decide))]
 exact hc.out.at_
set_option maxHeartbeats 4000000 in
theorem mxg_1_t (h : At B w p pm g r) (hO : Ok r) (hn : r.notes = []) (hln : r.f.line = a + 1) (ha : 0 ≤ a ∧ a ≤ 20) (hxl : xs.length ≤ 5) (hsb : w.heap[sb]? = some (.cells cs 3 (0, 0))) (hsc : ∀ i, i < xs.length → cs[i]? = some (.int .i64 (xs.getD i 0))) (hs1 : sb ≠ p) (hs2 : sb ≠ g) (hk : (r.cas tail (Mx.own r) 0).hitCas (Mx.own r) = true) : Calls Tryz.prog 160 #[.pointer (some ⟨p, 0, none⟩), .int .i64 tail, .int .i64 a, .slice (some ⟨sb, 0, none⟩) xs.length cap] w fun e w' => e = .returned (.bool true) ∧ At B w' p pm g ((Mx.give r tail a xs).1) ∧ Fr B p g w w' := by
 obtain ⟨b, hbb⟩ : ∃ b, b = w.heap.size := ⟨_, rfl⟩
 obtain ⟨W, hW⟩ : ∃ W, W = w.alloc (.cells #[.pointer (some ⟨p, 4, none⟩)] 175) := ⟨_, rfl⟩
 obtain ⟨hc, c4, c5, c6, c7, hb, nbp, nbg, v6, v7⟩ := startbox h hO hn rfl hln hW hbb
 have cb := cell_of_heap (j := 0) hb.out rfl
 replace hsb : W.heap[sb]? = some (.cells cs 3 (0, 0)) := by rw [hW]; exact blk_alloc hsb _
 have e0 : (wrap64 (a + 1 - a) == 0) = false := by rw [show wrap64 (a + 1 - a) = 1 by unfold wrap64; omega]; decide
 have e1 : (wrap64 (a + 1 - a) == 1) = true := by rw [show wrap64 (a + 1 - a) = 1 by unfold wrap64; omega]; decide
 have g1 : wrap64 (a + 1) = a + 1 := by unfold wrap64; omega
 replace g1 := Lib.hid g1
 have g2 : wrap64 (a + 2) = a + 2 := by unfold wrap64; omega
 replace g2 := Lib.hid g2
 have g3 : wrap64 (a + 3) = a + 3 := by unfold wrap64; omega
 replace g3 := Lib.hid g3
 replace ha := Lib.hid ha
 replace hxl := Lib.hid hxl
 replace hsb := Lib.hid hsb
 replace hsc := Lib.hid hsc
 replace hs1 := Lib.hid hs1
 replace hs2 := Lib.hid hs2
 replace h := Lib.hid h
 replace hO := Lib.hid hO
 replace hn := Lib.hid hn
 replace hln := Lib.hid hln
 go_enter Tryz.func160, Tryz.ntmps160
 go_upto_region 4 with (fail)
 rw [← hW, ← hbb]
 clear v6 v7
 replace hW := Lib.hid hW
 replace hbb := Lib.hid hbb
 have c1 := hc.out.c1
 have c3 := hc.out.c3
 go_upto_region 4 with (fail)
 go_still_tail 8, (by kernel_rfl)
 change wpList _ _ _ _ _ W.drew
 have hcq := hc.out.drew
 have hbq := blk_drew hb.out
 have hsbq := blk_drew hsb.out
 clear c6 c7 hc cb c1 c3 c4 c5
 generalize W.drew = W8 at hcq hbq hsbq ⊢
 have hc := Lib.hid hcq
 replace hb := Lib.hid hbq
 replace hsb := Lib.hid hsbq
 clear hcq hbq hsbq
 have c6 := hc.out.c6
 have c7 := hc.out.c7
 have cb := cell_of_heap (j := 0) hb.out rfl
 go_wp2_with (first
  | (go_at_call 191; (try clear c6); (try clear c7); (try clear cb); go_must (refine (pnext_walk r.n r.task _).mono ?_; rintro e w1 ⟨rfl, hb1⟩; replace hb := Lib.hid (heap_below hb1 hb.out); replace hsb := Lib.hid (heap_below hb1 hsb.out); replace hc := Lib.hid (hc.out.below hb1); clear hb1; have c5 : w1.cell? ⟨p, 5, none⟩ = some (.int .i64 (a + 1)) := hc.out.at_.cell 5 (fun _ => by rw [← hln.out]; rfl); have c6 := hc.out.c6; have c7 := hc.out.c7; have cb := cell_of_heap (j := 0) hb.out rfl))
  | (go_at_call 194; go_must (refine (mxown_walk hc.out.at_).mono ?_; rintro e w1 ⟨rfl, rfl⟩))
  | (go_at_call 128; (try clear c6); (try clear c7); go_must (refine cas_step hc _ _ _ true hk (w32_own _) (by decide) ?_; intro w1 f1 hc c6 c7; replace hsb := Lib.hid (f1.keep hsb.out hs1.out hs2.out (by decide)); clear f1))
  | (go_at_call 197; go_must (refine (mxnoted_walk hc.out.at_ (by have := hc.out.few; omega) xs hxl.out hsb.out hsc.out hs1.out hs2.out).mono ?_; rintro e w2 ⟨rfl, hA2, hF2⟩; replace hc := Lib.hid (Car.noted hc.out hxl.out hA2 hF2); clear hA2 hF2; have c6 := hc.out.c6; have c7 := hc.out.c7)))
 go_ret
 refine ⟨rfl, ?_, hc.out.fr⟩
 have s1 : r.f.line - a = 1 := by rw [hln.out]; omega
 unfold Mx.give
 simp only [s1]
 simp only [Int.reduceEq, and_true, true_and, and_self, and_false, false_and, if_true, if_false, or_false, false_or, or_true, true_or]
 rw [if_pos hk]
 exact hc.out.at_
set_option maxHeartbeats 4000000 in
theorem mxg_1_f (h : At B w p pm g r) (hO : Ok r) (hn : r.notes = []) (hln : r.f.line = a + 1) (ha : 0 ≤ a ∧ a ≤ 20) (hxl : xs.length ≤ 5) (hsb : w.heap[sb]? = some (.cells cs 3 (0, 0))) (hsc : ∀ i, i < xs.length → cs[i]? = some (.int .i64 (xs.getD i 0))) (hs1 : sb ≠ p) (hs2 : sb ≠ g) (hk : (r.cas tail (Mx.own r) 0).hitCas (Mx.own r) = false) : Calls Tryz.prog 160 #[.pointer (some ⟨p, 0, none⟩), .int .i64 tail, .int .i64 a, .slice (some ⟨sb, 0, none⟩) xs.length cap] w fun e w' => e = .returned (.bool false) ∧ At B w' p pm g ((Mx.give r tail a xs).1) ∧ Fr B p g w w' := by
 obtain ⟨b, hbb⟩ : ∃ b, b = w.heap.size := ⟨_, rfl⟩
 obtain ⟨W, hW⟩ : ∃ W, W = w.alloc (.cells #[.pointer (some ⟨p, 4, none⟩)] 175) := ⟨_, rfl⟩
 obtain ⟨hc, c4, c5, c6, c7, hb, nbp, nbg, v6, v7⟩ := startbox h hO hn rfl hln hW hbb
 have cb := cell_of_heap (j := 0) hb.out rfl
 replace hsb : W.heap[sb]? = some (.cells cs 3 (0, 0)) := by rw [hW]; exact blk_alloc hsb _
 have e0 : (wrap64 (a + 1 - a) == 0) = false := by rw [show wrap64 (a + 1 - a) = 1 by unfold wrap64; omega]; decide
 have e1 : (wrap64 (a + 1 - a) == 1) = true := by rw [show wrap64 (a + 1 - a) = 1 by unfold wrap64; omega]; decide
 have g1 : wrap64 (a + 1) = a + 1 := by unfold wrap64; omega
 replace g1 := Lib.hid g1
 have g2 : wrap64 (a + 2) = a + 2 := by unfold wrap64; omega
 replace g2 := Lib.hid g2
 have g3 : wrap64 (a + 3) = a + 3 := by unfold wrap64; omega
 replace g3 := Lib.hid g3
 replace ha := Lib.hid ha
 replace hxl := Lib.hid hxl
 replace hsb := Lib.hid hsb
 replace hsc := Lib.hid hsc
 replace hs1 := Lib.hid hs1
 replace hs2 := Lib.hid hs2
 replace h := Lib.hid h
 replace hO := Lib.hid hO
 replace hn := Lib.hid hn
 replace hln := Lib.hid hln
 go_enter Tryz.func160, Tryz.ntmps160
 go_upto_region 4 with (fail)
 rw [← hW, ← hbb]
 clear v6 v7
 replace hW := Lib.hid hW
 replace hbb := Lib.hid hbb
 have c1 := hc.out.c1
 have c3 := hc.out.c3
 go_upto_region 4 with (fail)
 go_still_tail 8, (by kernel_rfl)
 change wpList _ _ _ _ _ W.drew
 have hcq := hc.out.drew
 have hbq := blk_drew hb.out
 have hsbq := blk_drew hsb.out
 clear c6 c7 hc cb c1 c3 c4 c5
 generalize W.drew = W8 at hcq hbq hsbq ⊢
 have hc := Lib.hid hcq
 replace hb := Lib.hid hbq
 replace hsb := Lib.hid hsbq
 clear hcq hbq hsbq
 have c6 := hc.out.c6
 have c7 := hc.out.c7
 have cb := cell_of_heap (j := 0) hb.out rfl
 go_wp2_with (first
  | (go_at_call 191; (try clear c6); (try clear c7); (try clear cb); go_must (refine (pnext_walk r.n r.task _).mono ?_; rintro e w1 ⟨rfl, hb1⟩; replace hb := Lib.hid (heap_below hb1 hb.out); replace hsb := Lib.hid (heap_below hb1 hsb.out); replace hc := Lib.hid (hc.out.below hb1); clear hb1; have c5 : w1.cell? ⟨p, 5, none⟩ = some (.int .i64 (a + 1)) := hc.out.at_.cell 5 (fun _ => by rw [← hln.out]; rfl); have c6 := hc.out.c6; have c7 := hc.out.c7; have cb := cell_of_heap (j := 0) hb.out rfl))
  | (go_at_call 194; go_must (refine (mxown_walk hc.out.at_).mono ?_; rintro e w1 ⟨rfl, rfl⟩))
  | (go_at_call 128; (try clear c6); (try clear c7); go_must (refine cas_step hc _ _ _ false hk (w32_own _) (by decide) ?_; intro w1 f1 hc c6 c7; replace hsb := Lib.hid (f1.keep hsb.out hs1.out hs2.out (by decide)); clear f1))
  | (go_at_call 102; (try clear c6); (try clear c7); go_must (refine go_step hc _ ?_; intro w1 f1 hc c6 c7; clear f1)))
 go_ret
 refine ⟨rfl, ?_, hc.out.fr⟩
 have s1 : r.f.line - a = 1 := by rw [hln.out]; omega
 rw [g2.out] at hc
 unfold Mx.give
 simp only [s1]
 simp only [Int.reduceEq, and_true, true_and, and_self, and_false, false_and, if_true, if_false, or_false, false_or, or_true, true_or]
 rw [if_neg (by rw [hk]; decide)]
 exact hc.out.at_
set_option maxHeartbeats 4000000 in
theorem mxg_2_t_t (h : At B w p pm g r) (hO : Ok r) (hn : r.notes = []) (hln : r.f.line = a + 2) (ha : 0 ≤ a ∧ a ≤ 20) (hxl : xs.length ≤ 5) (hsb : w.heap[sb]? = some (.cells cs 3 (0, 0))) (hsc : ∀ i, i < xs.length → cs[i]? = some (.int .i64 (xs.getD i 0))) (hs1 : sb ≠ p) (hs2 : sb ≠ g) (hs : (r.waited (pnext r.n r.task) (fun v => v != 0)).seen = true) (hd : (r.waited (pnext r.n r.task) (fun v => v != 0)).done = true) : Calls Tryz.prog 160 #[.pointer (some ⟨p, 0, none⟩), .int .i64 tail, .int .i64 a, .slice (some ⟨sb, 0, none⟩) xs.length cap] w fun e w' => e = .returned (.bool false) ∧ At B w' p pm g ((Mx.give r tail a xs).1) ∧ Fr B p g w w' := by
 obtain ⟨b, hbb⟩ : ∃ b, b = w.heap.size := ⟨_, rfl⟩
 obtain ⟨W, hW⟩ : ∃ W, W = w.alloc (.cells #[.pointer (some ⟨p, 4, none⟩)] 175) := ⟨_, rfl⟩
 obtain ⟨hc, c4, c5, c6, c7, hb, nbp, nbg, v6, v7⟩ := startbox h hO hn rfl hln hW hbb
 have cb := cell_of_heap (j := 0) hb.out rfl
 replace hsb : W.heap[sb]? = some (.cells cs 3 (0, 0)) := by rw [hW]; exact blk_alloc hsb _
 have e0 : (wrap64 (a + 2 - a) == 0) = false := by rw [show wrap64 (a + 2 - a) = 2 by unfold wrap64; omega]; decide
 have e1 : (wrap64 (a + 2 - a) == 1) = false := by rw [show wrap64 (a + 2 - a) = 2 by unfold wrap64; omega]; decide
 have e2 : (wrap64 (a + 2 - a) == 2) = true := by rw [show wrap64 (a + 2 - a) = 2 by unfold wrap64; omega]; decide
 have g1 : wrap64 (a + 1) = a + 1 := by unfold wrap64; omega
 replace g1 := Lib.hid g1
 have g2 : wrap64 (a + 2) = a + 2 := by unfold wrap64; omega
 replace g2 := Lib.hid g2
 have g3 : wrap64 (a + 3) = a + 3 := by unfold wrap64; omega
 replace g3 := Lib.hid g3
 replace ha := Lib.hid ha
 replace hxl := Lib.hid hxl
 replace hsb := Lib.hid hsb
 replace hsc := Lib.hid hsc
 replace hs1 := Lib.hid hs1
 replace hs2 := Lib.hid hs2
 replace h := Lib.hid h
 replace hO := Lib.hid hO
 replace hn := Lib.hid hn
 replace hln := Lib.hid hln
 go_enter Tryz.func160, Tryz.ntmps160
 go_upto_region 4 with (fail)
 rw [← hW, ← hbb]
 clear v6 v7
 replace hW := Lib.hid hW
 replace hbb := Lib.hid hbb
 have c1 := hc.out.c1
 have c3 := hc.out.c3
 go_upto_region 4 with (fail)
 go_still_tail 8, (by kernel_rfl)
 change wpList _ _ _ _ _ W.drew
 have hcq := hc.out.drew
 have hbq := blk_drew hb.out
 have hsbq := blk_drew hsb.out
 clear c6 c7 hc cb c1 c3 c4 c5
 generalize W.drew = W8 at hcq hbq hsbq ⊢
 have hc := Lib.hid hcq
 replace hb := Lib.hid hbq
 replace hsb := Lib.hid hsbq
 clear hcq hbq hsbq
 have c6 := hc.out.c6
 have c7 := hc.out.c7
 have cb := cell_of_heap (j := 0) hb.out rfl
 go_wp2_with (first
  | (go_at_call 191; (try clear c6); (try clear c7); (try clear cb); go_must (refine (pnext_walk r.n r.task _).mono ?_; rintro e w1 ⟨rfl, hb1⟩; replace hb := Lib.hid (heap_below hb1 hb.out); replace hsb := Lib.hid (heap_below hb1 hsb.out); replace hc := Lib.hid (hc.out.below hb1); clear hb1; have c5 : w1.cell? ⟨p, 5, none⟩ = some (.int .i64 (a + 2)) := hc.out.at_.cell 5 (fun _ => by rw [← hln.out]; rfl); have c6 := hc.out.c6; have c7 := hc.out.c7; have cb := cell_of_heap (j := 0) hb.out rfl))
  | (go_at_call 101; (try clear c6); (try clear c7); (try clear cb); go_must (refine waitset_step hc _ (fun v => v != 0) (mxgive_tells hb.out nbp nbg) true true hs hd ?_; intro w1 f1 hc; clear f1))
  | (go_at_call 102; (try clear c6); (try clear c7); go_must (refine go_step hc _ ?_; intro w1 f1 hc c6 c7; clear f1)))
 exact e85
set_option maxHeartbeats 4000000 in
theorem mxg_2_t_f (h : At B w p pm g r) (hO : Ok r) (hn : r.notes = []) (hln : r.f.line = a + 2) (ha : 0 ≤ a ∧ a ≤ 20) (hxl : xs.length ≤ 5) (hsb : w.heap[sb]? = some (.cells cs 3 (0, 0))) (hsc : ∀ i, i < xs.length → cs[i]? = some (.int .i64 (xs.getD i 0))) (hs1 : sb ≠ p) (hs2 : sb ≠ g) (hs : (r.waited (pnext r.n r.task) (fun v => v != 0)).seen = true) (hd : (r.waited (pnext r.n r.task) (fun v => v != 0)).done = false) : Calls Tryz.prog 160 #[.pointer (some ⟨p, 0, none⟩), .int .i64 tail, .int .i64 a, .slice (some ⟨sb, 0, none⟩) xs.length cap] w fun e w' => e = .returned (.bool false) ∧ At B w' p pm g ((Mx.give r tail a xs).1) ∧ Fr B p g w w' := by
 obtain ⟨b, hbb⟩ : ∃ b, b = w.heap.size := ⟨_, rfl⟩
 obtain ⟨W, hW⟩ : ∃ W, W = w.alloc (.cells #[.pointer (some ⟨p, 4, none⟩)] 175) := ⟨_, rfl⟩
 obtain ⟨hc, c4, c5, c6, c7, hb, nbp, nbg, v6, v7⟩ := startbox h hO hn rfl hln hW hbb
 have cb := cell_of_heap (j := 0) hb.out rfl
 replace hsb : W.heap[sb]? = some (.cells cs 3 (0, 0)) := by rw [hW]; exact blk_alloc hsb _
 have e0 : (wrap64 (a + 2 - a) == 0) = false := by rw [show wrap64 (a + 2 - a) = 2 by unfold wrap64; omega]; decide
 have e1 : (wrap64 (a + 2 - a) == 1) = false := by rw [show wrap64 (a + 2 - a) = 2 by unfold wrap64; omega]; decide
 have e2 : (wrap64 (a + 2 - a) == 2) = true := by rw [show wrap64 (a + 2 - a) = 2 by unfold wrap64; omega]; decide
 have g1 : wrap64 (a + 1) = a + 1 := by unfold wrap64; omega
 replace g1 := Lib.hid g1
 have g2 : wrap64 (a + 2) = a + 2 := by unfold wrap64; omega
 replace g2 := Lib.hid g2
 have g3 : wrap64 (a + 3) = a + 3 := by unfold wrap64; omega
 replace g3 := Lib.hid g3
 replace ha := Lib.hid ha
 replace hxl := Lib.hid hxl
 replace hsb := Lib.hid hsb
 replace hsc := Lib.hid hsc
 replace hs1 := Lib.hid hs1
 replace hs2 := Lib.hid hs2
 replace h := Lib.hid h
 replace hO := Lib.hid hO
 replace hn := Lib.hid hn
 replace hln := Lib.hid hln
 go_enter Tryz.func160, Tryz.ntmps160
 go_upto_region 4 with (fail)
 rw [← hW, ← hbb]
 clear v6 v7
 replace hW := Lib.hid hW
 replace hbb := Lib.hid hbb
 have c1 := hc.out.c1
 have c3 := hc.out.c3
 go_upto_region 4 with (fail)
 go_still_tail 8, (by kernel_rfl)
 change wpList _ _ _ _ _ W.drew
 have hcq := hc.out.drew
 have hbq := blk_drew hb.out
 have hsbq := blk_drew hsb.out
 clear c6 c7 hc cb c1 c3 c4 c5
 generalize W.drew = W8 at hcq hbq hsbq ⊢
 have hc := Lib.hid hcq
 replace hb := Lib.hid hbq
 replace hsb := Lib.hid hsbq
 clear hcq hbq hsbq
 have c6 := hc.out.c6
 have c7 := hc.out.c7
 have cb := cell_of_heap (j := 0) hb.out rfl
 go_wp2_with (first
  | (go_at_call 191; (try clear c6); (try clear c7); (try clear cb); go_must (refine (pnext_walk r.n r.task _).mono ?_; rintro e w1 ⟨rfl, hb1⟩; replace hb := Lib.hid (heap_below hb1 hb.out); replace hsb := Lib.hid (heap_below hb1 hsb.out); replace hc := Lib.hid (hc.out.below hb1); clear hb1; have c5 : w1.cell? ⟨p, 5, none⟩ = some (.int .i64 (a + 2)) := hc.out.at_.cell 5 (fun _ => by rw [← hln.out]; rfl); have c6 := hc.out.c6; have c7 := hc.out.c7; have cb := cell_of_heap (j := 0) hb.out rfl))
  | (go_at_call 101; (try clear c6); (try clear c7); (try clear cb); go_must (refine waitset_step hc _ (fun v => v != 0) (mxgive_tells hb.out nbp nbg) true false hs hd ?_; intro w1 f1 hc; clear f1))
  | (go_at_call 102; (try clear c6); (try clear c7); go_must (refine go_step hc _ ?_; intro w1 f1 hc c6 c7; clear f1)))
 exact e86
set_option maxHeartbeats 4000000 in
theorem mxg_2_f_t (h : At B w p pm g r) (hO : Ok r) (hn : r.notes = []) (hln : r.f.line = a + 2) (ha : 0 ≤ a ∧ a ≤ 20) (hxl : xs.length ≤ 5) (hsb : w.heap[sb]? = some (.cells cs 3 (0, 0))) (hsc : ∀ i, i < xs.length → cs[i]? = some (.int .i64 (xs.getD i 0))) (hs1 : sb ≠ p) (hs2 : sb ≠ g) (hs : (r.waited (pnext r.n r.task) (fun v => v != 0)).seen = false) (hd : (r.waited (pnext r.n r.task) (fun v => v != 0)).done = true) : Calls Tryz.prog 160 #[.pointer (some ⟨p, 0, none⟩), .int .i64 tail, .int .i64 a, .slice (some ⟨sb, 0, none⟩) xs.length cap] w fun e w' => e = .returned (.bool false) ∧ At B w' p pm g ((Mx.give r tail a xs).1) ∧ Fr B p g w w' := by
 obtain ⟨b, hbb⟩ : ∃ b, b = w.heap.size := ⟨_, rfl⟩
 obtain ⟨W, hW⟩ : ∃ W, W = w.alloc (.cells #[.pointer (some ⟨p, 4, none⟩)] 175) := ⟨_, rfl⟩
 obtain ⟨hc, c4, c5, c6, c7, hb, nbp, nbg, v6, v7⟩ := startbox h hO hn rfl hln hW hbb
 have cb := cell_of_heap (j := 0) hb.out rfl
 replace hsb : W.heap[sb]? = some (.cells cs 3 (0, 0)) := by rw [hW]; exact blk_alloc hsb _
 have e0 : (wrap64 (a + 2 - a) == 0) = false := by rw [show wrap64 (a + 2 - a) = 2 by unfold wrap64; omega]; decide
 have e1 : (wrap64 (a + 2 - a) == 1) = false := by rw [show wrap64 (a + 2 - a) = 2 by unfold wrap64; omega]; decide
 have e2 : (wrap64 (a + 2 - a) == 2) = true := by rw [show wrap64 (a + 2 - a) = 2 by unfold wrap64; omega]; decide
 have g1 : wrap64 (a + 1) = a + 1 := by unfold wrap64; omega
 replace g1 := Lib.hid g1
 have g2 : wrap64 (a + 2) = a + 2 := by unfold wrap64; omega
 replace g2 := Lib.hid g2
 have g3 : wrap64 (a + 3) = a + 3 := by unfold wrap64; omega
 replace g3 := Lib.hid g3
 replace ha := Lib.hid ha
 replace hxl := Lib.hid hxl
 replace hsb := Lib.hid hsb
 replace hsc := Lib.hid hsc
 replace hs1 := Lib.hid hs1
 replace hs2 := Lib.hid hs2
 replace h := Lib.hid h
 replace hO := Lib.hid hO
 replace hn := Lib.hid hn
 replace hln := Lib.hid hln
 go_enter Tryz.func160, Tryz.ntmps160
 go_upto_region 4 with (fail)
 rw [← hW, ← hbb]
 clear v6 v7
 replace hW := Lib.hid hW
 replace hbb := Lib.hid hbb
 have c1 := hc.out.c1
 have c3 := hc.out.c3
 go_upto_region 4 with (fail)
 go_still_tail 8, (by kernel_rfl)
 change wpList _ _ _ _ _ W.drew
 have hcq := hc.out.drew
 have hbq := blk_drew hb.out
 have hsbq := blk_drew hsb.out
 clear c6 c7 hc cb c1 c3 c4 c5
 generalize W.drew = W8 at hcq hbq hsbq ⊢
 have hc := Lib.hid hcq
 replace hb := Lib.hid hbq
 replace hsb := Lib.hid hsbq
 clear hcq hbq hsbq
 have c6 := hc.out.c6
 have c7 := hc.out.c7
 have cb := cell_of_heap (j := 0) hb.out rfl
 go_wp2_with (first
  | (go_at_call 191; (try clear c6); (try clear c7); (try clear cb); go_must (refine (pnext_walk r.n r.task _).mono ?_; rintro e w1 ⟨rfl, hb1⟩; replace hb := Lib.hid (heap_below hb1 hb.out); replace hsb := Lib.hid (heap_below hb1 hsb.out); replace hc := Lib.hid (hc.out.below hb1); clear hb1; have c5 : w1.cell? ⟨p, 5, none⟩ = some (.int .i64 (a + 2)) := hc.out.at_.cell 5 (fun _ => by rw [← hln.out]; rfl); have c6 := hc.out.c6; have c7 := hc.out.c7; have cb := cell_of_heap (j := 0) hb.out rfl))
  | (go_at_call 101; (try clear c6); (try clear c7); (try clear cb); go_must (refine waitset_step hc _ (fun v => v != 0) (mxgive_tells hb.out nbp nbg) false true hs hd ?_; intro w1 f1 hc; clear f1))
  | (go_at_call 102; (try clear c6); (try clear c7); go_must (refine go_step hc _ ?_; intro w1 f1 hc c6 c7; clear f1)))
 exact e85
set_option maxHeartbeats 4000000 in
theorem mxg_2_f_f (h : At B w p pm g r) (hO : Ok r) (hn : r.notes = []) (hln : r.f.line = a + 2) (ha : 0 ≤ a ∧ a ≤ 20) (hxl : xs.length ≤ 5) (hsb : w.heap[sb]? = some (.cells cs 3 (0, 0))) (hsc : ∀ i, i < xs.length → cs[i]? = some (.int .i64 (xs.getD i 0))) (hs1 : sb ≠ p) (hs2 : sb ≠ g) (hs : (r.waited (pnext r.n r.task) (fun v => v != 0)).seen = false) (hd : (r.waited (pnext r.n r.task) (fun v => v != 0)).done = false) : Calls Tryz.prog 160 #[.pointer (some ⟨p, 0, none⟩), .int .i64 tail, .int .i64 a, .slice (some ⟨sb, 0, none⟩) xs.length cap] w fun e w' => e = .returned (.bool false) ∧ At B w' p pm g ((Mx.give r tail a xs).1) ∧ Fr B p g w w' := by
 obtain ⟨b, hbb⟩ : ∃ b, b = w.heap.size := ⟨_, rfl⟩
 obtain ⟨W, hW⟩ : ∃ W, W = w.alloc (.cells #[.pointer (some ⟨p, 4, none⟩)] 175) := ⟨_, rfl⟩
 obtain ⟨hc, c4, c5, c6, c7, hb, nbp, nbg, v6, v7⟩ := startbox h hO hn rfl hln hW hbb
 have cb := cell_of_heap (j := 0) hb.out rfl
 replace hsb : W.heap[sb]? = some (.cells cs 3 (0, 0)) := by rw [hW]; exact blk_alloc hsb _
 have e0 : (wrap64 (a + 2 - a) == 0) = false := by rw [show wrap64 (a + 2 - a) = 2 by unfold wrap64; omega]; decide
 have e1 : (wrap64 (a + 2 - a) == 1) = false := by rw [show wrap64 (a + 2 - a) = 2 by unfold wrap64; omega]; decide
 have e2 : (wrap64 (a + 2 - a) == 2) = true := by rw [show wrap64 (a + 2 - a) = 2 by unfold wrap64; omega]; decide
 have g1 : wrap64 (a + 1) = a + 1 := by unfold wrap64; omega
 replace g1 := Lib.hid g1
 have g2 : wrap64 (a + 2) = a + 2 := by unfold wrap64; omega
 replace g2 := Lib.hid g2
 have g3 : wrap64 (a + 3) = a + 3 := by unfold wrap64; omega
 replace g3 := Lib.hid g3
 replace ha := Lib.hid ha
 replace hxl := Lib.hid hxl
 replace hsb := Lib.hid hsb
 replace hsc := Lib.hid hsc
 replace hs1 := Lib.hid hs1
 replace hs2 := Lib.hid hs2
 replace h := Lib.hid h
 replace hO := Lib.hid hO
 replace hn := Lib.hid hn
 replace hln := Lib.hid hln
 go_enter Tryz.func160, Tryz.ntmps160
 go_upto_region 4 with (fail)
 rw [← hW, ← hbb]
 clear v6 v7
 replace hW := Lib.hid hW
 replace hbb := Lib.hid hbb
 have c1 := hc.out.c1
 have c3 := hc.out.c3
 go_upto_region 4 with (fail)
 go_still_tail 8, (by kernel_rfl)
 change wpList _ _ _ _ _ W.drew
 have hcq := hc.out.drew
 have hbq := blk_drew hb.out
 have hsbq := blk_drew hsb.out
 clear c6 c7 hc cb c1 c3 c4 c5
 generalize W.drew = W8 at hcq hbq hsbq ⊢
 have hc := Lib.hid hcq
 replace hb := Lib.hid hbq
 replace hsb := Lib.hid hsbq
 clear hcq hbq hsbq
 have c6 := hc.out.c6
 have c7 := hc.out.c7
 have cb := cell_of_heap (j := 0) hb.out rfl
 go_wp2_with (first
  | (go_at_call 191; (try clear c6); (try clear c7); (try clear cb); go_must (refine (pnext_walk r.n r.task _).mono ?_; rintro e w1 ⟨rfl, hb1⟩; replace hb := Lib.hid (heap_below hb1 hb.out); replace hsb := Lib.hid (heap_below hb1 hsb.out); replace hc := Lib.hid (hc.out.below hb1); clear hb1; have c5 : w1.cell? ⟨p, 5, none⟩ = some (.int .i64 (a + 2)) := hc.out.at_.cell 5 (fun _ => by rw [← hln.out]; rfl); have c6 := hc.out.c6; have c7 := hc.out.c7; have cb := cell_of_heap (j := 0) hb.out rfl))
  | (go_at_call 101; (try clear c6); (try clear c7); (try clear cb); go_must (refine waitset_step hc _ (fun v => v != 0) (mxgive_tells hb.out nbp nbg) false false hs hd ?_; intro w1 f1 hc; clear f1))
  | (go_at_call 102; (try clear c6); (try clear c7); go_must (refine go_step hc _ ?_; intro w1 f1 hc c6 c7; clear f1)))
 exact e86
set_option maxHeartbeats 4000000 in
theorem mxg_3 (h : At B w p pm g r) (hO : Ok r) (hn : r.notes = []) (hln : r.f.line = a + 3) (ha : 0 ≤ a ∧ a ≤ 20) (hxl : xs.length ≤ 5) (hsb : w.heap[sb]? = some (.cells cs 3 (0, 0))) (hsc : ∀ i, i < xs.length → cs[i]? = some (.int .i64 (xs.getD i 0))) (hs1 : sb ≠ p) (hs2 : sb ≠ g) : Calls Tryz.prog 160 #[.pointer (some ⟨p, 0, none⟩), .int .i64 tail, .int .i64 a, .slice (some ⟨sb, 0, none⟩) xs.length cap] w fun e w' => e = .returned (.bool true) ∧ At B w' p pm g ((Mx.give r tail a xs).1) ∧ Fr B p g w w' := by
 obtain ⟨b, hbb⟩ : ∃ b, b = w.heap.size := ⟨_, rfl⟩
 obtain ⟨W, hW⟩ : ∃ W, W = w.alloc (.cells #[.pointer (some ⟨p, 4, none⟩)] 175) := ⟨_, rfl⟩
 obtain ⟨hc, c4, c5, c6, c7, hb, nbp, nbg, v6, v7⟩ := startbox h hO hn rfl hln hW hbb
 have cb := cell_of_heap (j := 0) hb.out rfl
 replace hsb : W.heap[sb]? = some (.cells cs 3 (0, 0)) := by rw [hW]; exact blk_alloc hsb _
 have e0 : (wrap64 (a + 3 - a) == 0) = false := by rw [show wrap64 (a + 3 - a) = 3 by unfold wrap64; omega]; decide
 have e1 : (wrap64 (a + 3 - a) == 1) = false := by rw [show wrap64 (a + 3 - a) = 3 by unfold wrap64; omega]; decide
 have e2 : (wrap64 (a + 3 - a) == 2) = false := by rw [show wrap64 (a + 3 - a) = 3 by unfold wrap64; omega]; decide
 have e3 : (wrap64 (a + 3 - a) == 3) = true := by rw [show wrap64 (a + 3 - a) = 3 by unfold wrap64; omega]; decide
 have g1 : wrap64 (a + 1) = a + 1 := by unfold wrap64; omega
 replace g1 := Lib.hid g1
 have g2 : wrap64 (a + 2) = a + 2 := by unfold wrap64; omega
 replace g2 := Lib.hid g2
 have g3 : wrap64 (a + 3) = a + 3 := by unfold wrap64; omega
 replace g3 := Lib.hid g3
 replace ha := Lib.hid ha
 replace hxl := Lib.hid hxl
 replace hsb := Lib.hid hsb
 replace hsc := Lib.hid hsc
 replace hs1 := Lib.hid hs1
 replace hs2 := Lib.hid hs2
 replace h := Lib.hid h
 replace hO := Lib.hid hO
 replace hn := Lib.hid hn
 replace hln := Lib.hid hln
 go_enter Tryz.func160, Tryz.ntmps160
 go_upto_region 4 with (fail)
 rw [← hW, ← hbb]
 clear v6 v7
 replace hW := Lib.hid hW
 replace hbb := Lib.hid hbb
 have c1 := hc.out.c1
 have c3 := hc.out.c3
 go_upto_region 4 with (fail)
 go_still_tail 8, (by kernel_rfl)
 change wpList _ _ _ _ _ W.drew
 have hcq := hc.out.drew
 have hbq := blk_drew hb.out
 have hsbq := blk_drew hsb.out
 clear c6 c7 hc cb c1 c3 c4 c5
 generalize W.drew = W8 at hcq hbq hsbq ⊢
 have hc := Lib.hid hcq
 replace hb := Lib.hid hbq
 replace hsb := Lib.hid hsbq
 clear hcq hbq hsbq
 have c6 := hc.out.c6
 have c7 := hc.out.c7
 have cb := cell_of_heap (j := 0) hb.out rfl
 go_upto_region 21 with (go_at_call 191; (try clear c6); (try clear c7); (try clear cb); go_must (refine (pnext_walk r.n r.task _).mono ?_; rintro e w1 ⟨rfl, hb1⟩; replace hb := Lib.hid (heap_below hb1 hb.out); replace hsb := Lib.hid (heap_below hb1 hsb.out); replace hc := Lib.hid (hc.out.below hb1); clear hb1; have c5 : w1.cell? ⟨p, 5, none⟩ = some (.int .i64 (a + 3)) := hc.out.at_.cell 5 (fun _ => by rw [← hln.out]; rfl); have c6 := hc.out.c6; have c7 := hc.out.c7; have cb := cell_of_heap (j := 0) hb.out rfl))
 refine start_ (n := 11) (S := fun w' => w'.cell? ⟨p, 1, none⟩ = some (.int .i64 r.n) ∧ w'.cell? ⟨p, 6, none⟩ = some (.int .u32 r.f.a) ∧ w'.cell? ⟨b, 0, none⟩ = some (.pointer (some ⟨p, 4, none⟩))) (ds := []) #[false, false, false, false, false, false, false, false, false, false, false] (by kernel_rfl) rfl rfl ⟨hc.out.drew.c1, hc.out.drew.c6, cell_of_heap (blk_drew hb.out) rfl⟩ (fun hHeld => ?_)
 refine pu_ 0 85 (mk 11 1) rfl rfl ?_
 refine pu_ 1 86 (mk 11 3) rfl rfl ?_
 refine pu_ 2 87 (mk 11 7) rfl rfl ?_
 refine tk3_ 3 88 (mk 11 15) rfl rfl hHeld ?_
 refine tk3_ 4 89 (mk 11 31) rfl rfl hHeld ?_
 refine pu_ 5 90 (mk 11 63) rfl rfl ?_
 refine pu_ 6 91 (mk 11 127) rfl rfl ?_
 refine tk3_ 7 92 (mk 11 255) rfl rfl hHeld ?_
 refine one_ (i := 8) (N := some 93) (mk 11 511) rfl rfl (by kernel_rfl) (by decide) (fun K hK => ?_)
 refine goes_ Tryz.func195 (by kernel_rfl) rfl #[.int .u32 r.f.a] (by rfl) rfl rfl (by simp only [List.map_toArray, List.map_cons, List.map_nil]; rfl) ?_
 with_reducible refine (mxother_walk r.f.a hc.out.ok.a _).mono ?_
 rintro e w1 ⟨rfl, rfl⟩
 refine ⟨_, rfl, ?_⟩
 refine hK.out _ _ ⟨hc.out.drew.c1, hc.out.drew.c6, cell_of_heap (blk_drew hb.out) rfl⟩ (fun hHeld => ?_)
 clear hK K
 refine nm_ ?_
 refine one_ (i := 9) (N := some 94) (mk 11 1023) rfl rfl (by kernel_rfl) (by decide) (fun K hK => ?_)
 refine goes_ Tryz.func192 (by kernel_rfl) rfl #[.agg #[.int .i64 r.n], .int .i64 (r.f.a - 1)] (by rfl) rfl rfl (by simp only [List.map_toArray, List.map_cons, List.map_nil]; rfl) ?_
 with_reducible refine (pblocked_walk r.n (r.f.a - 1) _).mono ?_
 rintro e w1 ⟨rfl, hb1⟩
 refine ⟨_, rfl, ?_⟩
 replace hb := Lib.hid (heap_below hb1 (blk_drew hb.out))
 replace hsb := Lib.hid (heap_below hb1 (blk_drew hsb.out))
 replace hc := Lib.hid (hc.out.drew.below hb1)
 clear hb1
 refine hK.out _ _ ⟨hc.out.c1, hc.out.c6, cell_of_heap hb.out rfl⟩ (fun hHeld => ?_)
 clear hK K
 refine nm_ ?_
 refine pu_ 10 13 (mk 11 2047) rfl rfl ?_
 refine done_ (by kernel_rfl) ?_
 clear c5 c6 c7 cb
 go_wp2_with (first
  | (go_at_call 154; (try clear c6); (try clear c7); go_must (refine store_step hc _ _ (by first | decide | exact w32_u32 _ | exact w32_pres _) ?_; intro w1 f1 hc c6 c7; replace hsb := Lib.hid (f1.keep hsb.out hs1.out hs2.out (by decide)); clear f1))
  | (go_at_call 197; go_must (refine (mxnoted_walk hc.out.at_ (by have := hc.out.few; omega) xs hxl.out hsb.out hsc.out hs1.out hs2.out).mono ?_; rintro e w2 ⟨rfl, hA2, hF2⟩; replace hc := Lib.hid (Car.noted hc.out hxl.out hA2 hF2); clear hA2 hF2; have c6 := hc.out.c6; have c7 := hc.out.c7))
  | (go_at_call 106; (try clear c6); (try clear c7); go_must (refine wake_step hc _ ?_; intro w1 f1 hc c6 c7; clear f1)))
 go_ret
 refine ⟨rfl, ?_, hc.out.fr⟩
 have s3 : r.f.line - a = 3 := by rw [hln.out]; omega
 unfold Mx.give
 simp only [s3]
 exact e87
theorem mxenter_lines (h : At B w p pm g r) (hO : Ok r) (hn : r.notes = []) (tail cls : Int) (hl : r.f.line = 0 ∨ r.f.line = 1 ∨ r.f.line = 2 ∨ r.f.line = 3 ∨ r.f.line = 4) : Calls Tryz.prog 159 #[.pointer (some ⟨p, 0, none⟩), .int .i64 tail, .int .i64 cls] w fun e w' => e = .returned (.bool (Mx.enter r tail cls).2) ∧ At B w' p pm g (Mx.enter r tail cls).1 ∧ Fr B p g w w' := by
 rcases hl with hl | hl | hl | hl | hl
 ·rw [show (Mx.enter r tail cls).2 = false by unfold Mx.enter; rw [hl]; rfl]
  exact mxe_0 h hO hn hl tail cls
 ·rw [show (Mx.enter r tail cls).2 = false by unfold Mx.enter; rw [hl]; rfl]
  exact mxe_1 h hO hn hl tail cls
 ·cases hz : ((r.swp tail (Mx.own r)).old == 0) with
  | true =>
   rw [show (Mx.enter r tail cls).2 = true by unfold Mx.enter; simp only [hl]; simp only [Int.reduceEq, and_true, true_and, and_self, and_false, false_and, if_true, if_false, or_false, false_or, or_true, true_or]; rw [if_pos (by exact beq_iff_eq.mp hz)]]
   exact mxe_2_t h hO hn hl tail cls hz
  | false =>
   rw [show (Mx.enter r tail cls).2 = false by unfold Mx.enter; simp only [hl]; simp only [Int.reduceEq, and_true, true_and, and_self, and_false, false_and, if_true, if_false, or_false, false_or, or_true, true_or]; rw [if_neg (by exact beq_eq_false_iff_ne.mp hz)]]
   exact mxe_2_f h hO hn hl tail cls hz
 ·rw [show (Mx.enter r tail cls).2 = false by unfold Mx.enter; rw [hl]; rfl]
  exact mxe_3 h hO hn hl tail cls
 ·have e : (Mx.enter r tail cls).2 = (r.waited (pblocked r.n r.task) (fun v => v == 0)).done := by unfold Mx.enter; rw [hl]; rfl
  rw [e]
  cases hs : (r.waited (pblocked r.n r.task) (fun v => v == 0)).seen <;> cases hd : (r.waited (pblocked r.n r.task) (fun v => v == 0)).done
  ·exact mxe_4_f_f h hO hn hl tail cls hs hd
  ·exact mxe_4_f_t h hO hn hl tail cls hs hd
  ·exact mxe_4_t_f h hO hn hl tail cls hs hd
  ·exact mxe_4_t_t h hO hn hl tail cls hs hd
theorem mxtry_lines (h : At B w p pm g r) (hO : Ok r) (hn : r.notes = []) (ha : 0 ≤ a ∧ a ≤ 20) (hl : r.f.line = a ∨ r.f.line = a + 1) : Calls Tryz.prog 161 #[.pointer (some ⟨p, 0, none⟩), .int .i64 tail, .int .i64 a] w fun e w' => e = .returned (.tuple #[.bool (Mx.try_ r tail a).2.1, .bool (Mx.try_ r tail a).2.2]) ∧ At B w' p pm g (Mx.try_ r tail a).1 ∧ Fr B p g w w' := by
 rcases hl with hl | hl
 ·have s : r.f.line - a = 0 := by omega
  have e : (Mx.try_ r tail a).2 = (false, false) := by unfold Mx.try_; rw [s]; rfl
  rw [e]
  exact mxt_0 h hO hn hl ha
 ·have s : r.f.line - a = 1 := by omega
  have e : (Mx.try_ r tail a).2 = (true, (r.cas tail 0 (Mx.own r)).hitCas 0) := by unfold Mx.try_; rw [s]; rfl
  rw [e]
  cases hk : (r.cas tail 0 (Mx.own r)).hitCas 0 with
  | true => exact mxt_1_t h hO hn hl ha hk
  | false => exact mxt_1_f h hO hn hl ha hk
theorem mxgive_lines (h : At B w p pm g r) (hO : Ok r) (hn : r.notes = []) (ha : 0 ≤ a ∧ a ≤ 20) (hxl : xs.length ≤ 5) (hsb : w.heap[sb]? = some (.cells cs 3 (0, 0))) (hsc : ∀ i, i < xs.length → cs[i]? = some (.int .i64 (xs.getD i 0))) (hs1 : sb ≠ p) (hs2 : sb ≠ g) (hl : r.f.line = a ∨ r.f.line = a + 1 ∨ r.f.line = a + 2 ∨ r.f.line = a + 3) : Calls Tryz.prog 160 #[.pointer (some ⟨p, 0, none⟩), .int .i64 tail, .int .i64 a, .slice (some ⟨sb, 0, none⟩) xs.length cap] w fun e w' => e = .returned (.bool (Mx.give r tail a xs).2) ∧ At B w' p pm g (Mx.give r tail a xs).1 ∧ Fr B p g w w' := by
 rcases hl with hl | hl | hl | hl
 ·have s : r.f.line - a = 0 := by omega
  rw [show (Mx.give r tail a xs).2 = false by unfold Mx.give; simp only [s]; simp only [Int.reduceEq, and_true, true_and, and_self, and_false, false_and, if_true, if_false, or_false, false_or, or_true, true_or]; split <;> rfl]
  cases hz : ((r.load (pnext r.n r.task)).old != 0) with
  | true => exact mxg_0_t h hO hn hl ha hxl hsb hsc hs1 hs2 hz
  | false => exact mxg_0_f h hO hn hl ha hxl hsb hsc hs1 hs2 hz
 ·have s : r.f.line - a = 1 := by omega
  cases hk : (r.cas tail (Mx.own r) 0).hitCas (Mx.own r) with
  | true =>
   rw [show (Mx.give r tail a xs).2 = true by unfold Mx.give; simp only [s]; simp only [Int.reduceEq, and_true, true_and, and_self, and_false, false_and, if_true, if_false, or_false, false_or, or_true, true_or]; rw [if_pos hk]]
   exact mxg_1_t h hO hn hl ha hxl hsb hsc hs1 hs2 hk
  | false =>
   rw [show (Mx.give r tail a xs).2 = false by unfold Mx.give; simp only [s]; simp only [Int.reduceEq, and_true, true_and, and_self, and_false, false_and, if_true, if_false, or_false, false_or, or_true, true_or]; rw [if_neg (by rw [hk]; decide)]]
   exact mxg_1_f h hO hn hl ha hxl hsb hsc hs1 hs2 hk
 ·have s : r.f.line - a = 2 := by omega
  rw [show (Mx.give r tail a xs).2 = false by unfold Mx.give; simp only [s]; simp only [Int.reduceEq, and_true, true_and, and_self, and_false, false_and, if_true, if_false, or_false, false_or, or_true, true_or]; split <;> rfl]
  cases hs : (r.waited (pnext r.n r.task) (fun v => v != 0)).seen <;> cases hd : (r.waited (pnext r.n r.task) (fun v => v != 0)).done
  ·exact mxg_2_f_f h hO hn hl ha hxl hsb hsc hs1 hs2 hs hd
  ·exact mxg_2_f_t h hO hn hl ha hxl hsb hsc hs1 hs2 hs hd
  ·exact mxg_2_t_f h hO hn hl ha hxl hsb hsc hs1 hs2 hs hd
  ·exact mxg_2_t_t h hO hn hl ha hxl hsb hsc hs1 hs2 hs hd
 ·have s : r.f.line - a = 3 := by omega
  rw [show (Mx.give r tail a xs).2 = true by unfold Mx.give; simp only [s]; simp only [Int.reduceEq, and_true, true_and, and_self, and_false, false_and, if_true, if_false, or_false, false_or, or_true, true_or]]
  exact mxg_3 h hO hn hl ha hxl hsb hsc hs1 hs2
end Go.Proofs.YtkmlefbdhdlfmaaGreat.Wo
