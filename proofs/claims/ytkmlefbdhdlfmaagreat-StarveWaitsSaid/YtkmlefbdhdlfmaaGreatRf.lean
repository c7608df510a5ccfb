/- The lines of readers-first: function by function, against the plain texts. -/
import Derived.Test.YtkmlefbdhdlfmaaGreatLn
import Derived.Test.YtkmlefbdhdlfmaaGreatValid
namespace Go.Proofs.YtkmlefbdhdlfmaaGreat.Wo
open Go.RowKit Go.Proofs.YtkmlefbdhdlfmaaGreatW.PrintWords Go.Proofs.YtkmlefbdhdlfmaaGreatW.PrintMore Go.Proofs.YtkmlefbdhdlfmaaGreatW.PrintLast
open Stile
set_option linter.unusedSimpArgs false
set_option linter.unusedVariables false
set_option maxRecDepth 100000
variable {w w1 w2 : World} {B p pm g : Nat} {r r1 : Run}
theorem e31 {P : Prop} (h : P := by
 go_wp2_with (go_at_call 125; refine (h _).mono ?_; rintro e w1 ⟨rfl, rfl⟩)
 go_ret
 exact ⟨rfl, rfl⟩) : P := h
theorem e32 {P : Prop} (h : P := by
 go_wp2_with (go_at_call 105; go_must (refine hN.mono ?_; rintro e w1 ⟨rfl, hA1, hF1⟩; replace hA1 := Lib.hid hA1; replace hF1 := Lib.hid hF1))
 go_end0
 exact ⟨rfl, hA1.out, hF1.out⟩) : P := h
theorem e33 {P : Prop} (h : P := by
 obtain ⟨hc, c4, c5, c6, c7⟩ := start h hO hn hop hln
 replace h := Lib.hid h
 replace hO := Lib.hid hO
 replace hn := Lib.hid hn
 replace hop := Lib.hid hop
 replace hln := Lib.hid hln
 replace hs := Lib.hid hs
 replace hd := Lib.hid hd
 go_enter Tryz.func75, Tryz.ntmps75
 go_upto_region 2 with (fail)
 go_quiet (fail)
 replace hc := Lib.hid (hc.out.drewN nq)
 go_wp2_with (first
  | (go_at_call 105; (try clear c6); (try clear c7); go_must (refine note_step hc _ _ (by decide) ?_; intro w1 f1 hc c6 c7; clear f1))
  | (go_at_call 107; (try clear c6); (try clear c7); go_must (refine end_step hc _ ?_; intro w1 f1 hc c6 c7; clear f1))
  | (go_at_call 101; (try clear c6); (try clear c7); go_must (refine wait_step hc _ (fun v => !Rf.inW v) tells_not1 _ _ hs.out hd.out ?_; intro w1 f1 hc c6 c7; clear f1)))
 first | go_end0 | ((try simp only [Exit.inBlock, Exit.then]); refine bodyPost_ret (results_none rfl _ _ _) rfl ?_)
 refine ⟨rfl, ?_, hc.out.fr⟩
 unfold Rf.lines
 simp only [hop.out, hln.out]
 simp only [Int.reduceEq, and_true, true_and, and_self, and_false, false_and, if_true, if_false, or_false, false_or, or_true, true_or]
 rw [show (r.waited 0 fun v => !Rf.inW v).seen = _ from hs.out, show (r.waited 0 fun v => !Rf.inW v).done = _ from hd.out]
 exact hc.out.at_) : P := h
theorem e34 {P : Prop} (h : P := by
 obtain ⟨hc, c4, c5, c6, c7⟩ := start h hO hn hop hln
 replace h := Lib.hid h
 replace hO := Lib.hid hO
 replace hn := Lib.hid hn
 replace hop := Lib.hid hop
 replace hln := Lib.hid hln
 go_enter Tryz.func75, Tryz.ntmps75
 go_upto_region 2 with (fail)
 go_quiet (fail)
 replace hc := Lib.hid (hc.out.drewN nq)
 go_wp2_with (first
  | (go_at_call 104; (try clear c6); (try clear c7); go_must (refine add_step hc _ _ (by first | decide | exact w32_u32 _ | exact w32_pres _) ?_; intro w1 f1 hc c6 c7; clear f1))
  | (go_at_call 126; (try clear c6); (try clear c7); go_must (refine rfend1_step hc (by decide) _ _ ?_; intro w1 f1 hc; clear f1)))
 exact e40) : P := h
theorem e39 {P : Prop} (h : P := by
 obtain ⟨hc, c4, c5, c6, c7⟩ := start h hO hn hop hln
 replace h := Lib.hid h
 replace hO := Lib.hid hO
 replace hn := Lib.hid hn
 replace hop := Lib.hid hop
 replace hln := Lib.hid hln
 replace hs := Lib.hid hs
 replace hd := Lib.hid hd
 go_enter Tryz.func75, Tryz.ntmps75
 go_upto_region 2 with (fail)
 go_quiet (fail)
 replace hc := Lib.hid (hc.out.drewN nq)
 go_wp2_with (first
  | (go_at_call 102; (try clear c6); (try clear c7); go_must (refine go_step hc _ ?_; intro w1 f1 hc c6 c7; clear f1))
  | (go_at_call 129; (try clear c6); (try clear c7); go_must (refine rfmk_step hc _ ?_; intro w1 bk f1 hc hT; clear f1))
  | (go_at_call 101; (try clear c6); (try clear c7); go_must (refine wait_step hc _ (fun v => v == 0) hT.out.1 _ _ hs.out hd.out ?_; intro w1 f1 hc c6 c7; clear f1)))
 first | go_end0 | ((try simp only [Exit.inBlock, Exit.then]); refine bodyPost_ret (results_none rfl _ _ _) rfl ?_)
 refine ⟨rfl, ?_, hc.out.fr⟩
 unfold Rf.lines
 exact e165) : P := h
theorem e40 {P : Prop} (h : P := by
 first | go_end0 | ((try simp only [Exit.inBlock, Exit.then]); refine bodyPost_ret (results_none rfl _ _ _) rfl ?_)
 refine ⟨rfl, ?_, hc.out.fr⟩
 unfold Rf.lines
 exact e45) : P := h
theorem e41 {P : Prop} (h : P := by
 first | go_end0 | ((try simp only [Exit.inBlock, Exit.then]); refine bodyPost_ret (results_none rfl _ _ _) rfl ?_)
 refine ⟨rfl, ?_, hc.out.fr⟩
 unfold Rf.tries
 exact e45) : P := h
theorem e42 {P : Prop} (h : P := by
 intro w2 f2 hc
 refine ⟨_, rfl, ?_⟩
 refine hK.out _ _ ?_
 clear hK K
 refine nm_ ?_
 refine done_ (by kernel_rfl) ?_
 go_wp2
 exact e41) : P := h
theorem e43 {P : Prop} (h : P := by
 first | go_end0 | ((try simp only [Exit.inBlock, Exit.then]); refine bodyPost_ret (results_none rfl _ _ _) rfl ?_)
 refine ⟨rfl, ?_, hc.out.fr.trans hF1⟩
 unfold Rf.lines
 exact e166) : P := h
theorem rfin_walk (v : Int) (hv : W32 v) (w : World) : Calls Tryz.prog 125 #[.int .u32 v] w fun e w' => e = .returned (.bool (Rf.inW v)) ∧ w' = w := by
 go_enter Tryz.func125, Tryz.ntmps125
 go_wp2
 go_ret
 exact ⟨by rw [show (bits BinOp.and IntKind.u32 v 65536 != 0) = Rf.inW v from and_bit16 v hv.1 hv.2]; rfl, rfl⟩
theorem rfnot1_walk (v : Int) (hv : W32 v) (w : World) : Calls Tryz.prog 127 #[.int .u32 v] w fun e w' => e = .returned (.bool (!Rf.inW v)) ∧ w' = w := by
 have h := rfin_walk v hv
 go_enter Tryz.func127, Tryz.ntmps127
 exact e31
theorem rfnot2_walk (v : Int) (hv : W32 v) (w : World) : Calls Tryz.prog 167 #[.int .u32 v] w fun e w' => e = .returned (.bool (!Rf.inW v)) ∧ w' = w := by
 have h := rfin_walk v hv
 go_enter Tryz.func167, Tryz.ntmps167
 exact e31
theorem rfis_walk (x v : Int) {k : Nat} (hk : w.heap[k]? = some (.cells #[.int .u32 x] 22 (0, 0))) : Calls Tryz.prog 165 #[.int .u32 v, .pointer (some ⟨k, 0, none⟩)] w fun e w' => e = .returned (.bool (v == x)) ∧ w' = w := by
 have c := cell_of_heap (j := 0) hk rfl
 replace hk := Lib.hid hk
 go_enter Tryz.func165, Tryz.ntmps165
 go_wp2
 go_ret
 exact ⟨rfl, rfl⟩
theorem rfmk_walk (x : Int) (w : World) : Calls Tryz.prog 129 #[.int .u32 x] w fun e w' => ∃ k, e = .returned (.func (.func 165) #[] #[.pointer (some ⟨k, 0, none⟩)]) ∧ w'.heap[k]? = some (.cells #[.int .u32 x] 22 (0, 0)) ∧ w.heap.size ≤ k ∧ Below w.heap.size w w' := by
 go_enter Tryz.func129, Tryz.ntmps129
 go_wp2
 go_ret
 exact ⟨w.heap.size, rfl, heap_alloc_new w _, Nat.le_refl _, below_alloc (Below.refl _ _) _⟩
theorem tells_not1 : Tells B p pm g r false (fun v => !Rf.inW v) 127 #[] w :=
 ⟨⟨_, Tryz.func127, rfl, rfl⟩, fun w1 v hv hf ha => (rfnot1_walk v hv w1).mono (by rintro e w2 ⟨rfl, rfl⟩; exact ⟨rfl, ha, Fr.refl _ _ _ _⟩)⟩
theorem tells_not2 : Tells B p pm g r false (fun v => !Rf.inW v) 167 #[] w :=
 ⟨⟨_, Tryz.func167, rfl, rfl⟩, fun w1 v hv hf ha => (rfnot2_walk v hv w1).mono (by rintro e w2 ⟨rfl, rfl⟩; exact ⟨rfl, ha, Fr.refl _ _ _ _⟩)⟩
theorem tells_is {x : Int} {k : Nat} (hk : w.heap[k]? = some (.cells #[.int .u32 x] 22 (0, 0))) (h1 : k ≠ p) (h2 : k ≠ g) : Tells B p pm g r false (fun v => v == x) 165 #[.pointer (some ⟨k, 0, none⟩)] w :=
 ⟨⟨_, Tryz.func165, rfl, rfl⟩, fun w1 v hv hf ha => (rfis_walk x v (hf.keep hk h1 h2 (by decide))).mono (by rintro e w2 ⟨rfl, rfl⟩; exact ⟨rfl, ha, Fr.refl _ _ _ _⟩)⟩
set_option maxHeartbeats 2000000 in
theorem rfend_walk (h : At B w p pm g r) (hn : r.notes.length ≤ 900) (wk : Bool) (xs : List Int) (hx : xs.length ≤ 5) {sb cap : Nat} {cs : Array Value} (hb : w.heap[sb]? = some (.cells cs 3 (0, 0))) (hc : ∀ i, i < xs.length → cs[i]? = some (.int .i64 (xs.getD i 0))) (h1 : sb ≠ p) (h2 : sb ≠ g) :
  Calls Tryz.prog 126 #[.pointer (some ⟨p, 0, none⟩), .bool wk, .slice (some ⟨sb, 0, none⟩) xs.length cap] w fun e w' => e = .returned (.tuple #[]) ∧ At B w' p pm g (Rf.end_ r wk xs) ∧ Fr B p g w w' := by
 have hE : Rf.end_ r wk xs = ((if wk then (notes_ r xs).wake 0 else notes_ r xs).fin true) := rfl
 rw [hE]
 clear hE
 obtain ⟨n, hnx⟩ : ∃ n, n = xs.length := ⟨_, rfl⟩
 rw [← hnx]
 have hn100 : n ≤ 100 := by omega
 replace h := Lib.hid h
 replace hn := Lib.hid hn
 replace hb := Lib.hid hb
 replace hc := Lib.hid hc
 replace hnx := Lib.hid hnx
 replace hx := Lib.hid hx
 go_enter Tryz.func126, Tryz.ntmps126
 go_wp2
 go_loopw [10] (fun i wr => ∃ k : Nat, k ≤ n ∧ i = .int .i64 k ∧ Hid (At B wr p pm g (notes_ r (xs.take k))) ∧ Hid (Fr B p g w wr)) (fun i _ => n - (intOf i).toNat)
 case atStart => exact ⟨0, Nat.zero_le _, rfl, h.out, Fr.refl _ _ _ _⟩
 case round =>
  obtain ⟨k, hk, rfl, hA, hF⟩ := hrel
  by_cases hlt : k < n
  ·have hl2 : k < xs.length := by rw [← hnx.out]; exact hlt
   have he := cell_of_heap (hF.out.keep hb.out h1 h2 (by decide)) (hc.out k hl2)
   have hlen : (notes_ r (xs.take k)).notes.length ≤ 1000 := by
    rw [notes_len, List.length_take]
    have := hn.out; have := hx.out; omega
   have hs := notes_snoc r xs k hl2
   obtain ⟨x, hxx⟩ : ∃ x, x = xs.getD k 0 := ⟨_, rfl⟩
   rw [← hxx] at hs he
   clear hxx
   replace hs := Lib.hid hs
   replace hl2 := Lib.hid hl2
   replace hlen := Lib.hid hlen
   go_wp2_with (go_at_call 105; refine (note_run hA.out _ _ hlen.out).mono ?_; rintro e w1 ⟨rfl, hA1, hF1⟩; rw [← hs.out] at hA1; replace hA1 := Lib.hid hA1; replace hF1 := Lib.hid (hF.out.trans hF1))
   go_roundw
   case rel => exact ⟨k + 1, by omega, by go_num, hA1, hF1⟩
   case measure => simp [intOf]; omega
  ·obtain rfl : k = n := by omega
   have ht : xs.take k = xs := List.take_of_length_le (by rw [← hnx.out]; exact Nat.le_refl _)
   rw [ht] at hA
   clear ht
   cases wk with
   | true =>
    go_wp2_with (first
     | (go_at_call 106; refine (wake_run hA.out _).mono ?_; rintro e w1 ⟨rfl, hA1, hF1⟩; replace hA1 := Lib.hid hA1; replace hF1 := Lib.hid (hF.out.trans hF1))
     | (go_at_call 107; refine (end_run hA1.out _).mono ?_; rintro e w1 ⟨rfl, hA2, hF2⟩; replace hA2 := Lib.hid hA2; replace hF2 := Lib.hid (hF1.out.trans hF2)))
    first | go_end0 | ((try simp only [Exit.inBlock, Exit.then]); refine bodyPost_ret (results_none rfl _ _ _) rfl ?_)
    exact ⟨rfl, hA2.out, hF2.out⟩
   | false =>
    go_wp2_with (go_at_call 107; refine (end_run hA.out _).mono ?_; rintro e w1 ⟨rfl, hA2, hF2⟩; replace hA2 := Lib.hid hA2; replace hF2 := Lib.hid (hF.out.trans hF2))
    first | go_end0 | ((try simp only [Exit.inBlock, Exit.then]); refine bodyPost_ret (results_none rfl _ _ _) rfl ?_)
    exact ⟨rfl, hA2.out, hF2.out⟩
theorem rfend1_step {w0 : World} {m : Nat} {Q : Ending → World → Prop} (h : Hid (Car B w0 w p pm g r m)) (hm : m ≤ 900) (wk : Bool) (x : Int) (k : ∀ w1, Fr B p g w w1 → Hid (Car B w0 w1 p pm g (Rf.end_ r wk [x]) (m + 1)) → Q (.returned (.tuple #[])) w1) :
  Calls Tryz.prog 126 #[.pointer (some ⟨p, 0, none⟩), .bool wk, .slice (some ⟨w.heap.size, 0, none⟩) 1 1] (w.alloc (.cells #[.int .i64 x] 3)) Q := by
 have h := h.out
 have h1 := h.at_.lt
 have h2 := h.at_.mem.lt.2
 have h3 := h.few
 refine (rfend_walk (h.at_.alloc (.cells #[.int .i64 x] 3)) (by omega) wk [x] (by simp) (heap_alloc_new _ _) (by intro i hi; obtain rfl : i = 0 := (by simp at hi; exact hi); rfl) (by omega) (by omega)).mono ?_
 rintro e w1 ⟨rfl, ha, hf⟩
 have hf := ((Fr.refl B p g w).alloc (.cells #[.int .i64 x] 3)).trans hf
 exact k w1 hf (h.to ha hf (ok_end h.ok wk [x]) (by rw [end_len]; simp; exact h3))
theorem rfend2_step {w0 : World} {m : Nat} {Q : Ending → World → Prop} (h : Hid (Car B w0 w p pm g r m)) (hm : m ≤ 900) (wk : Bool) (x y : Int) (k : ∀ w1, Fr B p g w w1 → Hid (Car B w0 w1 p pm g (Rf.end_ r wk [x, y]) (m + 2)) → Q (.returned (.tuple #[])) w1) :
  Calls Tryz.prog 126 #[.pointer (some ⟨p, 0, none⟩), .bool wk, .slice (some ⟨w.heap.size, 0, none⟩) 2 2] (w.alloc (.cells #[.int .i64 x, .int .i64 y] 3)) Q := by
 have h := h.out
 have h1 := h.at_.lt
 have h2 := h.at_.mem.lt.2
 have h3 := h.few
 refine (rfend_walk (h.at_.alloc (.cells #[.int .i64 x, .int .i64 y] 3)) (by omega) wk [x, y] (by simp) (heap_alloc_new _ _) (by intro i hi; rcases (by simp at hi; omega : i = 0 ∨ i = 1) with rfl | rfl <;> rfl) (by omega) (by omega)).mono ?_
 rintro e w1 ⟨rfl, ha, hf⟩
 have hf := ((Fr.refl B p g w).alloc (.cells #[.int .i64 x, .int .i64 y] 3)).trans hf
 exact k w1 hf (h.to ha hf (ok_end h.ok wk [x, y]) (by rw [end_len]; simp; exact h3))
theorem rfrefuse_walk (h : At B w p pm g r) (hn : r.notes.length ≤ 900) : Calls Tryz.prog 201 #[.pointer (some ⟨p, 0, none⟩)] w fun e w' => e = .returned (.tuple #[]) ∧ At B w' p pm g (Rf.refuse r) ∧ Fr B p g w w' := by
 have hA := Lib.hid h
 have hF := Lib.hid (Fr.refl B p g w)
 have hN : r.notes.length ≤ 1000 := by omega
 replace h := Lib.hid h
 replace hn := Lib.hid hn
 replace hN := Lib.hid hN
 go_enter Tryz.func201, Tryz.ntmps201
 go_wp2_with (first
  | (go_at_call 105; go_must (refine (note_run hA.out _ _ hN.out).mono ?_; rintro e w1 ⟨rfl, hA1, hF1⟩; replace hF := Lib.hid (hF.out.trans hF1); replace hA := Lib.hid hA1; clear hF1))
  | (go_at_call 107; go_must (refine (end_run hA.out _).mono ?_; rintro e w1 ⟨rfl, hA1, hF1⟩; replace hF := Lib.hid (hF.out.trans hF1); replace hA := Lib.hid hA1; clear hF1)))
 go_end0
 exact ⟨rfl, hA.out, hF.out⟩
def seenA (r : Run) (c : Int) : Run := (r.load c).setA (r.load c).old
set_option maxHeartbeats 2000000 in
theorem rfchoose_walk (h : At B w p pm g r) (hO : Ok r) (hn : r.notes.length ≤ 800) (may : Int → Bool) (kf : Nat) (caps : Array Value) (hT : Tells B p pm g (seenA r 0) false may kf caps w) : Calls Tryz.prog 166 #[.pointer (some ⟨p, 0, none⟩), .func (.func kf) #[] caps] w fun e w' => e = .returned (.tuple #[]) ∧ At B w' p pm g (Rf.choose r may) ∧ Fr B p g w w' := by
 have hA := Lib.hid h
 have hF := Lib.hid (Fr.refl B p g w)
 have hr : Rf.choose r may = if may (r.load 0).old then (seenA r 0).go 1 else Rf.refuse (seenA r 0) := rfl
 rw [hr]
 clear hr
 have hN : (seenA r 0).notes.length ≤ 900 := by show r.notes.length ≤ 900; omega
 have h32 : W32 (r.load 0).old := (hO.load 0).old
 obtain ⟨v, hv⟩ : ∃ v, v = (r.load 0).old := ⟨_, rfl⟩
 have hl := fun W' (hW' : At B W' p pm g r) => load_run hW' 0
 have hs : (r.load 0).setA v = seenA r 0 := by rw [hv]; rfl
 rw [← hv] at hl h32 ⊢
 obtain ⟨m, hm⟩ : ∃ m, m = may v := ⟨_, rfl⟩
 rw [← hm]
 replace h := Lib.hid h
 replace hO := Lib.hid hO
 replace hn := Lib.hid hn
 replace hN := Lib.hid hN
 replace h32 := Lib.hid h32
 replace hv := Lib.hid hv
 replace hs := Lib.hid hs
 replace hl := Lib.hid hl
 replace hT := Lib.hid hT
 replace hm := Lib.hid hm
 go_enter Tryz.func166, Tryz.ntmps166
 cases m with
 | true =>
  go_wp2_with (first
   | (go_at_call 112; go_must (refine (hl.out _ hA.out).mono ?_; rintro e w1 ⟨rfl, hA1, hF1⟩; replace hF := Lib.hid (hF.out.trans hF1); replace hA := Lib.hid hA1; clear hF1))
   | ((with_reducible refine gate_store rfl ?_); refine store_A rfl rfl rfl rfl rfl hA.out ?_; intro w1 hA1 hF1; rw [hs.out] at hA1; replace hF := Lib.hid (hF.out.trans hF1); replace hA := Lib.hid hA1; clear hF1; have c6 := hA.out.cell 6 (v := .int .u32 v) (fun _ => by rw [hv.out]; rfl))
   | ((with_reducible refine gate_dst (N := 16) rfl ?_); go_must (refine goesV_ (some 16) rfl rfl (kf := kf) (caps := caps) rfl hT.out.1 #[.int .u32 v] rfl (by simp only [List.map_toArray, List.map_cons, List.map_nil]; rfl) ?_; refine (hT.out.2 _ v h32.out hF.out hA.out).mono ?_; rintro e w1 ⟨rfl, hA1, hF1⟩; rw [kept_false] at hA1; rw [← hm.out]; refine ⟨_, rfl, ?_⟩; replace hF := Lib.hid (hF.out.trans hF1); replace hA := Lib.hid hA1; clear hF1; clear c6))
   | (go_at_call 102; go_must (refine (go_run hA.out _).mono ?_; rintro e w1 ⟨rfl, hA1, hF1⟩; replace hF := Lib.hid (hF.out.trans hF1); replace hA := Lib.hid hA1; clear hF1))
   | (go_at_call 201; go_must (refine (rfrefuse_walk hA.out hN.out).mono ?_; rintro e w1 ⟨rfl, hA1, hF1⟩; replace hF := Lib.hid (hF.out.trans hF1); replace hA := Lib.hid hA1; clear hF1)))
  first | go_end0 | ((try simp only [Exit.inBlock, Exit.then]); refine bodyPost_ret (results_none rfl _ _ _) rfl ?_)
  exact ⟨rfl, hA.out, hF.out⟩
 | false =>
  go_wp2_with (first
   | (go_at_call 112; go_must (refine (hl.out _ hA.out).mono ?_; rintro e w1 ⟨rfl, hA1, hF1⟩; replace hF := Lib.hid (hF.out.trans hF1); replace hA := Lib.hid hA1; clear hF1))
   | ((with_reducible refine gate_store rfl ?_); refine store_A rfl rfl rfl rfl rfl hA.out ?_; intro w1 hA1 hF1; rw [hs.out] at hA1; replace hF := Lib.hid (hF.out.trans hF1); replace hA := Lib.hid hA1; clear hF1; have c6 := hA.out.cell 6 (v := .int .u32 v) (fun _ => by rw [hv.out]; rfl))
   | ((with_reducible refine gate_dst (N := 16) rfl ?_); go_must (refine goesV_ (some 16) rfl rfl (kf := kf) (caps := caps) rfl hT.out.1 #[.int .u32 v] rfl (by simp only [List.map_toArray, List.map_cons, List.map_nil]; rfl) ?_; refine (hT.out.2 _ v h32.out hF.out hA.out).mono ?_; rintro e w1 ⟨rfl, hA1, hF1⟩; rw [kept_false] at hA1; rw [← hm.out]; refine ⟨_, rfl, ?_⟩; replace hF := Lib.hid (hF.out.trans hF1); replace hA := Lib.hid hA1; clear hF1; clear c6))
   | (go_at_call 102; go_must (refine (go_run hA.out _).mono ?_; rintro e w1 ⟨rfl, hA1, hF1⟩; replace hF := Lib.hid (hF.out.trans hF1); replace hA := Lib.hid hA1; clear hF1))
   | (go_at_call 201; go_must (refine (rfrefuse_walk hA.out hN.out).mono ?_; rintro e w1 ⟨rfl, hA1, hF1⟩; replace hF := Lib.hid (hF.out.trans hF1); replace hA := Lib.hid hA1; clear hF1)))
  first | go_end0 | ((try simp only [Exit.inBlock, Exit.then]); refine bodyPost_ret (results_none rfl _ _ _) rfl ?_)
  exact ⟨rfl, hA.out, hF.out⟩
set_option maxHeartbeats 2000000 in
theorem rfswap_walk (h : At B w p pm g r) (hn : r.notes.length ≤ 800) (x y note : Int) (first : Run → Run) (kf : Nat) (caps : Array Value) (hfn : ∃ fn, Tryz.prog.funcs[kf]? = some fn ∧ (fn.name == "runtime.NumGoroutine") = false ∧ fn.body.isSome = true)
  (hf : ∀ W, Fr B p g w W → At B W p pm g (r.cas 0 x y) → Calls Tryz.prog kf caps W fun e w' => e = .returned (.tuple #[]) ∧ At B w' p pm g (first (r.cas 0 x y)) ∧ Fr B p g W w') (hn2 : (first (r.cas 0 x y)).notes.length ≤ 900) :
  Calls Tryz.prog 168 #[.pointer (some ⟨p, 0, none⟩), .int .u32 x, .int .u32 y, .func (.func kf) #[] caps, .int .i64 note] w fun e w' => e = .returned (.tuple #[]) ∧ At B w' p pm g (Rf.swap r x y first note) ∧ Fr B p g w w' := by
 have hA := Lib.hid h
 have hF := Lib.hid (Fr.refl B p g w)
 have hr : Rf.swap r x y first note = if (r.cas 0 x y).hitCas x then Rf.end_ (first (r.cas 0 x y)) false [note] else (r.cas 0 x y).go 0 := rfl
 rw [hr]
 clear hr
 obtain ⟨m, hm⟩ : ∃ m, m = (r.cas 0 x y).hitCas x := ⟨_, rfl⟩
 have hc := fun W' (hW' : At B W' p pm g r) => cas_run hW' 0 x y
 rw [← hm] at hc ⊢
 replace h := Lib.hid h
 replace hn := Lib.hid hn
 replace hn2 := Lib.hid hn2
 replace hc := Lib.hid hc
 replace hf := Lib.hid hf
 replace hfn := Lib.hid hfn
 replace hm := Lib.hid hm
 go_enter Tryz.func168, Tryz.ntmps168
 cases m with
 | true =>
  go_wp2_with (first
   | (go_at_call 128; go_must (refine (hc.out _ hA.out).mono ?_; rintro e w1 ⟨rfl, hA1, hF1⟩; replace hF := Lib.hid (hF.out.trans hF1); replace hA := Lib.hid hA1; clear hF1))
   | ((with_reducible refine gate_dst (N := 18) rfl ?_); go_must (refine goesV_ (some 18) rfl rfl (kf := kf) (caps := caps) rfl hfn.out #[] rfl (by simp) ?_; rw [show (#[] : Array Value) ++ caps = caps from by simp]; refine (hf.out _ hF.out hA.out).mono ?_; rintro e w1 ⟨rfl, hA1, hF1⟩; refine ⟨_, rfl, ?_⟩; replace hF := Lib.hid (hF.out.trans hF1); replace hA := Lib.hid hA1; clear hF1))
   | (go_at_call 102; go_must (refine (go_run hA.out _).mono ?_; rintro e w1 ⟨rfl, hA1, hF1⟩; replace hF := Lib.hid (hF.out.trans hF1); replace hA := Lib.hid hA1; clear hF1))
   | (go_at_call 126; go_must (refine (rfend_walk (hA.out.alloc (.cells #[.int .i64 note] 3)) hn2.out false [note] (by simp) (heap_alloc_new _ _) (by intro i hi; obtain rfl : i = 0 := (by simp at hi; exact hi); rfl) (by have := hA.out.lt; omega) (by have := hA.out.mem.lt.2; omega)).mono ?_; rintro e w1 ⟨rfl, hA1, hF1⟩; replace hF := Lib.hid ((hF.out.alloc _).trans hF1); replace hA := Lib.hid hA1; clear hF1)))
  first | go_end0 | ((try simp only [Exit.inBlock, Exit.then]); refine bodyPost_ret (results_none rfl _ _ _) rfl ?_)
  exact ⟨rfl, hA.out, hF.out⟩
 | false =>
  go_wp2_with (first
   | (go_at_call 128; go_must (refine (hc.out _ hA.out).mono ?_; rintro e w1 ⟨rfl, hA1, hF1⟩; replace hF := Lib.hid (hF.out.trans hF1); replace hA := Lib.hid hA1; clear hF1))
   | ((with_reducible refine gate_dst (N := 18) rfl ?_); go_must (refine goesV_ (some 18) rfl rfl (kf := kf) (caps := caps) rfl hfn.out #[] rfl (by simp) ?_; rw [show (#[] : Array Value) ++ caps = caps from by simp]; refine (hf.out _ hF.out hA.out).mono ?_; rintro e w1 ⟨rfl, hA1, hF1⟩; refine ⟨_, rfl, ?_⟩; replace hF := Lib.hid (hF.out.trans hF1); replace hA := Lib.hid hA1; clear hF1))
   | (go_at_call 102; go_must (refine (go_run hA.out _).mono ?_; rintro e w1 ⟨rfl, hA1, hF1⟩; replace hF := Lib.hid (hF.out.trans hF1); replace hA := Lib.hid hA1; clear hF1))
   | (go_at_call 126; go_must (refine (rfend_walk (hA.out.alloc (.cells #[.int .i64 note] 3)) hn2.out false [note] (by simp) (heap_alloc_new _ _) (by intro i hi; obtain rfl : i = 0 := (by simp at hi; exact hi); rfl) (by have := hA.out.lt; omega) (by have := hA.out.mem.lt.2; omega)).mono ?_; rintro e w1 ⟨rfl, hA1, hF1⟩; replace hF := Lib.hid ((hF.out.alloc _).trans hF1); replace hA := Lib.hid hA1; clear hF1)))
  first | go_end0 | ((try simp only [Exit.inBlock, Exit.then]); refine bodyPost_ret (results_none rfl _ _ _) rfl ?_)
  exact ⟨rfl, hA.out, hF.out⟩
theorem rffirst1_walk (h : At B w p pm g r) (hn : r.notes.length ≤ 900) {b : Nat} (hb : w.heap[b]? = some (.cells #[.pointer (some ⟨p, 0, none⟩)] 164 (0, 0))) : Calls Tryz.prog 169 #[.pointer (some ⟨b, 0, none⟩)] w fun e w' => e = .returned (.tuple #[]) ∧ At B w' p pm g (r.note 2 1) ∧ Fr B p g w w' := by
 have c := cell_of_heap (j := 0) hb rfl
 have hN := note_run h 2 1 (by omega)
 replace h := Lib.hid h
 replace hn := Lib.hid hn
 replace hb := Lib.hid hb
 go_enter Tryz.func169, Tryz.ntmps169
 exact e32
theorem rffirst2_walk (h : At B w p pm g r) (hn : r.notes.length ≤ 900) {b : Nat} (hb : w.heap[b]? = some (.cells #[.pointer (some ⟨p, 0, none⟩)] 164 (0, 0))) : Calls Tryz.prog 170 #[.pointer (some ⟨b, 0, none⟩)] w fun e w' => e = .returned (.tuple #[]) ∧ At B w' p pm g (r.note 2 2) ∧ Fr B p g w w' := by
 have c := cell_of_heap (j := 0) hb rfl
 have hN := note_run h 2 2 (by omega)
 replace h := Lib.hid h
 replace hn := Lib.hid hn
 replace hb := Lib.hid hb
 go_enter Tryz.func170, Tryz.ntmps170
 exact e32
theorem rffirst0_walk (h : At B w p pm g r) : Calls Tryz.prog 171 #[] w fun e w' => e = .returned (.tuple #[]) ∧ At B w' p pm g r ∧ Fr B p g w w' := by
 replace h := Lib.hid h
 go_enter Tryz.func171, Tryz.ntmps171
 go_wp2
 go_end0
 exact ⟨rfl, h.out, Fr.refl _ _ _ _⟩
theorem ok_rfchoose (h : Ok r) (may : Int → Bool) : Ok (Rf.choose r may) := by
 show Ok (if may (r.load 0).old then (seenA r 0).go 1 else Rf.refuse (seenA r 0))
 have hs : Ok (seenA r 0) := (h.load 0).setA (h.load 0).old
 split
 ·exact hs.go 1
 ·exact (hs.note 5 0).fin false
theorem len_rfchoose (r : Run) (may : Int → Bool) : (Rf.choose r may).notes.length ≤ r.notes.length + 1 := by
 show (if may (r.load 0).old then (seenA r 0).go 1 else Rf.refuse (seenA r 0)).notes.length ≤ _
 split
 ·show r.notes.length ≤ _
  omega
 ·show ((seenA r 0).note 5 0).notes.length ≤ _
  rw [n_note]
  exact Nat.le_refl _
theorem rfchoose_step {w0 : World} {m : Nat} {Q : Ending → World → Prop} (h : Hid (Car B w0 w p pm g r m)) (hm : m ≤ 800) {kf : Nat} {caps : Array Value} (may : Int → Bool) (hT : Tells B p pm g (seenA r 0) false may kf caps w) (k : ∀ w1, Fr B p g w w1 → Hid (Car B w0 w1 p pm g (Rf.choose r may) (m + 1)) → Q (.returned (.tuple #[])) w1) :
  Calls Tryz.prog 166 #[.pointer (some ⟨p, 0, none⟩), .func (.func kf) #[] caps] w Q := by
 have h := h.out
 have h3 := h.few
 refine (rfchoose_walk h.at_ h.ok (by omega) may kf caps hT).mono ?_
 rintro e w1 ⟨rfl, ha, hf⟩
 exact k w1 hf (h.to ha hf (ok_rfchoose h.ok may) (by have := len_rfchoose r may; omega))
theorem rfswap_step {w0 : World} {m : Nat} {Q : Ending → World → Prop} (h : Hid (Car B w0 w p pm g r m)) (hm : m ≤ 800) (x y note : Int) (hx : W32 x) (hy : W32 y) (first : Run → Run) {kf : Nat} {caps : Array Value} (hfn : ∃ fn, Tryz.prog.funcs[kf]? = some fn ∧ (fn.name == "runtime.NumGoroutine") = false ∧ fn.body.isSome = true)
  (hf : ∀ W, Fr B p g w W → At B W p pm g (r.cas 0 x y) → Calls Tryz.prog kf caps W fun e w' => e = .returned (.tuple #[]) ∧ At B w' p pm g (first (r.cas 0 x y)) ∧ Fr B p g W w') (hn2 : (first (r.cas 0 x y)).notes.length ≤ m + 1) (hok : Ok (first (r.cas 0 x y)))
  (k : ∀ w1, Fr B p g w w1 → Hid (Car B w0 w1 p pm g (Rf.swap r x y first note) (m + 2)) → Q (.returned (.tuple #[])) w1) :
  Calls Tryz.prog 168 #[.pointer (some ⟨p, 0, none⟩), .int .u32 x, .int .u32 y, .func (.func kf) #[] caps, .int .i64 note] w Q := by
 have h := h.out
 have h3 := h.few
 refine (rfswap_walk h.at_ (by omega) x y note first kf caps hfn hf (by omega)).mono ?_
 rintro e w1 ⟨rfl, ha, hfr⟩
 refine k w1 hfr (h.to ha hfr ?_ ?_)
 ·show Ok (if (r.cas 0 x y).hitCas x then Rf.end_ (first (r.cas 0 x y)) false [note] else (r.cas 0 x y).go 0)
  split
  ·exact ok_end hok false [note]
  ·exact (h.ok.cas 0 hx hy).go 0
 ·show (if (r.cas 0 x y).hitCas x then Rf.end_ (first (r.cas 0 x y)) false [note] else (r.cas 0 x y).go 0).notes.length ≤ _
  split
  ·rw [end_len]
   simp
   omega
  ·show r.notes.length ≤ _
   omega
theorem rfmk_step {w0 : World} {m : Nat} {Q : Ending → World → Prop} (h : Hid (Car B w0 w p pm g r m)) (x : Int) (k : ∀ w1 b, Fr B p g w w1 → Hid (Car B w0 w1 p pm g r m) → Hid (Tells B p pm g r false (fun v => v == x) 165 #[.pointer (some ⟨b, 0, none⟩)] w1 ∧ ∀ r', Tells B p pm g r' false (fun v => v == x) 165 #[.pointer (some ⟨b, 0, none⟩)] w1) → Q (.returned (.func (.func 165) #[] #[.pointer (some ⟨b, 0, none⟩)])) w1) : Calls Tryz.prog 129 #[.int .u32 x] w Q := by
 have h := h.out
 refine (rfmk_walk x w).mono ?_
 rintro e w1 ⟨b, rfl, hk, hks, hb1⟩
 have h1 := h.at_.lt
 have h2 := h.at_.mem.lt.2
 exact k w1 b (Fr.of_below hb1) (h.below hb1) ⟨tells_is hk (by omega) (by omega), fun r' => tells_is hk (by omega) (by omega)⟩
set_option maxHeartbeats 4000000 in
theorem rf_1_0_in (h : At B w p pm g r) (hO : Ok r) (hn : r.notes = []) (hop : r.f.op = 1) (hln : r.f.line = 0) (hin : Rf.inW (r.add 0 1).old = true) : Calls Tryz.prog 75 #[.pointer (some ⟨p, 0, none⟩)] w fun e w' => e = .returned (.tuple #[]) ∧ At B w' p pm g (Rf.lines r) ∧ Fr B p g w w' := by
 obtain ⟨hc, c4, c5, c6, c7⟩ := start h hO hn hop hln
 replace h := Lib.hid h
 replace hO := Lib.hid hO
 replace hn := Lib.hid hn
 replace hop := Lib.hid hop
 replace hln := Lib.hid hln
 replace hin := Lib.hid hin
 go_enter Tryz.func75, Tryz.ntmps75
 go_upto_region 2 with (fail)
 go_quiet (fail)
 replace hc := Lib.hid (hc.out.drewN nq)
 go_wp2_with (first
  | (go_at_call 104; (try clear c6); (try clear c7); go_must (refine add_step hc _ _ (by first | decide | exact w32_u32 _ | exact w32_pres _) ?_; intro w1 f1 hc c6 c7; clear f1))
  | ((with_reducible refine gate_store rfl ?_); refine stA_step hc rfl rfl rfl rfl rfl rfl ?_; clear c6 c7; intro w1 f1 hc c6 c7; clear f1)
  | (go_at_call 105; (try clear c6); (try clear c7); go_must (refine note_step hc _ _ (by decide) ?_; intro w1 f1 hc c6 c7; clear f1))
  | (go_at_call 102; (try clear c6); (try clear c7); go_must (refine go_step hc _ ?_; intro w1 f1 hc c6 c7; clear f1))
  | (go_at_call 125; go_must (refine (rfin_walk ((r.add 0 1).old) hc.out.ok.a _).mono ?_; rintro e w1 ⟨rfl, rfl⟩; rw [hin.out])))
 first | go_end0 | ((try simp only [Exit.inBlock, Exit.then]); refine bodyPost_ret (results_none rfl _ _ _) rfl ?_)
 refine ⟨rfl, ?_, hc.out.fr⟩
 unfold Rf.lines
 simp only [hop.out, hln.out]
 simp only [Int.reduceEq, and_true, true_and, and_self, and_false, false_and, if_true, if_false, or_false, false_or, or_true, true_or]
 rw [if_pos (by exact hin.out)]
 exact hc.out.at_
set_option maxHeartbeats 4000000 in
theorem rf_1_0_no (h : At B w p pm g r) (hO : Ok r) (hn : r.notes = []) (hop : r.f.op = 1) (hln : r.f.line = 0) (hin : Rf.inW (r.add 0 1).old = false) : Calls Tryz.prog 75 #[.pointer (some ⟨p, 0, none⟩)] w fun e w' => e = .returned (.tuple #[]) ∧ At B w' p pm g (Rf.lines r) ∧ Fr B p g w w' := by
 obtain ⟨hc, c4, c5, c6, c7⟩ := start h hO hn hop hln
 replace h := Lib.hid h
 replace hO := Lib.hid hO
 replace hn := Lib.hid hn
 replace hop := Lib.hid hop
 replace hln := Lib.hid hln
 replace hin := Lib.hid hin
 go_enter Tryz.func75, Tryz.ntmps75
 go_upto_region 2 with (fail)
 go_quiet (fail)
 replace hc := Lib.hid (hc.out.drewN nq)
 go_wp2_with (first
  | (go_at_call 104; (try clear c6); (try clear c7); go_must (refine add_step hc _ _ (by first | decide | exact w32_u32 _ | exact w32_pres _) ?_; intro w1 f1 hc c6 c7; clear f1))
  | ((with_reducible refine gate_store rfl ?_); refine stA_step hc rfl rfl rfl rfl rfl rfl ?_; clear c6 c7; intro w1 f1 hc c6 c7; clear f1)
  | (go_at_call 105; (try clear c6); (try clear c7); go_must (refine note_step hc _ _ (by decide) ?_; intro w1 f1 hc c6 c7; clear f1))
  | (go_at_call 125; go_must (refine (rfin_walk ((r.add 0 1).old) hc.out.ok.a _).mono ?_; rintro e w1 ⟨rfl, rfl⟩; rw [hin.out]))
  | (go_at_call 126; (try clear c6); (try clear c7); go_must (refine rfend1_step hc (by decide) _ _ ?_; intro w1 f1 hc; clear f1)))
 first | go_end0 | ((try simp only [Exit.inBlock, Exit.then]); refine bodyPost_ret (results_none rfl _ _ _) rfl ?_)
 refine ⟨rfl, ?_, hc.out.fr⟩
 unfold Rf.lines
 simp only [hop.out, hln.out]
 simp only [Int.reduceEq, and_true, true_and, and_self, and_false, false_and, if_true, if_false, or_false, false_or, or_true, true_or]
 rw [if_neg (by intro k; exact absurd (hin.out.symm.trans k) (by decide))]
 exact hc.out.at_
set_option maxHeartbeats 4000000 in
theorem rf_1_1_t_t (h : At B w p pm g r) (hO : Ok r) (hn : r.notes = []) (hop : r.f.op = 1) (hln : r.f.line = 1) (hs : (r.waited 0 (fun v => !Rf.inW v)).seen = true) (hd : (r.waited 0 (fun v => !Rf.inW v)).done = true) : Calls Tryz.prog 75 #[.pointer (some ⟨p, 0, none⟩)] w fun e w' => e = .returned (.tuple #[]) ∧ At B w' p pm g (Rf.lines r) ∧ Fr B p g w w' := e33
set_option maxHeartbeats 4000000 in
theorem rf_1_1_t_f (h : At B w p pm g r) (hO : Ok r) (hn : r.notes = []) (hop : r.f.op = 1) (hln : r.f.line = 1) (hs : (r.waited 0 (fun v => !Rf.inW v)).seen = true) (hd : (r.waited 0 (fun v => !Rf.inW v)).done = false) : Calls Tryz.prog 75 #[.pointer (some ⟨p, 0, none⟩)] w fun e w' => e = .returned (.tuple #[]) ∧ At B w' p pm g (Rf.lines r) ∧ Fr B p g w w' := e33
set_option maxHeartbeats 4000000 in
theorem rf_1_1_f_t (h : At B w p pm g r) (hO : Ok r) (hn : r.notes = []) (hop : r.f.op = 1) (hln : r.f.line = 1) (hs : (r.waited 0 (fun v => !Rf.inW v)).seen = false) (hd : (r.waited 0 (fun v => !Rf.inW v)).done = true) : Calls Tryz.prog 75 #[.pointer (some ⟨p, 0, none⟩)] w fun e w' => e = .returned (.tuple #[]) ∧ At B w' p pm g (Rf.lines r) ∧ Fr B p g w w' := e33
set_option maxHeartbeats 4000000 in
theorem rf_1_1_f_f (h : At B w p pm g r) (hO : Ok r) (hn : r.notes = []) (hop : r.f.op = 1) (hln : r.f.line = 1) (hs : (r.waited 0 (fun v => !Rf.inW v)).seen = false) (hd : (r.waited 0 (fun v => !Rf.inW v)).done = false) : Calls Tryz.prog 75 #[.pointer (some ⟨p, 0, none⟩)] w fun e w' => e = .returned (.tuple #[]) ∧ At B w' p pm g (Rf.lines r) ∧ Fr B p g w w' := e33
set_option maxHeartbeats 4000000 in
theorem rf_2_0 (h : At B w p pm g r) (hO : Ok r) (hn : r.notes = []) (hop : r.f.op = 2) (hln : r.f.line = 0) : Calls Tryz.prog 75 #[.pointer (some ⟨p, 0, none⟩)] w fun e w' => e = .returned (.tuple #[]) ∧ At B w' p pm g (Rf.lines r) ∧ Fr B p g w w' := e34
set_option maxHeartbeats 4000000 in
theorem rf_3_0_t (h : At B w p pm g r) (hO : Ok r) (hn : r.notes = []) (hop : r.f.op = 3) (hln : r.f.line = 0) (hz : ((r.load 0).old == 0) = true) : Calls Tryz.prog 75 #[.pointer (some ⟨p, 0, none⟩)] w fun e w' => e = .returned (.tuple #[]) ∧ At B w' p pm g (Rf.lines r) ∧ Fr B p g w w' := by
 obtain ⟨hc, c4, c5, c6, c7⟩ := start h hO hn hop hln
 replace h := Lib.hid h
 replace hO := Lib.hid hO
 replace hn := Lib.hid hn
 replace hop := Lib.hid hop
 replace hln := Lib.hid hln
 go_enter Tryz.func75, Tryz.ntmps75
 go_upto_region 2 with (fail)
 go_quiet (fail)
 replace hc := Lib.hid (hc.out.drewN nq)
 go_wp2_with (first
  | (go_at_call 112; (try clear c6); (try clear c7); go_must (refine load_step hc _ ?_; intro w1 f1 hc c6 c7; clear f1))
  | ((with_reducible refine gate_store rfl ?_); refine stA_step hc rfl rfl rfl rfl rfl rfl ?_; clear c6 c7; intro w1 f1 hc c6 c7; clear f1)
  | (go_at_call 105; (try clear c6); (try clear c7); go_must (refine note_step hc _ _ (by decide) ?_; intro w1 f1 hc c6 c7; clear f1))
  | (go_at_call 102; (try clear c6); (try clear c7); go_must (refine go_step hc _ ?_; intro w1 f1 hc c6 c7; replace c6 : w1.cell? ⟨p, 6, none⟩ = some (.int .u32 (r.load 0).old) := c6; clear f1)))
 first | go_end0 | ((try simp only [Exit.inBlock, Exit.then]); refine bodyPost_ret (results_none rfl _ _ _) rfl ?_)
 refine ⟨rfl, ?_, hc.out.fr⟩
 unfold Rf.lines
 exact e35
set_option maxHeartbeats 4000000 in
theorem rf_3_0_f (h : At B w p pm g r) (hO : Ok r) (hn : r.notes = []) (hop : r.f.op = 3) (hln : r.f.line = 0) (hz : ((r.load 0).old == 0) = false) : Calls Tryz.prog 75 #[.pointer (some ⟨p, 0, none⟩)] w fun e w' => e = .returned (.tuple #[]) ∧ At B w' p pm g (Rf.lines r) ∧ Fr B p g w w' := by
 obtain ⟨hc, c4, c5, c6, c7⟩ := start h hO hn hop hln
 replace h := Lib.hid h
 replace hO := Lib.hid hO
 replace hn := Lib.hid hn
 replace hop := Lib.hid hop
 replace hln := Lib.hid hln
 go_enter Tryz.func75, Tryz.ntmps75
 go_upto_region 2 with (fail)
 go_quiet (fail)
 replace hc := Lib.hid (hc.out.drewN nq)
 go_wp2_with (first
  | (go_at_call 112; (try clear c6); (try clear c7); go_must (refine load_step hc _ ?_; intro w1 f1 hc c6 c7; clear f1))
  | ((with_reducible refine gate_store rfl ?_); refine stA_step hc rfl rfl rfl rfl rfl rfl ?_; clear c6 c7; intro w1 f1 hc c6 c7; clear f1)
  | (go_at_call 105; (try clear c6); (try clear c7); go_must (refine note_step hc _ _ (by decide) ?_; intro w1 f1 hc c6 c7; clear f1))
  | (go_at_call 102; (try clear c6); (try clear c7); go_must (refine go_step hc _ ?_; intro w1 f1 hc c6 c7; replace c6 : w1.cell? ⟨p, 6, none⟩ = some (.int .u32 (r.load 0).old) := c6; clear f1)))
 first | go_end0 | ((try simp only [Exit.inBlock, Exit.then]); refine bodyPost_ret (results_none rfl _ _ _) rfl ?_)
 refine ⟨rfl, ?_, hc.out.fr⟩
 unfold Rf.lines
 exact e36
set_option maxHeartbeats 4000000 in
theorem rf_3_1_t (h : At B w p pm g r) (hO : Ok r) (hn : r.notes = []) (hop : r.f.op = 3) (hln : r.f.line = 1) (hcs : (r.cas 0 0 65536).hitCas 0 = true) : Calls Tryz.prog 75 #[.pointer (some ⟨p, 0, none⟩)] w fun e w' => e = .returned (.tuple #[]) ∧ At B w' p pm g (Rf.lines r) ∧ Fr B p g w w' := by
 obtain ⟨hc, c4, c5, c6, c7⟩ := start h hO hn hop hln
 replace h := Lib.hid h
 replace hO := Lib.hid hO
 replace hn := Lib.hid hn
 replace hop := Lib.hid hop
 replace hln := Lib.hid hln
 replace hcs := Lib.hid hcs
 go_enter Tryz.func75, Tryz.ntmps75
 go_upto_region 2 with (fail)
 go_quiet (fail)
 replace hc := Lib.hid (hc.out.drewN nq)
 go_wp2_with (first
  | (go_at_call 128; (try clear c6); (try clear c7); go_must (refine cas_step hc _ _ _ true hcs.out (by first | decide | exact w32_u32 _ | exact hc.out.ok.a) (by first | decide | exact w32_u32 _ | exact hc.out.ok.a) ?_; intro w1 f1 hc c6 c7; clear f1))
  | (go_at_call 126; (try clear c6); (try clear c7); go_must (refine rfend1_step hc (by decide) _ _ ?_; intro w1 f1 hc; clear f1)))
 first | go_end0 | ((try simp only [Exit.inBlock, Exit.then]); refine bodyPost_ret (results_none rfl _ _ _) rfl ?_)
 refine ⟨rfl, ?_, hc.out.fr⟩
 unfold Rf.lines
 exact e37
set_option maxHeartbeats 4000000 in
theorem rf_3_1_f (h : At B w p pm g r) (hO : Ok r) (hn : r.notes = []) (hop : r.f.op = 3) (hln : r.f.line = 1) (hcs : (r.cas 0 0 65536).hitCas 0 = false) : Calls Tryz.prog 75 #[.pointer (some ⟨p, 0, none⟩)] w fun e w' => e = .returned (.tuple #[]) ∧ At B w' p pm g (Rf.lines r) ∧ Fr B p g w w' := by
 obtain ⟨hc, c4, c5, c6, c7⟩ := start h hO hn hop hln
 replace h := Lib.hid h
 replace hO := Lib.hid hO
 replace hn := Lib.hid hn
 replace hop := Lib.hid hop
 replace hln := Lib.hid hln
 replace hcs := Lib.hid hcs
 go_enter Tryz.func75, Tryz.ntmps75
 go_upto_region 2 with (fail)
 go_quiet (fail)
 replace hc := Lib.hid (hc.out.drewN nq)
 go_wp2_with (first
  | (go_at_call 128; (try clear c6); (try clear c7); go_must (refine cas_step hc _ _ _ false hcs.out (by first | decide | exact w32_u32 _ | exact hc.out.ok.a) (by first | decide | exact w32_u32 _ | exact hc.out.ok.a) ?_; intro w1 f1 hc c6 c7; clear f1))
  | (go_at_call 102; (try clear c6); (try clear c7); go_must (refine go_step hc _ ?_; intro w1 f1 hc c6 c7; clear f1)))
 first | go_end0 | ((try simp only [Exit.inBlock, Exit.then]); refine bodyPost_ret (results_none rfl _ _ _) rfl ?_)
 refine ⟨rfl, ?_, hc.out.fr⟩
 unfold Rf.lines
 exact e38
set_option maxHeartbeats 4000000 in
theorem rf_3_2_t_t (h : At B w p pm g r) (hO : Ok r) (hn : r.notes = []) (hop : r.f.op = 3) (hln : r.f.line = 2) (hs : (r.waited 0 (fun v => v == 0)).seen = true) (hd : (r.waited 0 (fun v => v == 0)).done = true) : Calls Tryz.prog 75 #[.pointer (some ⟨p, 0, none⟩)] w fun e w' => e = .returned (.tuple #[]) ∧ At B w' p pm g (Rf.lines r) ∧ Fr B p g w w' := e39
set_option maxHeartbeats 4000000 in
theorem rf_3_2_t_f (h : At B w p pm g r) (hO : Ok r) (hn : r.notes = []) (hop : r.f.op = 3) (hln : r.f.line = 2) (hs : (r.waited 0 (fun v => v == 0)).seen = true) (hd : (r.waited 0 (fun v => v == 0)).done = false) : Calls Tryz.prog 75 #[.pointer (some ⟨p, 0, none⟩)] w fun e w' => e = .returned (.tuple #[]) ∧ At B w' p pm g (Rf.lines r) ∧ Fr B p g w w' := e39
set_option maxHeartbeats 4000000 in
theorem rf_3_2_f_t (h : At B w p pm g r) (hO : Ok r) (hn : r.notes = []) (hop : r.f.op = 3) (hln : r.f.line = 2) (hs : (r.waited 0 (fun v => v == 0)).seen = false) (hd : (r.waited 0 (fun v => v == 0)).done = true) : Calls Tryz.prog 75 #[.pointer (some ⟨p, 0, none⟩)] w fun e w' => e = .returned (.tuple #[]) ∧ At B w' p pm g (Rf.lines r) ∧ Fr B p g w w' := e39
set_option maxHeartbeats 4000000 in
theorem rf_3_2_f_f (h : At B w p pm g r) (hO : Ok r) (hn : r.notes = []) (hop : r.f.op = 3) (hln : r.f.line = 2) (hs : (r.waited 0 (fun v => v == 0)).seen = false) (hd : (r.waited 0 (fun v => v == 0)).done = false) : Calls Tryz.prog 75 #[.pointer (some ⟨p, 0, none⟩)] w fun e w' => e = .returned (.tuple #[]) ∧ At B w' p pm g (Rf.lines r) ∧ Fr B p g w w' := e39
set_option maxHeartbeats 4000000 in
theorem rf_4_0 (h : At B w p pm g r) (hO : Ok r) (hn : r.notes = []) (hop : r.f.op = 4) (hln : r.f.line = 0) : Calls Tryz.prog 75 #[.pointer (some ⟨p, 0, none⟩)] w fun e w' => e = .returned (.tuple #[]) ∧ At B w' p pm g (Rf.lines r) ∧ Fr B p g w w' := by
 obtain ⟨hc, c4, c5, c6, c7⟩ := start h hO hn hop hln
 replace h := Lib.hid h
 replace hO := Lib.hid hO
 replace hn := Lib.hid hn
 replace hop := Lib.hid hop
 replace hln := Lib.hid hln
 go_enter Tryz.func75, Tryz.ntmps75
 go_upto_region 2 with (fail)
 go_quiet (fail)
 replace hc := Lib.hid (hc.out.drewN nq)
 go_wp2_with (first
  | (go_at_call 104; (try clear c6); (try clear c7); go_must (refine add_step hc _ _ (by first | decide | exact w32_u32 _ | exact w32_pres _) ?_; intro w1 f1 hc c6 c7; clear f1))
  | (go_at_call 126; (try clear c6); (try clear c7); go_must (refine rfend2_step hc (by decide) _ _ _ ?_; intro w1 f1 hc; clear f1)))
 exact e40
set_option maxHeartbeats 4000000 in
theorem rf_8_0 (h : At B w p pm g r) (hO : Ok r) (hn : r.notes = []) (hop : r.f.op = 8) (hln : r.f.line = 0) : Calls Tryz.prog 75 #[.pointer (some ⟨p, 0, none⟩)] w fun e w' => e = .returned (.tuple #[]) ∧ At B w' p pm g (Rf.lines r) ∧ Fr B p g w w' := e34
set_option maxHeartbeats 4000000 in
theorem rft_5_0 (h : At B w p pm g r) (hO : Ok r) (hn : r.notes = []) (hop : r.f.op = 5) (hln : r.f.line = 0) : Calls Tryz.prog 130 #[.pointer (some ⟨p, 0, none⟩)] w fun e w' => e = .returned (.tuple #[]) ∧ At B w' p pm g (Rf.tries r) ∧ Fr B p g w w' := by
 obtain ⟨b, hbb⟩ : ∃ b, b = w.heap.size := ⟨_, rfl⟩
 obtain ⟨W, hW⟩ : ∃ W, W = w.alloc (.cells #[.pointer (some ⟨p, 0, none⟩)] 164) := ⟨_, rfl⟩
 obtain ⟨hc, c4, c5, c6, c7, hb, nbp, nbg, v6, v7⟩ := startbox h hO hn hop hln hW hbb
 have cb := cell_of_heap (j := 0) hb.out rfl
 replace h := Lib.hid h
 replace hO := Lib.hid hO
 replace hn := Lib.hid hn
 replace hop := Lib.hid hop
 replace hln := Lib.hid hln
 go_enter Tryz.func130, Tryz.ntmps130
 go_upto_region 1 with (fail)
 rw [← hW, ← hbb]
 clear v6 v7
 replace hW := Lib.hid hW
 replace hbb := Lib.hid hbb
 go_upto_region 2 with (fail)
 go_quiet (fail)
 replace hc := Lib.hid (hc.out.drewN nq)
 go_wp2_with (first
  | (go_at_call 166; (try clear c6); (try clear c7); (try clear cb); go_must (refine rfchoose_step hc (by decide) (fun v => !Rf.inW v) tells_not2 ?_; intro w1 f1 hc; replace hb := Lib.hid (f1.keep hb.out nbp nbg (by decide)); have cb := cell_of_heap (j := 0) hb.out rfl; clear f1)))
 exact e41
set_option maxHeartbeats 4000000 in
theorem rft_6_0 (h : At B w p pm g r) (hO : Ok r) (hn : r.notes = []) (hop : r.f.op = 6) (hln : r.f.line = 0) : Calls Tryz.prog 130 #[.pointer (some ⟨p, 0, none⟩)] w fun e w' => e = .returned (.tuple #[]) ∧ At B w' p pm g (Rf.tries r) ∧ Fr B p g w w' := by
 obtain ⟨b, hbb⟩ : ∃ b, b = w.heap.size := ⟨_, rfl⟩
 obtain ⟨W, hW⟩ : ∃ W, W = w.alloc (.cells #[.pointer (some ⟨p, 0, none⟩)] 164) := ⟨_, rfl⟩
 obtain ⟨hc, c4, c5, c6, c7, hb, nbp, nbg, v6, v7⟩ := startbox h hO hn hop hln hW hbb
 have cb := cell_of_heap (j := 0) hb.out rfl
 replace h := Lib.hid h
 replace hO := Lib.hid hO
 replace hn := Lib.hid hn
 replace hop := Lib.hid hop
 replace hln := Lib.hid hln
 go_enter Tryz.func130, Tryz.ntmps130
 go_upto_region 1 with (fail)
 rw [← hW, ← hbb]
 clear v6 v7
 replace hW := Lib.hid hW
 replace hbb := Lib.hid hbb
 go_upto_region 2 with (fail)
 go_quiet (fail)
 replace hc := Lib.hid (hc.out.drewN nq)
 go_upto_region 6 with (fail)
 refine start_ (n := 3) (S := fun w' => w'.cell? ⟨b, 0, none⟩ = some (.pointer (some ⟨p, 0, none⟩))) (ds := [2]) #[false, false, false] (by kernel_rfl) rfl rfl (cell_of_heap hb.out rfl) (fun hHeld => ?_)
 refine take_ (i := 0) (N := some 23) (v := ?_) (a' := ?_) (mk 3 1) rfl rfl (by kernel_rfl) (fun _ _ _ h => h) (Or.inl ⟨by rfl, ?_⟩) hHeld ?_ ?_
 rotate_left
 ·intro w' s0
  go_simp
  with_reducible rfl
 rotate_left
 ·exact e4
 refine one_ (i := 1) (N := some 24) (mk 3 3) rfl rfl (by kernel_rfl) (by decide) (fun K hK => ?_)
 refine goes_ Tryz.func129 (by kernel_rfl) rfl #[.int .u32 0] (by rfl) rfl rfl (by simp only [List.map_toArray, List.map_cons, List.map_nil]; rfl) ?_
 refine rfmk_step (Lib.hid hc.out.drew) _ ?_
 intro w1 bk f1 hc hT
 refine ⟨_, rfl, ?_⟩
 replace hb := Lib.hid (f1.keep (blk_drew hb.out) nbp nbg (by decide))
 refine hK.out _ _ (cell_of_heap hb.out rfl) (fun hHeld => ?_)
 clear hK K
 refine nm_ ?_
 refine last_ (i := 2) (N := some 25) (mk 3 7) rfl rfl (by kernel_rfl) (by decide) (fun K hK => ?_)
 refine goes_ Tryz.func166 (by kernel_rfl) rfl #[.pointer (some ⟨p, 0, none⟩), .func (.func 165) #[] #[.pointer (some ⟨bk, 0, none⟩)]] (by rfl) rfl rfl (by simp only [List.map_toArray, List.map_cons, List.map_nil]; rfl) ?_
 refine rfchoose_step hc (by decide) (fun v => v == 0) (hT.out.2 _) ?_
 exact e42
set_option maxHeartbeats 4000000 in
theorem rft_7_0 (h : At B w p pm g r) (hO : Ok r) (hn : r.notes = []) (hop : r.f.op = 7) (hln : r.f.line = 0) : Calls Tryz.prog 130 #[.pointer (some ⟨p, 0, none⟩)] w fun e w' => e = .returned (.tuple #[]) ∧ At B w' p pm g (Rf.tries r) ∧ Fr B p g w w' := by
 obtain ⟨b, hbb⟩ : ∃ b, b = w.heap.size := ⟨_, rfl⟩
 obtain ⟨W, hW⟩ : ∃ W, W = w.alloc (.cells #[.pointer (some ⟨p, 0, none⟩)] 164) := ⟨_, rfl⟩
 obtain ⟨hc, c4, c5, c6, c7, hb, nbp, nbg, v6, v7⟩ := startbox h hO hn hop hln hW hbb
 have cb := cell_of_heap (j := 0) hb.out rfl
 replace h := Lib.hid h
 replace hO := Lib.hid hO
 replace hn := Lib.hid hn
 replace hop := Lib.hid hop
 replace hln := Lib.hid hln
 go_enter Tryz.func130, Tryz.ntmps130
 go_upto_region 1 with (fail)
 rw [← hW, ← hbb]
 clear v6 v7
 replace hW := Lib.hid hW
 replace hbb := Lib.hid hbb
 go_upto_region 2 with (fail)
 go_quiet (fail)
 replace hc := Lib.hid (hc.out.drewN nq)
 go_upto_region 8 with (fail)
 refine start_ (n := 3) (S := fun w' => w'.cell? ⟨b, 0, none⟩ = some (.pointer (some ⟨p, 0, none⟩))) (ds := [2]) #[false, false, false] (by kernel_rfl) rfl rfl (cell_of_heap hb.out rfl) (fun hHeld => ?_)
 refine take_ (i := 0) (N := some 29) (v := ?_) (a' := ?_) (mk 3 1) rfl rfl (by kernel_rfl) (fun _ _ _ h => h) (Or.inl ⟨by rfl, ?_⟩) hHeld ?_ ?_
 rotate_left
 ·intro w' s0
  go_simp
  with_reducible rfl
 rotate_left
 ·exact e4
 refine one_ (i := 1) (N := some 30) (mk 3 3) rfl rfl (by kernel_rfl) (by decide) (fun K hK => ?_)
 refine goes_ Tryz.func129 (by kernel_rfl) rfl #[.int .u32 1] (by rfl) rfl rfl (by simp only [List.map_toArray, List.map_cons, List.map_nil]; rfl) ?_
 refine rfmk_step (Lib.hid hc.out.drew) _ ?_
 intro w1 bk f1 hc hT
 refine ⟨_, rfl, ?_⟩
 replace hb := Lib.hid (f1.keep (blk_drew hb.out) nbp nbg (by decide))
 refine hK.out _ _ (cell_of_heap hb.out rfl) (fun hHeld => ?_)
 clear hK K
 refine nm_ ?_
 refine last_ (i := 2) (N := some 31) (mk 3 7) rfl rfl (by kernel_rfl) (by decide) (fun K hK => ?_)
 refine goes_ Tryz.func166 (by kernel_rfl) rfl #[.pointer (some ⟨p, 0, none⟩), .func (.func 165) #[] #[.pointer (some ⟨bk, 0, none⟩)]] (by rfl) rfl rfl (by simp only [List.map_toArray, List.map_cons, List.map_nil]; rfl) ?_
 refine rfchoose_step hc (by decide) (fun v => v == 1) (hT.out.2 _) ?_
 exact e42
set_option maxHeartbeats 4000000 in
theorem rft_5_1 (h : At B w p pm g r) (hO : Ok r) (hn : r.notes = []) (hop : r.f.op = 5) (hln : r.f.line = 1) : Calls Tryz.prog 130 #[.pointer (some ⟨p, 0, none⟩)] w fun e w' => e = .returned (.tuple #[]) ∧ At B w' p pm g (Rf.tries r) ∧ Fr B p g w w' := by
 obtain ⟨b, hbb⟩ : ∃ b, b = w.heap.size := ⟨_, rfl⟩
 obtain ⟨W, hW⟩ : ∃ W, W = w.alloc (.cells #[.pointer (some ⟨p, 0, none⟩)] 164) := ⟨_, rfl⟩
 obtain ⟨hc, c4, c5, c6, c7, hb, nbp, nbg, v6, v7⟩ := startbox h hO hn hop hln hW hbb
 have cb := cell_of_heap (j := 0) hb.out rfl
 replace h := Lib.hid h
 replace hO := Lib.hid hO
 replace hn := Lib.hid hn
 replace hop := Lib.hid hop
 replace hln := Lib.hid hln
 go_enter Tryz.func130, Tryz.ntmps130
 go_upto_region 1 with (fail)
 rw [← hW, ← hbb]
 clear v6 v7
 replace hW := Lib.hid hW
 replace hbb := Lib.hid hbb
 go_upto_region 2 with (fail)
 go_quiet (fail)
 replace hc := Lib.hid (hc.out.drewN nq)
 go_upto_region 10 with (fail)
 refine start_ (n := 12) (S := fun w' => w'.cell? ⟨b, 0, none⟩ = some (.pointer (some ⟨p, 0, none⟩)) ∧ w'.cell? ⟨p, 6, none⟩ = some (.int .u32 r.f.a)) (ds := [11]) #[false, false, false, false, false, false, false, false, false, false, false, false] (by kernel_rfl) rfl rfl ⟨cell_of_heap hb.out rfl, hc.out.drew.c6⟩ (fun hHeld => ?_)
 refine pu_ 1 36 (mk 12 2) rfl rfl ?_
 refine pu_ 2 37 (mk 12 6) rfl rfl ?_
 refine pu_ 3 38 (mk 12 14) rfl rfl ?_
 refine pu_ 5 40 (mk 12 46) rfl rfl ?_
 refine pu_ 6 41 (mk 12 110) rfl rfl ?_
 refine pu_ 7 42 (mk 12 238) rfl rfl ?_
 refine pu_ 10 45 (mk 12 1262) rfl rfl ?_
 refine tk2_ 0 35 (mk 12 1263) rfl rfl hHeld ?_
 refine tk2_ 4 39 (mk 12 1279) rfl rfl hHeld ?_
 refine tk2_ 8 43 (mk 12 1535) rfl rfl hHeld ?_
 refine pu_ 9 44 (mk 12 2047) rfl rfl ?_
 refine last_ (i := 11) (N := some 46) (mk 12 4095) rfl rfl (by kernel_rfl) (by decide) (fun K hK => ?_)
 refine goes_ Tryz.func168 (by kernel_rfl) rfl #[.pointer (some ⟨p, 0, none⟩), .int .u32 r.f.a, .int .u32 (u32 (r.f.a + 1)), .func (.func 169) #[] #[.pointer (some ⟨b, 0, none⟩)], .int .i64 4] (by rfl) rfl rfl (by simp only [List.map_toArray, List.map_cons, List.map_nil]; rfl) ?_
 refine rfswap_step (Lib.hid hc.out.drew) (by decide) r.f.a (u32 (r.f.a + 1)) 4 hc.out.ok.a (w32_u32 _) (fun r => r.note 2 1) ⟨_, Tryz.func169, rfl, rfl⟩ (fun W hFW hAW => rffirst1_walk hAW (by rw [n_cas]; have := hc.out.few; omega) (hFW.keep (blk_drew hb.out) nbp nbg (by decide))) (by first | (rw [n_note, n_cas]; exact Nat.succ_le_succ hc.out.few) | (rw [n_cas]; exact Nat.le_succ_of_le hc.out.few)) ((hc.out.ok.cas 0 hc.out.ok.a (w32_u32 _)).note 2 1) ?_
 exact e42
set_option maxHeartbeats 4000000 in
theorem rft_6_1 (h : At B w p pm g r) (hO : Ok r) (hn : r.notes = []) (hop : r.f.op = 6) (hln : r.f.line = 1) : Calls Tryz.prog 130 #[.pointer (some ⟨p, 0, none⟩)] w fun e w' => e = .returned (.tuple #[]) ∧ At B w' p pm g (Rf.tries r) ∧ Fr B p g w w' := by
 obtain ⟨b, hbb⟩ : ∃ b, b = w.heap.size := ⟨_, rfl⟩
 obtain ⟨W, hW⟩ : ∃ W, W = w.alloc (.cells #[.pointer (some ⟨p, 0, none⟩)] 164) := ⟨_, rfl⟩
 obtain ⟨hc, c4, c5, c6, c7, hb, nbp, nbg, v6, v7⟩ := startbox h hO hn hop hln hW hbb
 have cb := cell_of_heap (j := 0) hb.out rfl
 replace h := Lib.hid h
 replace hO := Lib.hid hO
 replace hn := Lib.hid hn
 replace hop := Lib.hid hop
 replace hln := Lib.hid hln
 go_enter Tryz.func130, Tryz.ntmps130
 go_upto_region 1 with (fail)
 rw [← hW, ← hbb]
 clear v6 v7
 replace hW := Lib.hid hW
 replace hbb := Lib.hid hbb
 go_upto_region 2 with (fail)
 go_quiet (fail)
 replace hc := Lib.hid (hc.out.drewN nq)
 go_wp2_with (first
  | (go_at_call 168; (try clear c6); (try clear c7); (try clear cb); go_must (refine rfswap_step hc (by decide) 0 65536 4 (by decide) (by decide) (fun r => r.note 2 2) ⟨_, Tryz.func170, rfl, rfl⟩ (fun W hFW hAW => rffirst2_walk hAW (by rw [n_cas]; have := hc.out.few; omega) (hFW.keep hb.out nbp nbg (by decide))) (by first | (rw [n_note, n_cas]; exact Nat.succ_le_succ hc.out.few) | (rw [n_cas]; exact Nat.le_succ_of_le hc.out.few)) ((hc.out.ok.cas 0 (by decide) (by decide)).note 2 2) ?_; intro w1 f1 hc; replace hb := Lib.hid (f1.keep hb.out nbp nbg (by decide)); have cb := cell_of_heap (j := 0) hb.out rfl; clear f1)))
 exact e41
set_option maxHeartbeats 4000000 in
theorem rft_7_1 (h : At B w p pm g r) (hO : Ok r) (hn : r.notes = []) (hop : r.f.op = 7) (hln : r.f.line = 1) : Calls Tryz.prog 130 #[.pointer (some ⟨p, 0, none⟩)] w fun e w' => e = .returned (.tuple #[]) ∧ At B w' p pm g (Rf.tries r) ∧ Fr B p g w w' := by
 obtain ⟨b, hbb⟩ : ∃ b, b = w.heap.size := ⟨_, rfl⟩
 obtain ⟨W, hW⟩ : ∃ W, W = w.alloc (.cells #[.pointer (some ⟨p, 0, none⟩)] 164) := ⟨_, rfl⟩
 obtain ⟨hc, c4, c5, c6, c7, hb, nbp, nbg, v6, v7⟩ := startbox h hO hn hop hln hW hbb
 have cb := cell_of_heap (j := 0) hb.out rfl
 replace h := Lib.hid h
 replace hO := Lib.hid hO
 replace hn := Lib.hid hn
 replace hop := Lib.hid hop
 replace hln := Lib.hid hln
 go_enter Tryz.func130, Tryz.ntmps130
 go_upto_region 1 with (fail)
 rw [← hW, ← hbb]
 clear v6 v7
 replace hW := Lib.hid hW
 replace hbb := Lib.hid hbb
 go_upto_region 2 with (fail)
 go_quiet (fail)
 replace hc := Lib.hid (hc.out.drewN nq)
 go_wp2_with (first
  | (go_at_call 168; (try clear c6); (try clear c7); (try clear cb); go_must (refine rfswap_step hc (by decide) 1 65536 9 (by decide) (by decide) (fun r => r) ⟨_, Tryz.func171, rfl, rfl⟩ (fun W hFW hAW => rffirst0_walk hAW) (by first | (rw [n_note, n_cas]; exact Nat.succ_le_succ hc.out.few) | (rw [n_cas]; exact Nat.le_succ_of_le hc.out.few)) (hc.out.ok.cas 0 (by decide) (by decide)) ?_; intro w1 f1 hc; replace hb := Lib.hid (f1.keep hb.out nbp nbg (by decide)); have cb := cell_of_heap (j := 0) hb.out rfl; clear f1)))
 exact e41
set_option maxHeartbeats 4000000 in
theorem rf_5_0 (h : At B w p pm g r) (hO : Ok r) (hn : r.notes = []) (hop : r.f.op = 5) (hln : r.f.line = 0) : Calls Tryz.prog 75 #[.pointer (some ⟨p, 0, none⟩)] w fun e w' => e = .returned (.tuple #[]) ∧ At B w' p pm g (Rf.lines r) ∧ Fr B p g w w' := by
 obtain ⟨hc, c4, c5, c6, c7⟩ := start h hO hn hop hln
 replace h := Lib.hid h
 replace hO := Lib.hid hO
 replace hn := Lib.hid hn
 replace hop := Lib.hid hop
 replace hln := Lib.hid hln
 go_enter Tryz.func75, Tryz.ntmps75
 go_upto_region 2 with (fail)
 go_quiet (fail)
 replace hc := Lib.hid (hc.out.drewN nq)
 go_wp2_with (first
  | (go_at_call 130; go_must (refine (rft_5_0 (hc.out.at_) hc.out.ok (List.length_eq_zero_iff.1 (Nat.le_zero.1 hc.out.few)) hop.out hln.out).mono ?_; rintro e w1 ⟨rfl, hA1, hF1⟩)))
 exact e43
set_option maxHeartbeats 4000000 in
theorem rf_5_1 (h : At B w p pm g r) (hO : Ok r) (hn : r.notes = []) (hop : r.f.op = 5) (hln : r.f.line = 1) : Calls Tryz.prog 75 #[.pointer (some ⟨p, 0, none⟩)] w fun e w' => e = .returned (.tuple #[]) ∧ At B w' p pm g (Rf.lines r) ∧ Fr B p g w w' := by
 obtain ⟨hc, c4, c5, c6, c7⟩ := start h hO hn hop hln
 replace h := Lib.hid h
 replace hO := Lib.hid hO
 replace hn := Lib.hid hn
 replace hop := Lib.hid hop
 replace hln := Lib.hid hln
 go_enter Tryz.func75, Tryz.ntmps75
 go_upto_region 2 with (fail)
 go_quiet (fail)
 replace hc := Lib.hid (hc.out.drewN nq)
 go_wp2_with (first
  | (go_at_call 130; go_must (refine (rft_5_1 (hc.out.at_) hc.out.ok (List.length_eq_zero_iff.1 (Nat.le_zero.1 hc.out.few)) hop.out hln.out).mono ?_; rintro e w1 ⟨rfl, hA1, hF1⟩)))
 exact e43
set_option maxHeartbeats 4000000 in
theorem rf_6_0 (h : At B w p pm g r) (hO : Ok r) (hn : r.notes = []) (hop : r.f.op = 6) (hln : r.f.line = 0) : Calls Tryz.prog 75 #[.pointer (some ⟨p, 0, none⟩)] w fun e w' => e = .returned (.tuple #[]) ∧ At B w' p pm g (Rf.lines r) ∧ Fr B p g w w' := by
 obtain ⟨hc, c4, c5, c6, c7⟩ := start h hO hn hop hln
 replace h := Lib.hid h
 replace hO := Lib.hid hO
 replace hn := Lib.hid hn
 replace hop := Lib.hid hop
 replace hln := Lib.hid hln
 go_enter Tryz.func75, Tryz.ntmps75
 go_upto_region 2 with (fail)
 go_quiet (fail)
 replace hc := Lib.hid (hc.out.drewN nq)
 go_wp2_with (first
  | (go_at_call 130; go_must (refine (rft_6_0 (hc.out.at_) hc.out.ok (List.length_eq_zero_iff.1 (Nat.le_zero.1 hc.out.few)) hop.out hln.out).mono ?_; rintro e w1 ⟨rfl, hA1, hF1⟩)))
 exact e43
set_option maxHeartbeats 4000000 in
theorem rf_6_1 (h : At B w p pm g r) (hO : Ok r) (hn : r.notes = []) (hop : r.f.op = 6) (hln : r.f.line = 1) : Calls Tryz.prog 75 #[.pointer (some ⟨p, 0, none⟩)] w fun e w' => e = .returned (.tuple #[]) ∧ At B w' p pm g (Rf.lines r) ∧ Fr B p g w w' := by
 obtain ⟨hc, c4, c5, c6, c7⟩ := start h hO hn hop hln
 replace h := Lib.hid h
 replace hO := Lib.hid hO
 replace hn := Lib.hid hn
 replace hop := Lib.hid hop
 replace hln := Lib.hid hln
 go_enter Tryz.func75, Tryz.ntmps75
 go_upto_region 2 with (fail)
 go_quiet (fail)
 replace hc := Lib.hid (hc.out.drewN nq)
 go_wp2_with (first
  | (go_at_call 130; go_must (refine (rft_6_1 (hc.out.at_) hc.out.ok (List.length_eq_zero_iff.1 (Nat.le_zero.1 hc.out.few)) hop.out hln.out).mono ?_; rintro e w1 ⟨rfl, hA1, hF1⟩)))
 exact e43
set_option maxHeartbeats 4000000 in
theorem rf_7_0 (h : At B w p pm g r) (hO : Ok r) (hn : r.notes = []) (hop : r.f.op = 7) (hln : r.f.line = 0) : Calls Tryz.prog 75 #[.pointer (some ⟨p, 0, none⟩)] w fun e w' => e = .returned (.tuple #[]) ∧ At B w' p pm g (Rf.lines r) ∧ Fr B p g w w' := by
 obtain ⟨hc, c4, c5, c6, c7⟩ := start h hO hn hop hln
 replace h := Lib.hid h
 replace hO := Lib.hid hO
 replace hn := Lib.hid hn
 replace hop := Lib.hid hop
 replace hln := Lib.hid hln
 go_enter Tryz.func75, Tryz.ntmps75
 go_upto_region 2 with (fail)
 go_quiet (fail)
 replace hc := Lib.hid (hc.out.drewN nq)
 go_wp2_with (first
  | (go_at_call 130; go_must (refine (rft_7_0 (hc.out.at_) hc.out.ok (List.length_eq_zero_iff.1 (Nat.le_zero.1 hc.out.few)) hop.out hln.out).mono ?_; rintro e w1 ⟨rfl, hA1, hF1⟩)))
 exact e43
set_option maxHeartbeats 4000000 in
theorem rf_7_1 (h : At B w p pm g r) (hO : Ok r) (hn : r.notes = []) (hop : r.f.op = 7) (hln : r.f.line = 1) : Calls Tryz.prog 75 #[.pointer (some ⟨p, 0, none⟩)] w fun e w' => e = .returned (.tuple #[]) ∧ At B w' p pm g (Rf.lines r) ∧ Fr B p g w w' := by
 obtain ⟨hc, c4, c5, c6, c7⟩ := start h hO hn hop hln
 replace h := Lib.hid h
 replace hO := Lib.hid hO
 replace hn := Lib.hid hn
 replace hop := Lib.hid hop
 replace hln := Lib.hid hln
 go_enter Tryz.func75, Tryz.ntmps75
 go_upto_region 2 with (fail)
 go_quiet (fail)
 replace hc := Lib.hid (hc.out.drewN nq)
 go_wp2_with (first
  | (go_at_call 130; go_must (refine (rft_7_1 (hc.out.at_) hc.out.ok (List.length_eq_zero_iff.1 (Nat.le_zero.1 hc.out.few)) hop.out hln.out).mono ?_; rintro e w1 ⟨rfl, hA1, hF1⟩)))
 exact e43
theorem rf_lines (h : At B w p pm g r) (hO : Ok r) (hn : r.notes = []) (hv : Rf.Valid r.f.op r.f.line) : Calls Tryz.prog 75 #[.pointer (some ⟨p, 0, none⟩)] w fun e w' => e = .returned (.tuple #[]) ∧ At B w' p pm g (Rf.lines r) ∧ Fr B p g w w' := by
 rcases hv with ⟨hop, hln⟩ | ⟨hop, hln⟩ | ⟨hop, hln⟩ | ⟨hop, hln⟩ | ⟨hop, hln⟩ | ⟨hop, hln⟩ | ⟨hop, hln⟩ | ⟨hop, hln⟩ | ⟨hop, hln⟩ | ⟨hop, hln⟩ | ⟨hop, hln⟩ | ⟨hop, hln⟩ | ⟨hop, hln⟩ | ⟨hop, hln⟩
 ·cases hin : Rf.inW (r.add 0 1).old with
  | true => exact rf_1_0_in h hO hn hop hln hin
  | false => exact rf_1_0_no h hO hn hop hln hin
 ·cases hs : (r.waited 0 (fun v => !Rf.inW v)).seen <;> cases hd : (r.waited 0 (fun v => !Rf.inW v)).done
  ·exact rf_1_1_f_f h hO hn hop hln hs hd
  ·exact rf_1_1_f_t h hO hn hop hln hs hd
  ·exact rf_1_1_t_f h hO hn hop hln hs hd
  ·exact rf_1_1_t_t h hO hn hop hln hs hd
 ·exact rf_2_0 h hO hn hop hln
 ·cases hz : ((r.load 0).old == 0) with
  | true => exact rf_3_0_t h hO hn hop hln hz
  | false => exact rf_3_0_f h hO hn hop hln hz
 ·cases hc : (r.cas 0 0 65536).hitCas 0 with
  | true => exact rf_3_1_t h hO hn hop hln hc
  | false => exact rf_3_1_f h hO hn hop hln hc
 ·cases hs : (r.waited 0 (fun v => v == 0)).seen <;> cases hd : (r.waited 0 (fun v => v == 0)).done
  ·exact rf_3_2_f_f h hO hn hop hln hs hd
  ·exact rf_3_2_f_t h hO hn hop hln hs hd
  ·exact rf_3_2_t_f h hO hn hop hln hs hd
  ·exact rf_3_2_t_t h hO hn hop hln hs hd
 ·exact rf_4_0 h hO hn hop hln
 ·exact rf_8_0 h hO hn hop hln
 ·exact rf_5_0 h hO hn hop hln
 ·exact rf_5_1 h hO hn hop hln
 ·exact rf_6_0 h hO hn hop hln
 ·exact rf_6_1 h hO hn hop hln
 ·exact rf_7_0 h hO hn hop hln
 ·exact rf_7_1 h hO hn hop hln
end Go.Proofs.YtkmlefbdhdlfmaaGreat.Wo
