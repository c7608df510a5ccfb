/- The lines of writers-first, against the plain texts. -/
import Derived.Test.YtkmlefbdhdlfmaaGreatLn
import Derived.Test.YtkmlefbdhdlfmaaGreatValid
namespace Go.Proofs.YtkmlefbdhdlfmaaGreat.Wo
open Go.RowKit Go.Proofs.YtkmlefbdhdlfmaaGreatW.PrintWords Go.Proofs.YtkmlefbdhdlfmaaGreatW.PrintMore Go.Proofs.YtkmlefbdhdlfmaaGreatW.PrintLast
open Stile
set_option linter.unusedSimpArgs false
set_option linter.unusedVariables false
set_option maxRecDepth 100000
variable {w w1 w2 w0 : World} {B p pm g m : Nat} {r r1 : Run} {Q : Ending → World → Prop}
theorem e127 {P : Prop} (h : P := by
 go_enter Tryz.func172, Tryz.ntmps172
 go_wp2
 go_ret
 exact ⟨rfl, rfl⟩) : P := h
theorem e128 {P : Prop} (h : P := by
 go_enter Tryz.func173, Tryz.ntmps173
 go_wp2
 go_ret
 exact ⟨rfl, rfl⟩) : P := h
theorem e129 {P : Prop} (h : P := by
 go_ret
 exact ⟨by first | rfl | (simp only [he]; congr 2; omega) | (simp [he]), rfl⟩) : P := h
theorem e130 {P : Prop} (h : P := by
 go_wp2_with (go_at_call 137; refine (hg _).mono ?_; rintro e w1 ⟨rfl, rfl⟩)
 go_ret
 exact ⟨rfl, rfl⟩) : P := h
theorem e131 {P : Prop} (h : P := by
 obtain ⟨hc, c4, c5, c6, c7⟩ := start h hO hn rfl hln
 replace h := Lib.hid h
 replace hO := Lib.hid hO
 replace hn := Lib.hid hn
 replace hln := Lib.hid hln
 replace hcs := Lib.hid hcs
 go_enter Tryz.func179, Tryz.ntmps179
 go_upto_region 0 with (fail)
 go_still_tail 13, (by kernel_rfl)
 change wpList _ _ _ _ _ w.drew
 have hcq := hc.out.drew
 clear c6 c7 hc
 generalize w.drew = W8 at hcq ⊢
 have hc := Lib.hid hcq
 clear hcq
 have c6 := hc.out.c6
 have c7 := hc.out.c7
 go_wp2_with (first
  | (go_at_call 128; (try clear c6); (try clear c7); go_must (refine cas_step hc _ _ _ true hcs.out (by first | decide | exact w32_u32 _ | exact hc.out.ok.a) (by first | decide | exact w32_u32 _ | exact hc.out.ok.a) ?_; intro w1 f1 hc c6 c7; clear f1))
  | (go_at_call 105; (try clear c6); (try clear c7); go_must (refine note_step hc _ _ (by decide) ?_; intro w1 f1 hc c6 c7; clear f1))
  | (go_at_call 132; (try clear c6); (try clear c7); go_must (refine wfend1_step hc (by decide) _ _ ?_; intro w1 f1 hc; clear f1)))
 first | go_end0 | ((try simp only [Exit.inBlock, Exit.then]); refine bodyPost_ret (results_none rfl _ _ _) rfl ?_)
 refine ⟨rfl, ?_, hc.out.fr⟩
 unfold Wf.swap
 exact e167) : P := h
theorem e132 {P : Prop} (h : P := by
 obtain ⟨hc, c4, c5, c6, c7⟩ := start h hO hn rfl hln
 replace h := Lib.hid h
 replace hO := Lib.hid hO
 replace hn := Lib.hid hn
 replace hln := Lib.hid hln
 replace hcs := Lib.hid hcs
 go_enter Tryz.func179, Tryz.ntmps179
 go_upto_region 0 with (fail)
 go_still_tail 13, (by kernel_rfl)
 change wpList _ _ _ _ _ w.drew
 have hcq := hc.out.drew
 clear c6 c7 hc
 generalize w.drew = W8 at hcq ⊢
 have hc := Lib.hid hcq
 clear hcq
 have c6 := hc.out.c6
 have c7 := hc.out.c7
 go_wp2_with (first
  | (go_at_call 128; (try clear c6); (try clear c7); go_must (refine cas_step hc _ _ _ false hcs.out (by first | decide | exact w32_u32 _ | exact hc.out.ok.a) (by first | decide | exact w32_u32 _ | exact hc.out.ok.a) ?_; intro w1 f1 hc c6 c7; clear f1))
  | (go_at_call 102; (try clear c6); (try clear c7); go_must (refine go_step hc _ ?_; intro w1 f1 hc c6 c7; clear f1)))
 first | go_end0 | ((try simp only [Exit.inBlock, Exit.then]); refine bodyPost_ret (results_none rfl _ _ _) rfl ?_)
 refine ⟨rfl, ?_, hc.out.fr⟩
 unfold Wf.swap
 exact e168) : P := h
theorem e133 {P : Prop} (h : P := by
 obtain ⟨hc, c4, c5, c6, c7⟩ := start h hO hn hop hln
 replace h := Lib.hid h
 replace hO := Lib.hid hO
 replace hn := Lib.hid hn
 replace hop := Lib.hid hop
 replace hln := Lib.hid hln
 go_enter Tryz.func138, Tryz.ntmps138
 go_upto_region 1 with (fail)
 go_quiet (fail)
 replace hc := Lib.hid (hc.out.drewN nq)
 go_wp2_with (first
  | (go_at_call 112; (try clear c6); (try clear c7); go_must (refine load_step hc _ ?_; intro w1 f1 hc c6 c7; clear f1))
  | ((with_reducible refine gate_store rfl ?_); refine stA_step hc rfl rfl rfl rfl rfl rfl ?_; clear c6 c7; intro w1 f1 hc c6 c7; clear f1)
  | (go_at_call 102; (try clear c6); (try clear c7); go_must (refine go_step hc _ ?_; intro w1 f1 hc c6 c7; clear f1)))
 exact e134) : P := h
theorem e134 {P : Prop} (h : P := by
 first | go_end0 | ((try simp only [Exit.inBlock, Exit.then]); refine bodyPost_ret (results_none rfl _ _ _) rfl ?_)
 refine ⟨rfl, ?_, hc.out.fr⟩
 unfold Wf.leaves
 exact e45) : P := h
theorem e135 {P : Prop} (h : P := by
 first | go_end0 | ((try simp only [Exit.inBlock, Exit.then]); refine bodyPost_ret (results_none rfl _ _ _) rfl ?_)
 refine ⟨rfl, ?_, hc.out.fr.trans hF1⟩
 unfold Wf.leaves
 exact e166) : P := h
theorem e136 {P : Prop} (h : P := by
 first | go_end0 | ((try simp only [Exit.inBlock, Exit.then]); refine bodyPost_ret (results_none rfl _ _ _) rfl ?_)
 refine ⟨rfl, ?_, hc.out.fr⟩
 unfold Wf.lines
 exact e45) : P := h
theorem e137 {P : Prop} (h : P := by
 obtain ⟨b, hbb⟩ : ∃ b, b = w.heap.size := ⟨_, rfl⟩
 obtain ⟨W, hW⟩ : ∃ W, W = w.alloc (.cells #[.pointer (some ⟨p, 4, none⟩)] 175) := ⟨_, rfl⟩
 obtain ⟨hc, c4, c5, c6, c7, hb, nbp, nbg, v6, v7⟩ := startbox h hO hn hop hln hW hbb
 have cb := cell_of_heap (j := 0) hb.out rfl
 replace h := Lib.hid h
 replace hO := Lib.hid hO
 replace hn := Lib.hid hn
 replace hop := Lib.hid hop
 replace hln := Lib.hid hln
 replace hs := Lib.hid hs
 replace hd := Lib.hid hd
 go_enter Tryz.func76, Tryz.ntmps76
 go_upto_region 2 with (fail)
 rw [← hW, ← hbb]
 clear v6 v7
 replace hW := Lib.hid hW
 replace hbb := Lib.hid hbb
 go_quiet (fail)
 replace hc := Lib.hid (hc.out.drewN nq)
 have hbq : (W.drewN nq).heap[b]? = some (.cells #[.pointer (some ⟨p, 4, none⟩)] 175 (0, 0)) := hb.out
 have hcq := hc.out
 clear c4 c5 c6 c7 cb
 generalize W.drewN nq = W0 at hbq hcq ⊢
 replace hb := Lib.hid hbq
 replace hc := Lib.hid hcq
 clear hbq hcq
 have c6 := hc.out.c6
 have c7 := hc.out.c7
 have cb := cell_of_heap (j := 0) hb.out rfl
 go_wp2_with (first
  | (go_at_call 101; (try clear c6); (try clear c7); (try clear cb); go_must (refine waitset_step hc _ Wf.calm (wfset_tells hb.out nbp nbg) _ _ hs.out hd.out ?_; intro w1 f1 hc; replace hb := Lib.hid (f1.keep hb.out nbp nbg (by decide)); have cb := cell_of_heap (j := 0) hb.out rfl; clear f1))
  | (go_at_call 102; (try clear c6); (try clear c7); (try clear cb); go_must (refine go_step hc _ ?_; intro w1 f1 hc c6 c7; replace hb := Lib.hid (f1.keep hb.out nbp nbg (by decide)); have cb := cell_of_heap (j := 0) hb.out rfl; clear f1)))
 first | go_end0 | ((try simp only [Exit.inBlock, Exit.then]); refine bodyPost_ret (results_none rfl _ _ _) rfl ?_)
 refine ⟨rfl, ?_, hc.out.fr⟩
 unfold Wf.lines
 simp only [hop.out, hln.out]
 simp only [Int.reduceEq, and_true, true_and, and_self, and_false, false_and, if_true, if_false, or_false, false_or, or_true, true_or]
 rw [show (r.waited 0 Wf.calm).seen = _ from hs.out, show (r.waited 0 Wf.calm).done = _ from hd.out]
 exact hc.out.at_) : P := h
theorem e138 {P : Prop} (h : P := by
 obtain ⟨b, hbb⟩ : ∃ b, b = w.heap.size := ⟨_, rfl⟩
 obtain ⟨W, hW⟩ : ∃ W, W = w.alloc (.cells #[.pointer (some ⟨p, 4, none⟩)] 175) := ⟨_, rfl⟩
 obtain ⟨hc, c4, c5, c6, c7, hb, nbp, nbg, v6, v7⟩ := startbox h hO hn hop hln hW hbb
 have cb := cell_of_heap (j := 0) hb.out rfl
 replace h := Lib.hid h
 replace hO := Lib.hid hO
 replace hn := Lib.hid hn
 replace hop := Lib.hid hop
 replace hln := Lib.hid hln
 replace hs := Lib.hid hs
 replace hd := Lib.hid hd
 go_enter Tryz.func76, Tryz.ntmps76
 go_upto_region 2 with (fail)
 rw [← hW, ← hbb]
 clear v6 v7
 replace hW := Lib.hid hW
 replace hbb := Lib.hid hbb
 go_quiet (fail)
 replace hc := Lib.hid (hc.out.drewN nq)
 have hbq : (W.drewN nq).heap[b]? = some (.cells #[.pointer (some ⟨p, 4, none⟩)] 175 (0, 0)) := hb.out
 have hcq := hc.out
 clear c4 c5 c6 c7 cb
 generalize W.drewN nq = W0 at hbq hcq ⊢
 replace hb := Lib.hid hbq
 replace hc := Lib.hid hcq
 clear hbq hcq
 have c6 := hc.out.c6
 have c7 := hc.out.c7
 have cb := cell_of_heap (j := 0) hb.out rfl
 go_wp2_with (first
  | (go_at_call 135; go_must (refine (wfget_16 r.f.a hc.out.ok.a _).mono ?_; rintro e w1 ⟨rfl, rfl⟩))
  | (go_at_call 105; (try clear c6); (try clear c7); go_must (refine note_step hc _ _ (by decide) ?_; intro w1 f1 hc c6 c7; clear f1))
  | (go_at_call 107; (try clear c6); (try clear c7); go_must (refine end_step hc _ ?_; intro w1 f1 hc c6 c7; clear f1))
  | (go_at_call 101; (try clear c6); (try clear c7); (try clear cb); go_must (refine wait_step (Lib.hid (hc.out.alloc (.cells #[.int .u32 (Wf.fld r.f.a 65536)] 22))) _ (fun v => Wf.fld v 256 == Wf.fld r.f.a 65536 && Wf.readers v == 0) (wfmine_tells (heap_alloc_new _ _) (by have := hc.out.at_.lt; omega) (by have := hc.out.at_.mem.lt.2; omega)) _ _ hs.out hd.out ?_; intro w1 f1 hc c6 c7; clear f1)))
 first | go_end0 | ((try simp only [Exit.inBlock, Exit.then]); refine bodyPost_ret (results_none rfl _ _ _) rfl ?_)
 refine ⟨rfl, ?_, hc.out.fr⟩
 unfold Wf.lines
 simp only [hop.out, hln.out]
 simp only [Int.reduceEq, and_true, true_and, and_self, and_false, false_and, if_true, if_false, or_false, false_or, or_true, true_or]
 rw [show (r.waited 0 (fun v => Wf.fld v 256 == Wf.fld r.f.a 65536 && Wf.readers v == 0)).seen = _ from hs.out, show (r.waited 0 (fun v => Wf.fld v 256 == Wf.fld r.f.a 65536 && Wf.readers v == 0)).done = _ from hd.out]
 exact hc.out.at_) : P := h
theorem e139 {P : Prop} (h : P := by
 first | go_end0 | ((try simp only [Exit.inBlock, Exit.then]); refine bodyPost_ret (results_none rfl _ _ _) rfl ?_)
 refine ⟨rfl, ?_, hc.out.fr.trans hF1⟩
 unfold Wf.lines
 exact e166) : P := h
theorem and_fld (n s : Nat) : n &&& (255 * 2 ^ s) = n / 2 ^ s % 256 * 2 ^ s := by
 apply Nat.eq_of_testBit_eq
 intro i
 rw [Nat.testBit_and, show (255 : Nat) = 2 ^ 8 - 1 from rfl, show (256 : Nat) = 2 ^ 8 from rfl, Nat.testBit_mul_two_pow, Nat.testBit_mul_two_pow, Nat.testBit_two_pow_sub_one, Nat.testBit_mod_two_pow, Nat.testBit_div_two_pow]
 by_cases h : s ≤ i
 ·have e : i - s + s = i := by omega
  simp [h, e, Bool.and_comm]
 ·simp [h]
theorem wfand_0 (v : Int) (h0 : 0 ≤ v) (h1 : v < 4294967296) : bits .and .u32 v 255 = v % 256 := by
 obtain ⟨n, rfl⟩ := Int.eq_ofNat_of_zero_le h0
 have := and32 n 255 (by omega) (by decide)
 rw [show ((255 : Nat) : Int) = 255 from rfl] at this
 have e := and_fld n 0
 rw [this, show (255 : Nat) = 255 * 2 ^ 0 from rfl, e]
 omega
theorem wfand_8 (v : Int) (h0 : 0 ≤ v) (h1 : v < 4294967296) : bits .and .u32 v 65280 = v / 256 % 256 * 256 := by
 obtain ⟨n, rfl⟩ := Int.eq_ofNat_of_zero_le h0
 have := and32 n 65280 (by omega) (by decide)
 rw [show ((65280 : Nat) : Int) = 65280 from rfl] at this
 have e := and_fld n 8
 rw [this, show (65280 : Nat) = 255 * 2 ^ 8 from rfl, e]
 omega
theorem wfand_16 (v : Int) (h0 : 0 ≤ v) (h1 : v < 4294967296) : bits .and .u32 v 16711680 = v / 65536 % 256 * 65536 := by
 obtain ⟨n, rfl⟩ := Int.eq_ofNat_of_zero_le h0
 have := and32 n 16711680 (by omega) (by decide)
 rw [show ((16711680 : Nat) : Int) = 16711680 from rfl] at this
 have e := and_fld n 16
 rw [this, show (16711680 : Nat) = 255 * 2 ^ 16 from rfl, e]
 omega
theorem bits_split (n : Nat) (i : Nat) : n.testBit i = if i < 8 then (n % 256).testBit i else if i < 16 then (n / 256 % 256).testBit (i - 8) else (n / 65536).testBit (i - 16) := by
 rw [show (256 : Nat) = 2 ^ 8 from rfl, show (65536 : Nat) = 2 ^ 16 from rfl, Nat.testBit_mod_two_pow, Nat.testBit_mod_two_pow, Nat.testBit_div_two_pow, Nat.testBit_div_two_pow]
 by_cases h : i < 8
 ·simp [h]
 ·by_cases h2 : i < 16
  ·have e : i - 8 + 8 = i := by omega
   have e2 : i - 8 < 8 := by omega
   simp [h, h2, e, e2]
  ·have e : i - 16 + 16 = i := by omega
   simp [h, h2, e]
theorem put_nat (n x : Nat) (hx : x < 256) : (n &&& 4294902015) ||| (x * 256) = n % 4294967296 / 65536 * 65536 + x * 256 + n % 256 := by
 apply Nat.eq_of_testBit_eq
 intro i
 rw [Nat.testBit_or, Nat.testBit_and, bits_split 4294902015, bits_split (x * 256), bits_split (n % 4294967296 / 65536 * 65536 + x * 256 + n % 256), bits_split n]
 have a1 : x * 256 % 256 = 0 := by omega
 have a2 : x * 256 / 256 % 256 = x := by omega
 have a3 : x * 256 / 65536 = 0 := by omega
 have b1 : (n % 4294967296 / 65536 * 65536 + x * 256 + n % 256) % 256 = n % 256 := by omega
 have b2 : (n % 4294967296 / 65536 * 65536 + x * 256 + n % 256) / 256 % 256 = x := by omega
 have b3 : (n % 4294967296 / 65536 * 65536 + x * 256 + n % 256) / 65536 = n / 65536 % 65536 := by omega
 rw [a1, a2, a3, b1, b2, b3]
 have c1 : 4294902015 % 256 = 2 ^ 8 - 1 := rfl
 have c2 : 4294902015 / 256 % 256 = 0 := rfl
 have c3 : 4294902015 / 65536 = 2 ^ 16 - 1 := rfl
 rw [c1, c2, c3, show (65536 : Nat) = 2 ^ 16 from rfl, Nat.testBit_two_pow_sub_one, Nat.testBit_two_pow_sub_one, Nat.testBit_mod_two_pow]
 by_cases h : i < 8
 ·simp [h]
 ·by_cases h2 : i < 16
  ·simp [h, h2]
  ·simp [h, h2, Bool.and_comm]
theorem andNot8 (n : Nat) (hn : n < 4294967296) : bits .andNot .u32 (n : Int) 65280 = ((n &&& 4294902015 : Nat) : Int) := by
 have h : n &&& 4294902015 < 4294967296 := Nat.lt_of_le_of_lt Nat.and_le_left hn
 have e : (BitVec.ofInt 32 (n : Int) &&& ~~~ BitVec.ofInt 32 65280 : BitVec 32).toNat = n &&& 4294902015 := by
  rw [BitVec.toNat_and, show (~~~ BitVec.ofInt 32 65280 : BitVec 32).toNat = 4294902015 from by decide]
  simp [Nat.mod_eq_of_lt hn]
 show IntKind.u32.wrap (((BitVec.ofInt 32 (n : Int) &&& ~~~ BitVec.ofInt 32 65280 : BitVec 32).toNat : Nat) : Int) = _
 exact e12
theorem put8 (v x : Int) (hv : W32 v) (hx : W32 x) : bits .or .u32 (bits .andNot .u32 v 65280) (bits .and .u32 (u32 (x * 256)) 65280) = v - v / 256 % 256 * 256 + x % 256 * 256 := by
 have h2 := w32_u32 (x * 256)
 rw [wfand_8 _ h2.1 h2.2]
 obtain ⟨n, rfl⟩ := Int.eq_ofNat_of_zero_le hv.1
 obtain ⟨k, rfl⟩ := Int.eq_ofNat_of_zero_le hx.1
 have hn : n < 4294967296 := by have := hv.2; omega
 rw [andNot8 n hn, show u32 (((k : Nat) : Int) * 256) / 256 % 256 * 256 = ((k % 256 * 256 : Nat) : Int) from by unfold u32; omega]
 rw [or32 _ _ (Nat.lt_of_le_of_lt Nat.and_le_left hn) (by omega), put_nat n (k % 256) (by omega)]
 omega
theorem wffield_0 (w : World) : Calls Tryz.prog 172 #[.int .i64 0, .int .i64 8] w fun e w' => e = .returned (.bool true) ∧ w' = w := e127
theorem wfmask_0 (w : World) : Calls Tryz.prog 173 #[.int .i64 0, .int .i64 8] w fun e w' => e = .returned (.int .u32 255) ∧ w' = w := e128
theorem wfget_0 (v : Int) (hv : W32 v) (w : World) : Calls Tryz.prog 135 #[.int .u32 v, .int .i64 0, .int .i64 8] w fun e w' => e = .returned (.int .u32 (Wf.readers v)) ∧ w' = w := by
 have he := wfand_0 v hv.1 hv.2
 have h2 : Wf.readers v = v / 1 % 256 := by unfold Wf.readers; simp [Int.ediv_one]
 rw [h2]
 replace hv := Lib.hid hv
 replace h2 := Lib.hid h2
 go_enter Tryz.func135, Tryz.ntmps135
 go_wp2_with (first
  | (go_at_call 172; refine (wffield_0 _).mono ?_; rintro e w1 ⟨rfl, rfl⟩)
  | (go_at_call 173; refine (wfmask_0 _).mono ?_; rintro e w1 ⟨rfl, rfl⟩))
 exact e129
theorem wffield_8 (w : World) : Calls Tryz.prog 172 #[.int .i64 8, .int .i64 8] w fun e w' => e = .returned (.bool true) ∧ w' = w := e127
theorem wfmask_8 (w : World) : Calls Tryz.prog 173 #[.int .i64 8, .int .i64 8] w fun e w' => e = .returned (.int .u32 65280) ∧ w' = w := e128
theorem wfget_8 (v : Int) (hv : W32 v) (w : World) : Calls Tryz.prog 135 #[.int .u32 v, .int .i64 8, .int .i64 8] w fun e w' => e = .returned (.int .u32 (Wf.fld v 256)) ∧ w' = w := by
 have he := wfand_8 v hv.1 hv.2
 have h2 : Wf.fld v 256 = v / 256 % 256 := by unfold Wf.fld; simp [Int.ediv_one]
 rw [h2]
 replace hv := Lib.hid hv
 replace h2 := Lib.hid h2
 go_enter Tryz.func135, Tryz.ntmps135
 go_wp2_with (first
  | (go_at_call 172; refine (wffield_8 _).mono ?_; rintro e w1 ⟨rfl, rfl⟩)
  | (go_at_call 173; refine (wfmask_8 _).mono ?_; rintro e w1 ⟨rfl, rfl⟩))
 exact e129
theorem wffield_16 (w : World) : Calls Tryz.prog 172 #[.int .i64 16, .int .i64 8] w fun e w' => e = .returned (.bool true) ∧ w' = w := e127
theorem wfmask_16 (w : World) : Calls Tryz.prog 173 #[.int .i64 16, .int .i64 8] w fun e w' => e = .returned (.int .u32 16711680) ∧ w' = w := e128
theorem wfget_16 (v : Int) (hv : W32 v) (w : World) : Calls Tryz.prog 135 #[.int .u32 v, .int .i64 16, .int .i64 8] w fun e w' => e = .returned (.int .u32 (Wf.fld v 65536)) ∧ w' = w := by
 have he := wfand_16 v hv.1 hv.2
 have h2 : Wf.fld v 65536 = v / 65536 % 256 := by unfold Wf.fld; simp [Int.ediv_one]
 rw [h2]
 replace hv := Lib.hid hv
 replace h2 := Lib.hid h2
 go_enter Tryz.func135, Tryz.ntmps135
 go_wp2_with (first
  | (go_at_call 172; refine (wffield_16 _).mono ?_; rintro e w1 ⟨rfl, rfl⟩)
  | (go_at_call 173; refine (wfmask_16 _).mono ?_; rintro e w1 ⟨rfl, rfl⟩))
 exact e129
theorem wfput_walk (v x : Int) (hv : W32 v) (hx : W32 x) (w : World) : Calls Tryz.prog 209 #[.int .u32 v, .int .i64 8, .int .i64 8, .int .u32 x] w fun e w' => e = .returned (.int .u32 (v - v / 256 % 256 * 256 + x % 256 * 256)) ∧ w' = w := by
 have he := put8 v x hv hx
 replace hv := Lib.hid hv
 replace hx := Lib.hid hx
 replace he := Lib.hid he
 go_enter Tryz.func209, Tryz.ntmps209
 go_wp2_with (first
  | (go_at_call 172; refine (wffield_8 _).mono ?_; rintro e w1 ⟨rfl, rfl⟩)
  | (go_at_call 173; refine (wfmask_8 _).mono ?_; rintro e w1 ⟨rfl, rfl⟩))
 go_ret
 exact ⟨by rw [← he.out]; rfl, rfl⟩
theorem wfbump_walk (v : Int) (hv : W32 v) (w : World) : Calls Tryz.prog 202 #[.int .u32 v, .int .i64 8, .int .i64 8] w fun e w' => e = .returned (.int .u32 (Wf.next v)) ∧ w' = w := by
 have hg := wfget_8 v hv
 have hp := wfput_walk v (u32 (Wf.fld v 256 + 1)) hv (w32_u32 _)
 have he : (v - v / 256 % 256 * 256 + u32 (Wf.fld v 256 + 1) % 256 * 256 - v) % 4294967296 = Wf.next v := by
  unfold Wf.next Wf.fld u32
  omega
 replace hv := Lib.hid hv
 replace he := Lib.hid he
 generalize Wf.fld v 256 = x at hg hp he ⊢
 replace hp : ∀ w : World, Calls Tryz.prog 209 #[.int .u32 v, .int .i64 8, .int .i64 8, .int .u32 ((x + 1) % 4294967296)] w fun e w' => e = .returned (.int .u32 (v - v / 256 % 256 * 256 + u32 (x + 1) % 256 * 256)) ∧ w' = w := hp
 go_enter Tryz.func202, Tryz.ntmps202
 go_wp2_with (first
  | (go_at_call 172; refine (wffield_8 _).mono ?_; rintro e w1 ⟨rfl, rfl⟩)
  | (go_at_call 135; refine (hg _).mono ?_; rintro e w1 ⟨rfl, rfl⟩)
  | (go_at_call 209; refine (hp _).mono ?_; rintro e w1 ⟨rfl, rfl⟩))
 go_ret
 exact ⟨by rw [← he.out]; rfl, rfl⟩
theorem wfreaders_walk (v : Int) (hv : W32 v) (w : World) : Calls Tryz.prog 137 #[.int .u32 v] w fun e w' => e = .returned (.int .u32 (Wf.readers v)) ∧ w' = w := by
 have hg := wfget_0 v hv
 replace hv := Lib.hid hv
 go_enter Tryz.func137, Tryz.ntmps137
 go_wp2_with (go_at_call 135; refine (hg _).mono ?_; rintro e w1 ⟨rfl, rfl⟩)
 go_ret
 exact ⟨rfl, rfl⟩
theorem wfcalm_walk (v : Int) (hv : W32 v) (w : World) : Calls Tryz.prog 134 #[.int .u32 v] w fun e w' => e = .returned (.bool (Wf.calm v)) ∧ w' = w := by
 have hg := wfget_8 v hv
 have hk := wfget_16 v hv
 replace hv := Lib.hid hv
 unfold Wf.calm
 go_enter Tryz.func134, Tryz.ntmps134
 go_wp2_with (first
  | (go_at_call 135; with_reducible refine (hg _).mono ?_; rintro e w1 ⟨rfl, rfl⟩)
  | (go_at_call 135; with_reducible refine (hk _).mono ?_; rintro e w1 ⟨rfl, rfl⟩))
 go_ret
 exact ⟨rfl, rfl⟩
theorem wfnext_walk (v : Int) (hv : W32 v) (w : World) : Calls Tryz.prog 174 #[.int .u32 v] w fun e w' => e = .returned (.int .u32 (Wf.next v)) ∧ w' = w := by
 have hg := wfbump_walk v hv
 replace hv := Lib.hid hv
 go_enter Tryz.func174, Tryz.ntmps174
 go_wp2_with (go_at_call 202; refine (hg _).mono ?_; rintro e w1 ⟨rfl, rfl⟩)
 go_ret
 exact ⟨rfl, rfl⟩
theorem wfreadis0_walk (v : Int) (hv : W32 v) (w : World) : Calls Tryz.prog 177 #[.int .u32 v] w fun e w' => e = .returned (.bool (Wf.readers v == 0)) ∧ w' = w := by
 have hg := wfreaders_walk v hv
 replace hv := Lib.hid hv
 go_enter Tryz.func177, Tryz.ntmps177
 exact e130
theorem wfreadis1_walk (v : Int) (hv : W32 v) (w : World) : Calls Tryz.prog 178 #[.int .u32 v] w fun e w' => e = .returned (.bool (Wf.readers v == 1)) ∧ w' = w := by
 have hg := wfreaders_walk v hv
 replace hv := Lib.hid hv
 go_enter Tryz.func178, Tryz.ntmps178
 exact e130
theorem wftrue_walk (v : Int) (w : World) : Calls Tryz.prog 176 #[.int .u32 v] w fun e w' => e = .returned (.bool true) ∧ w' = w := by
 go_enter Tryz.func176, Tryz.ntmps176
 go_wp2
 go_ret
 exact ⟨rfl, rfl⟩
theorem wf5_tells : Tells B p pm g r false (fun _ => true) 176 #[] w :=
 ⟨⟨_, Tryz.func176, rfl, rfl⟩, fun w1 v hv hf ha => (wftrue_walk v w1).mono (by rintro e w2 ⟨rfl, rfl⟩; exact ⟨rfl, ha, Fr.refl _ _ _ _⟩)⟩
theorem wf6_tells : Tells B p pm g r false (fun v => Wf.readers v == 0) 177 #[] w :=
 ⟨⟨_, Tryz.func177, rfl, rfl⟩, fun w1 v hv hf ha => (wfreadis0_walk v hv w1).mono (by rintro e w2 ⟨rfl, rfl⟩; exact ⟨rfl, ha, Fr.refl _ _ _ _⟩)⟩
theorem wf7_tells : Tells B p pm g r false (fun v => Wf.readers v == 1) 178 #[] w :=
 ⟨⟨_, Tryz.func178, rfl, rfl⟩, fun w1 v hv hf ha => (wfreadis1_walk v hv w1).mono (by rintro e w2 ⟨rfl, rfl⟩; exact ⟨rfl, ha, Fr.refl _ _ _ _⟩)⟩
theorem wfmine_walk (x v : Int) (hv : W32 v) {k : Nat} (hk : w.heap[k]? = some (.cells #[.int .u32 x] 22 (0, 0))) : Calls Tryz.prog 136 #[.int .u32 v, .pointer (some ⟨k, 0, none⟩)] w fun e w' => e = .returned (.bool (Wf.fld v 256 == x && Wf.readers v == 0)) ∧ Below w.heap.size w w' := by
 have c := cell_of_heap (j := 0) hk rfl
 have hg := wfget_8 v hv
 have hr := wfreaders_walk v hv
 replace hk := Lib.hid hk
 replace hv := Lib.hid hv
 cases hb : (Wf.fld v 256 == x)
 all_goals
  go_enter Tryz.func136, Tryz.ntmps136
  go_upto_region 1 with (fail)
  go_quiet (first
   | (go_at_call 135; refine Calls.quiet_of_same (hg _))
   | (go_at_call 137; refine Calls.quiet_of_same (hr _)))
  go_wp2
  go_ret
  exact ⟨rfl, ⟨rfl, rfl, rfl, Nat.le_refl _, fun _ _ => rfl⟩⟩
theorem wfmine_tells {x : Int} {k : Nat} (hk : w.heap[k]? = some (.cells #[.int .u32 x] 22 (0, 0))) (h1 : k ≠ p) (h2 : k ≠ g) : Tells B p pm g r false (fun v => Wf.fld v 256 == x && Wf.readers v == 0) 136 #[.pointer (some ⟨k, 0, none⟩)] w :=
 ⟨⟨_, Tryz.func136, rfl, rfl⟩, fun w1 v hv hf ha => (wfmine_walk x v hv (hf.keep hk h1 h2 (by decide))).mono (by rintro e w2 ⟨rfl, hb⟩; exact ⟨rfl, ha.below hb, Fr.of_below hb⟩)⟩
theorem wfset_tells {b : Nat} (hb : w.heap[b]? = some (.cells #[.pointer (some ⟨p, 4, none⟩)] 175 (0, 0))) (h1 : b ≠ p) (h2 : b ≠ g) : Tells B p pm g r true Wf.calm 133 #[.pointer (some ⟨b, 0, none⟩)] w := by
 refine ⟨⟨_, Tryz.func133, rfl, rfl⟩, fun w1 v hv hf ha => ?_⟩
 have cb := cell_of_heap (j := 0) (hf.keep hb h1 h2 (by decide)) rfl
 have hg := wfcalm_walk v hv
 replace ha := Lib.hid ha
 replace hf := Lib.hid hf
 replace hb := Lib.hid hb
 replace hv := Lib.hid hv
 show Calls _ _ #[.int .u32 v, .pointer (some ⟨b, 0, none⟩)] w1 fun e w2 => e = .returned (.bool (Wf.calm v)) ∧ At B w2 p pm g (kept true r (Wf.calm v) v) ∧ Fr B p g w1 w2
 generalize Wf.calm v = z at hg ⊢
 cases z with
 | true =>
  have hk : kept true r true v = r.setA v := rfl
  rw [hk]
  clear hk
  go_enter Tryz.func133, Tryz.ntmps133
  go_wp2_with (first
   | (go_at_call 134; refine (hg _).mono ?_; rintro e w2 ⟨rfl, rfl⟩)
   | ((with_reducible refine gate_store rfl ?_); refine store_A rfl rfl rfl rfl rfl ha.out ?_; intro w2 ha2 hf2; replace ha2 := Lib.hid ha2; replace hf2 := Lib.hid hf2))
  go_ret
  exact ⟨rfl, ha2.out, hf2.out⟩
 | false =>
  have hk : kept true r false v = r := rfl
  rw [hk]
  clear hk
  go_enter Tryz.func133, Tryz.ntmps133
  go_wp2_with (go_at_call 134; refine (hg _).mono ?_; rintro e w2 ⟨rfl, rfl⟩)
  go_ret
  exact ⟨rfl, ha.out, Fr.refl _ _ _ _⟩
theorem Car.setA2 (h : Car B w0 w p pm g r m) (v : Int) (hv : v = r.acc.old) : Car B w0 (w.setCell ⟨p, 6, none⟩ (.int .u32 v)) p pm g (r.setA v) m :=
 h.to (h.at_.store 6 (.int .u32 v) (r.setA v) (fun _ => rfl) rfl rfl) ((Fr.refl B p g w).set ⟨p, 6, none⟩ (.inl rfl) _) (h.ok.setA (by rw [hv]; exact h.ok.old)) h.few
set_option maxHeartbeats 2000000 in
theorem wfend_walk (h : At B w p pm g r) (hn : r.notes.length ≤ 900) (wk : Bool) (xs : List Int) (hx : xs.length ≤ 5) {sb cap : Nat} {cs : Array Value} (hb : w.heap[sb]? = some (.cells cs 3 (0, 0))) (hc : ∀ i, i < xs.length → cs[i]? = some (.int .i64 (xs.getD i 0))) (h1 : sb ≠ p) (h2 : sb ≠ g) :
  Calls Tryz.prog 132 #[.pointer (some ⟨p, 0, none⟩), .bool wk, .slice (some ⟨sb, 0, none⟩) xs.length cap] w fun e w' => e = .returned (.tuple #[]) ∧ At B w' p pm g (Rf.end_ r wk xs) ∧ Fr B p g w w' := by
 have hE : Rf.end_ r wk xs = ((if wk then (notes_ r xs).wake 0 else notes_ r xs).fin true) := rfl
 rw [hE]
 clear hE
 obtain ⟨n, hnx⟩ : ∃ n, n = xs.length := ⟨_, rfl⟩
 rw [← hnx]
 have hn100 : n ≤ 100 := by omega
 replace h := Lib.hid h
 replace hn := Lib.hid hn
 replace hb := Lib.hid hb
 replace hc := Lib.hid hc
 replace hnx := Lib.hid hnx
 replace hx := Lib.hid hx
 go_enter Tryz.func132, Tryz.ntmps132
 go_wp2
 go_loopw [10] (fun i wr => ∃ k : Nat, k ≤ n ∧ i = .int .i64 k ∧ Hid (At B wr p pm g (notes_ r (xs.take k))) ∧ Hid (Fr B p g w wr)) (fun i _ => n - (intOf i).toNat)
 case atStart => exact ⟨0, Nat.zero_le _, rfl, h.out, Fr.refl _ _ _ _⟩
 case round =>
  obtain ⟨k, hk, rfl, hA, hF⟩ := hrel
  by_cases hlt : k < n
  ·have hl2 : k < xs.length := by rw [← hnx.out]; exact hlt
   have he := cell_of_heap (hF.out.keep hb.out h1 h2 (by decide)) (hc.out k hl2)
   have hlen : (notes_ r (xs.take k)).notes.length ≤ 1000 := by
    rw [notes_len, List.length_take]
    have := hn.out; have := hx.out; omega
   have hs := notes_snoc r xs k hl2
   obtain ⟨x, hxx⟩ : ∃ x, x = xs.getD k 0 := ⟨_, rfl⟩
   rw [← hxx] at hs he
   clear hxx
   replace hs := Lib.hid hs
   replace hl2 := Lib.hid hl2
   replace hlen := Lib.hid hlen
   go_wp2_with (go_at_call 105; refine (note_run hA.out _ _ hlen.out).mono ?_; rintro e w1 ⟨rfl, hA1, hF1⟩; rw [← hs.out] at hA1; replace hA1 := Lib.hid hA1; replace hF1 := Lib.hid (hF.out.trans hF1))
   go_roundw
   case rel => exact ⟨k + 1, by omega, by go_num, hA1, hF1⟩
   case measure => simp [intOf]; omega
  ·obtain rfl : k = n := by omega
   have ht : xs.take k = xs := List.take_of_length_le (by rw [← hnx.out]; exact Nat.le_refl _)
   rw [ht] at hA
   clear ht
   cases wk with
   | true =>
    go_wp2_with (first
     | (go_at_call 106; refine (wake_run hA.out _).mono ?_; rintro e w1 ⟨rfl, hA1, hF1⟩; replace hA1 := Lib.hid hA1; replace hF1 := Lib.hid (hF.out.trans hF1))
     | (go_at_call 107; refine (end_run hA1.out _).mono ?_; rintro e w1 ⟨rfl, hA2, hF2⟩; replace hA2 := Lib.hid hA2; replace hF2 := Lib.hid (hF1.out.trans hF2)))
    first | go_end0 | ((try simp only [Exit.inBlock, Exit.then]); refine bodyPost_ret (results_none rfl _ _ _) rfl ?_)
    exact ⟨rfl, hA2.out, hF2.out⟩
   | false =>
    go_wp2_with (go_at_call 107; refine (end_run hA.out _).mono ?_; rintro e w1 ⟨rfl, hA2, hF2⟩; replace hA2 := Lib.hid hA2; replace hF2 := Lib.hid (hF.out.trans hF2))
    first | go_end0 | ((try simp only [Exit.inBlock, Exit.then]); refine bodyPost_ret (results_none rfl _ _ _) rfl ?_)
    exact ⟨rfl, hA2.out, hF2.out⟩
theorem wfend1_step {w0 : World} {m : Nat} {Q : Ending → World → Prop} (h : Hid (Car B w0 w p pm g r m)) (hm : m ≤ 900) (wk : Bool) (x : Int) (k : ∀ w1, Fr B p g w w1 → Hid (Car B w0 w1 p pm g (Rf.end_ r wk [x]) (m + 1)) → Q (.returned (.tuple #[])) w1) :
  Calls Tryz.prog 132 #[.pointer (some ⟨p, 0, none⟩), .bool wk, .slice (some ⟨w.heap.size, 0, none⟩) 1 1] (w.alloc (.cells #[.int .i64 x] 3)) Q := by
 have h := h.out
 have h1 := h.at_.lt
 have h2 := h.at_.mem.lt.2
 have h3 := h.few
 refine (wfend_walk (h.at_.alloc (.cells #[.int .i64 x] 3)) (by omega) wk [x] (by simp) (heap_alloc_new _ _) (by intro i hi; obtain rfl : i = 0 := (by simp at hi; exact hi); rfl) (by omega) (by omega)).mono ?_
 rintro e w1 ⟨rfl, ha, hf⟩
 have hf := ((Fr.refl B p g w).alloc (.cells #[.int .i64 x] 3)).trans hf
 exact k w1 hf (h.to ha hf (ok_end h.ok wk [x]) (by rw [end_len]; simp; exact h3))
theorem wfend2_step {w0 : World} {m : Nat} {Q : Ending → World → Prop} (h : Hid (Car B w0 w p pm g r m)) (hm : m ≤ 900) (wk : Bool) (x y : Int) (k : ∀ w1, Fr B p g w w1 → Hid (Car B w0 w1 p pm g (Rf.end_ r wk [x, y]) (m + 2)) → Q (.returned (.tuple #[])) w1) :
  Calls Tryz.prog 132 #[.pointer (some ⟨p, 0, none⟩), .bool wk, .slice (some ⟨w.heap.size, 0, none⟩) 2 2] (w.alloc (.cells #[.int .i64 x, .int .i64 y] 3)) Q := by
 have h := h.out
 have h1 := h.at_.lt
 have h2 := h.at_.mem.lt.2
 have h3 := h.few
 refine (wfend_walk (h.at_.alloc (.cells #[.int .i64 x, .int .i64 y] 3)) (by omega) wk [x, y] (by simp) (heap_alloc_new _ _) (by intro i hi; rcases (by simp at hi; omega : i = 0 ∨ i = 1) with rfl | rfl <;> rfl) (by omega) (by omega)).mono ?_
 rintro e w1 ⟨rfl, ha, hf⟩
 have hf := ((Fr.refl B p g w).alloc (.cells #[.int .i64 x, .int .i64 y] 3)).trans hf
 exact k w1 hf (h.to ha hf (ok_end h.ok wk [x, y]) (by rw [end_len]; simp; exact h3))
set_option maxHeartbeats 2000000 in
theorem wfcalmly_step (h : Hid (Car B w0 w p pm g r m)) (k : ∀ w1, Fr B p g w w1 → Hid (Car B w0 w1 p pm g (Wf.calmly r) m) → Q (.returned (.tuple #[])) w1) : Calls Tryz.prog 131 #[.pointer (some ⟨p, 0, none⟩)] w Q := by
 suffices H : Calls Tryz.prog 131 #[.pointer (some ⟨p, 0, none⟩)] w fun e w' => e = .returned (.tuple #[]) ∧ Car B w w' p pm g (Wf.calmly r) m by
  refine H.mono ?_
  rintro e w1 ⟨rfl, hc⟩
  exact k w1 hc.fr ⟨hc.at_, h.out.fr.trans hc.fr, hc.ok, hc.few⟩
 have hc : Hid (Car B w w p pm g r m) := ⟨h.out.at_, Fr.refl _ _ _ _, h.out.ok, h.out.few⟩
 have c6 := hc.out.c6
 have c7 := hc.out.c7
 have hr : Wf.calmly r = if Wf.calm (r.load 0).old = true then (((r.load 0).setA (r.load 0).old).go 2).go 1 else ((r.load 0).setA (r.load 0).old).go 2 := rfl
 rw [hr]
 replace k := Lib.hid k
 replace h := Lib.hid h
 clear hr
 cases hz : Wf.calm (r.load 0).old
 all_goals
  replace hz := Lib.hid hz
  go_enter Tryz.func131, Tryz.ntmps131
  go_wp2_with (first
   | (go_at_call 112; (try clear c6); (try clear c7); go_must (refine load_step hc _ ?_; intro w1 f1 hc c6 c7; clear f1))
   | ((with_reducible refine gate_store rfl ?_); refine stA_step hc rfl rfl rfl rfl rfl rfl ?_; clear c6 c7; intro w1 f1 hc c6 c7; clear f1)
   | (go_at_call 102; (try clear c6); (try clear c7); go_must (refine go_step hc _ ?_; intro w1 f1 hc c6 c7; replace c6 : w1.cell? ⟨p, 6, none⟩ = some (.int .u32 (r.load 0).old) := c6; clear f1))
   | (go_at_call 134; go_must (refine (wfcalm_walk ((r.load 0).old) hc.out.ok.a _).mono ?_; rintro e w1 ⟨rfl, rfl⟩; rw [hz.out])))
  first | go_end0 | ((try simp only [Exit.inBlock, Exit.then]); refine bodyPost_ret (results_none rfl _ _ _) rfl ?_)
  exact ⟨rfl, hc.out⟩
def wfseen (r : Run) : Run := (r.load 0).setA (r.load 0).old
set_option maxHeartbeats 2000000 in
theorem wfchoose_walk (h : At B w p pm g r) (hO : Ok r) (hn : r.notes.length ≤ 800) (may : Int → Bool) (kf : Nat) (caps : Array Value) (hT : Tells B p pm g (wfseen r) false may kf caps w) : Calls Tryz.prog 175 #[.pointer (some ⟨p, 0, none⟩), .func (.func kf) #[] caps] w fun e w' => e = .returned (.tuple #[]) ∧ At B w' p pm g (Wf.choose r may) ∧ Fr B p g w w' := by
 have hA := Lib.hid h
 have hF := Lib.hid (Fr.refl B p g w)
 have hr : Wf.choose r may = if (Wf.calm (r.load 0).old && may (r.load 0).old) = true then (wfseen r).go 1 else ((wfseen r).note 5 0).fin false := rfl
 rw [hr]
 clear hr
 have hN : (wfseen r).notes.length ≤ 1000 := by show r.notes.length ≤ 1000; omega
 have h32 : W32 (r.load 0).old := (hO.load 0).old
 obtain ⟨v, hv⟩ : ∃ v, v = (r.load 0).old := ⟨_, rfl⟩
 have hl := fun W' (hW' : At B W' p pm g r) => load_run hW' 0
 have hs : (r.load 0).setA v = wfseen r := by rw [hv]; rfl
 rw [← hv] at hl h32 ⊢
 have hC := wfcalm_walk v h32
 obtain ⟨m, hm⟩ : ∃ m, m = may v := ⟨_, rfl⟩
 obtain ⟨z, hz⟩ : ∃ z, z = Wf.calm v := ⟨_, rfl⟩
 rw [← hm, ← hz]
 rw [← hz] at hC
 replace h := Lib.hid h
 replace hO := Lib.hid hO
 replace hn := Lib.hid hn
 replace hN := Lib.hid hN
 replace h32 := Lib.hid h32
 replace hv := Lib.hid hv
 replace hs := Lib.hid hs
 replace hl := Lib.hid hl
 replace hT := Lib.hid hT
 replace hm := Lib.hid hm
 replace hz := Lib.hid hz
 replace hC := Lib.hid hC
 cases z <;> cases m
 all_goals
  go_enter Tryz.func175, Tryz.ntmps175
  go_wp2_with (first
   | (go_at_call 112; go_must (refine (hl.out _ hA.out).mono ?_; rintro e w1 ⟨rfl, hA1, hF1⟩; replace hF := Lib.hid (hF.out.trans hF1); replace hA := Lib.hid hA1; clear hF1))
   | ((with_reducible refine gate_store rfl ?_); refine store_A rfl rfl rfl rfl rfl hA.out ?_; intro w1 hA1 hF1; rw [hs.out] at hA1; replace hF := Lib.hid (hF.out.trans hF1); replace hA := Lib.hid hA1; clear hF1; have c6 := hA.out.cell 6 (v := .int .u32 v) (fun _ => by rw [hv.out]; rfl))
   | (go_at_call 134; go_must (refine (hC.out _).mono ?_; rintro e w1 ⟨rfl, rfl⟩))
   | ((with_reducible refine gate_dst (N := 23) rfl ?_); go_must (refine goesV_ (some 23) rfl rfl (kf := kf) (caps := caps) rfl hT.out.1 #[.int .u32 v] rfl (by simp only [List.map_toArray, List.map_cons, List.map_nil]; rfl) ?_; refine (hT.out.2 _ v h32.out hF.out hA.out).mono ?_; rintro e w1 ⟨rfl, hA1, hF1⟩; rw [kept_false] at hA1; rw [← hm.out]; refine ⟨_, rfl, ?_⟩; replace hF := Lib.hid (hF.out.trans hF1); replace hA := Lib.hid hA1; clear hF1; clear c6))
   | (go_at_call 102; go_must (refine (go_run hA.out _).mono ?_; rintro e w1 ⟨rfl, hA1, hF1⟩; replace hF := Lib.hid (hF.out.trans hF1); replace hA := Lib.hid hA1; clear hF1))
   | (go_at_call 105; go_must (refine (note_run hA.out _ _ hN.out).mono ?_; rintro e w1 ⟨rfl, hA1, hF1⟩; replace hF := Lib.hid (hF.out.trans hF1); replace hA := Lib.hid hA1; clear hF1))
   | (go_at_call 107; go_must (refine (end_run hA.out _).mono ?_; rintro e w1 ⟨rfl, hA1, hF1⟩; replace hF := Lib.hid (hF.out.trans hF1); replace hA := Lib.hid hA1; clear hF1)))
  first | go_end0 | ((try simp only [Exit.inBlock, Exit.then]); refine bodyPost_ret (results_none rfl _ _ _) rfl ?_)
  exact ⟨rfl, hA.out, hF.out⟩
theorem wfchoose_step (h : Hid (Car B w0 w p pm g r m)) (hm : m ≤ 800) (may : Int → Bool) {kf : Nat} {caps : Array Value} (hT : Tells B p pm g (wfseen r) false may kf caps w) (k : ∀ w1, Fr B p g w w1 → Hid (Car B w0 w1 p pm g (Wf.choose r may) (m + 1)) → Q (.returned (.tuple #[])) w1) :
  Calls Tryz.prog 175 #[.pointer (some ⟨p, 0, none⟩), .func (.func kf) #[] caps] w Q := by
 have h := h.out
 refine (wfchoose_walk h.at_ h.ok (Nat.le_trans h.few hm) may kf caps hT).mono ?_
 rintro e w1 ⟨rfl, ha, hf⟩
 have hr : Wf.choose r may = if (Wf.calm (r.load 0).old && may (r.load 0).old) = true then (wfseen r).go 1 else ((wfseen r).note 5 0).fin false := rfl
 have ho : Ok (wfseen r) := (h.ok.load 0).setA (h.ok.load 0).old
 have hf2 : (wfseen r).notes.length ≤ m := h.few
 refine k w1 hf (h.to ha hf ?_ ?_)
 ·rw [hr]; split
  ·exact ho.go 1
  ·exact (ho.note 5 0).fin false
 ·rw [hr]; split
  ·exact Nat.le_succ_of_le hf2
  ·show ((wfseen r).note 5 0).notes.length ≤ m + 1
   rw [n_note]; omega
set_option maxHeartbeats 4000000 in
theorem wfs_5_t (h : At B w p pm g r) (hO : Ok r) (hn : r.notes = []) (hln : r.f.line = 1) (hcs : (r.cas 0 r.f.a (u32 (r.f.a + 1))).hitCas r.f.a = true) : Calls Tryz.prog 179 #[.pointer (some ⟨p, 0, none⟩), .int .u32 1, .int .i64 1, .int .i64 4] w fun e w' => e = .returned (.tuple #[]) ∧ At B w' p pm g (Wf.swap r 1 1 4) ∧ Fr B p g w w' := e131
set_option maxHeartbeats 4000000 in
theorem wfs_5_f (h : At B w p pm g r) (hO : Ok r) (hn : r.notes = []) (hln : r.f.line = 1) (hcs : (r.cas 0 r.f.a (u32 (r.f.a + 1))).hitCas r.f.a = false) : Calls Tryz.prog 179 #[.pointer (some ⟨p, 0, none⟩), .int .u32 1, .int .i64 1, .int .i64 4] w fun e w' => e = .returned (.tuple #[]) ∧ At B w' p pm g (Wf.swap r 1 1 4) ∧ Fr B p g w w' := e132
set_option maxHeartbeats 4000000 in
theorem wfs_6_t (h : At B w p pm g r) (hO : Ok r) (hn : r.notes = []) (hln : r.f.line = 1) (hcs : (r.cas 0 r.f.a (u32 (r.f.a + 65536))).hitCas r.f.a = true) : Calls Tryz.prog 179 #[.pointer (some ⟨p, 0, none⟩), .int .u32 65536, .int .i64 2, .int .i64 4] w fun e w' => e = .returned (.tuple #[]) ∧ At B w' p pm g (Wf.swap r 65536 2 4) ∧ Fr B p g w w' := e131
set_option maxHeartbeats 4000000 in
theorem wfs_6_f (h : At B w p pm g r) (hO : Ok r) (hn : r.notes = []) (hln : r.f.line = 1) (hcs : (r.cas 0 r.f.a (u32 (r.f.a + 65536))).hitCas r.f.a = false) : Calls Tryz.prog 179 #[.pointer (some ⟨p, 0, none⟩), .int .u32 65536, .int .i64 2, .int .i64 4] w fun e w' => e = .returned (.tuple #[]) ∧ At B w' p pm g (Wf.swap r 65536 2 4) ∧ Fr B p g w w' := e132
set_option maxHeartbeats 4000000 in
theorem wfs_7_t (h : At B w p pm g r) (hO : Ok r) (hn : r.notes = []) (hln : r.f.line = 1) (hcs : (r.cas 0 r.f.a (u32 (r.f.a + 65535))).hitCas r.f.a = true) : Calls Tryz.prog 179 #[.pointer (some ⟨p, 0, none⟩), .int .u32 65535, .int .i64 0, .int .i64 9] w fun e w' => e = .returned (.tuple #[]) ∧ At B w' p pm g (Wf.swap r 65535 0 9) ∧ Fr B p g w w' := e131
set_option maxHeartbeats 4000000 in
theorem wfs_7_f (h : At B w p pm g r) (hO : Ok r) (hn : r.notes = []) (hln : r.f.line = 1) (hcs : (r.cas 0 r.f.a (u32 (r.f.a + 65535))).hitCas r.f.a = false) : Calls Tryz.prog 179 #[.pointer (some ⟨p, 0, none⟩), .int .u32 65535, .int .i64 0, .int .i64 9] w fun e w' => e = .returned (.tuple #[]) ∧ At B w' p pm g (Wf.swap r 65535 0 9) ∧ Fr B p g w w' := e132
set_option maxHeartbeats 4000000 in
theorem wfl_4_0 (h : At B w p pm g r) (hO : Ok r) (hn : r.notes = []) (hop : r.f.op = 4) (hln : r.f.line = 0) : Calls Tryz.prog 138 #[.pointer (some ⟨p, 0, none⟩)] w fun e w' => e = .returned (.tuple #[]) ∧ At B w' p pm g (Wf.leaves r) ∧ Fr B p g w w' := e133
set_option maxHeartbeats 4000000 in
theorem wfl_8_0 (h : At B w p pm g r) (hO : Ok r) (hn : r.notes = []) (hop : r.f.op = 8) (hln : r.f.line = 0) : Calls Tryz.prog 138 #[.pointer (some ⟨p, 0, none⟩)] w fun e w' => e = .returned (.tuple #[]) ∧ At B w' p pm g (Wf.leaves r) ∧ Fr B p g w w' := e133
set_option maxHeartbeats 4000000 in
theorem wfl_4_1 (h : At B w p pm g r) (hO : Ok r) (hn : r.notes = []) (hop : r.f.op = 4) (hln : r.f.line = 1) : Calls Tryz.prog 138 #[.pointer (some ⟨p, 0, none⟩)] w fun e w' => e = .returned (.tuple #[]) ∧ At B w' p pm g (Wf.leaves r) ∧ Fr B p g w w' := by
 obtain ⟨hc, c4, c5, c6, c7⟩ := start h hO hn hop hln
 replace h := Lib.hid h
 replace hO := Lib.hid hO
 replace hn := Lib.hid hn
 replace hop := Lib.hid hop
 replace hln := Lib.hid hln
 go_enter Tryz.func138, Tryz.ntmps138
 go_upto_region 1 with (fail)
 go_quiet (fail)
 replace hc := Lib.hid (hc.out.drewN nq)
 go_wp2_with (first
  | (go_at_call 174; go_must (refine (wfnext_walk r.f.a hc.out.ok.a _).mono ?_; rintro e w1 ⟨rfl, rfl⟩))
  | (go_at_call 104; (try clear c6); (try clear c7); go_must (refine add_step hc _ _ (show W32 (Wf.next r.f.a) from w32_u32 _) ?_; intro w1 f1 hc c6 c7; clear f1))
  | (go_at_call 132; (try clear c6); (try clear c7); go_must (refine wfend2_step hc (by decide) _ _ _ ?_; intro w1 f1 hc; clear f1)))
 exact e134
set_option maxHeartbeats 4000000 in
theorem wfl_8_1 (h : At B w p pm g r) (hO : Ok r) (hn : r.notes = []) (hop : r.f.op = 8) (hln : r.f.line = 1) : Calls Tryz.prog 138 #[.pointer (some ⟨p, 0, none⟩)] w fun e w' => e = .returned (.tuple #[]) ∧ At B w' p pm g (Wf.leaves r) ∧ Fr B p g w w' := by
 obtain ⟨hc, c4, c5, c6, c7⟩ := start h hO hn hop hln
 replace h := Lib.hid h
 replace hO := Lib.hid hO
 replace hn := Lib.hid hn
 replace hop := Lib.hid hop
 replace hln := Lib.hid hln
 go_enter Tryz.func138, Tryz.ntmps138
 go_upto_region 1 with (fail)
 go_quiet (fail)
 replace hc := Lib.hid (hc.out.drewN nq)
 go_wp2_with (first
  | (go_at_call 174; go_must (refine (wfnext_walk r.f.a hc.out.ok.a _).mono ?_; rintro e w1 ⟨rfl, rfl⟩))
  | (go_at_call 104; (try clear c6); (try clear c7); go_must (refine add_step hc _ _ (show W32 (u32 (Wf.next r.f.a + 1)) from w32_u32 _) ?_; intro w1 f1 hc c6 c7; clear f1))
  | (go_at_call 132; (try clear c6); (try clear c7); go_must (refine wfend1_step hc (by decide) _ _ ?_; intro w1 f1 hc; clear f1)))
 exact e134
set_option maxHeartbeats 4000000 in
theorem wfl_5_0 (h : At B w p pm g r) (hO : Ok r) (hn : r.notes = []) (hop : r.f.op = 5) (hln : r.f.line = 0) : Calls Tryz.prog 138 #[.pointer (some ⟨p, 0, none⟩)] w fun e w' => e = .returned (.tuple #[]) ∧ At B w' p pm g (Wf.leaves r) ∧ Fr B p g w w' := by
 obtain ⟨hc, c4, c5, c6, c7⟩ := start h hO hn hop hln
 replace h := Lib.hid h
 replace hO := Lib.hid hO
 replace hn := Lib.hid hn
 replace hop := Lib.hid hop
 replace hln := Lib.hid hln
 go_enter Tryz.func138, Tryz.ntmps138
 go_upto_region 1 with (fail)
 go_quiet (fail)
 replace hc := Lib.hid (hc.out.drewN nq)
 go_wp2_with (first
  | (go_at_call 175; (try clear c6); (try clear c7); go_must (refine wfchoose_step hc (by decide) (fun _ => true) wf5_tells ?_; intro w1 f1 hc; clear f1)))
 exact e134
set_option maxHeartbeats 4000000 in
theorem wfl_5_1_t (h : At B w p pm g r) (hO : Ok r) (hn : r.notes = []) (hop : r.f.op = 5) (hln : r.f.line = 1) (hcs : (r.cas 0 r.f.a (u32 (r.f.a + 1))).hitCas r.f.a = true) : Calls Tryz.prog 138 #[.pointer (some ⟨p, 0, none⟩)] w fun e w' => e = .returned (.tuple #[]) ∧ At B w' p pm g (Wf.leaves r) ∧ Fr B p g w w' := by
 obtain ⟨hc, c4, c5, c6, c7⟩ := start h hO hn hop hln
 replace h := Lib.hid h
 replace hO := Lib.hid hO
 replace hn := Lib.hid hn
 replace hop := Lib.hid hop
 replace hln := Lib.hid hln
 replace hcs := Lib.hid hcs
 go_enter Tryz.func138, Tryz.ntmps138
 go_upto_region 1 with (fail)
 go_quiet (fail)
 replace hc := Lib.hid (hc.out.drewN nq)
 go_wp2_with (first
  | (go_at_call 179; go_must (refine (wfs_5_t (hc.out.at_) hc.out.ok (List.length_eq_zero_iff.1 (Nat.le_zero.1 hc.out.few)) hln.out hcs.out).mono ?_; rintro e w1 ⟨rfl, hA1, hF1⟩)))
 exact e135
set_option maxHeartbeats 4000000 in
theorem wfl_5_1_f (h : At B w p pm g r) (hO : Ok r) (hn : r.notes = []) (hop : r.f.op = 5) (hln : r.f.line = 1) (hcs : (r.cas 0 r.f.a (u32 (r.f.a + 1))).hitCas r.f.a = false) : Calls Tryz.prog 138 #[.pointer (some ⟨p, 0, none⟩)] w fun e w' => e = .returned (.tuple #[]) ∧ At B w' p pm g (Wf.leaves r) ∧ Fr B p g w w' := by
 obtain ⟨hc, c4, c5, c6, c7⟩ := start h hO hn hop hln
 replace h := Lib.hid h
 replace hO := Lib.hid hO
 replace hn := Lib.hid hn
 replace hop := Lib.hid hop
 replace hln := Lib.hid hln
 replace hcs := Lib.hid hcs
 go_enter Tryz.func138, Tryz.ntmps138
 go_upto_region 1 with (fail)
 go_quiet (fail)
 replace hc := Lib.hid (hc.out.drewN nq)
 go_wp2_with (first
  | (go_at_call 179; go_must (refine (wfs_5_f (hc.out.at_) hc.out.ok (List.length_eq_zero_iff.1 (Nat.le_zero.1 hc.out.few)) hln.out hcs.out).mono ?_; rintro e w1 ⟨rfl, hA1, hF1⟩)))
 exact e135
set_option maxHeartbeats 4000000 in
theorem wfl_6_0 (h : At B w p pm g r) (hO : Ok r) (hn : r.notes = []) (hop : r.f.op = 6) (hln : r.f.line = 0) : Calls Tryz.prog 138 #[.pointer (some ⟨p, 0, none⟩)] w fun e w' => e = .returned (.tuple #[]) ∧ At B w' p pm g (Wf.leaves r) ∧ Fr B p g w w' := by
 obtain ⟨hc, c4, c5, c6, c7⟩ := start h hO hn hop hln
 replace h := Lib.hid h
 replace hO := Lib.hid hO
 replace hn := Lib.hid hn
 replace hop := Lib.hid hop
 replace hln := Lib.hid hln
 go_enter Tryz.func138, Tryz.ntmps138
 go_upto_region 1 with (fail)
 go_quiet (fail)
 replace hc := Lib.hid (hc.out.drewN nq)
 go_wp2_with (first
  | (go_at_call 175; (try clear c6); (try clear c7); go_must (refine wfchoose_step hc (by decide) (fun v => Wf.readers v == 0) wf6_tells ?_; intro w1 f1 hc; clear f1)))
 exact e134
set_option maxHeartbeats 4000000 in
theorem wfl_6_1_t (h : At B w p pm g r) (hO : Ok r) (hn : r.notes = []) (hop : r.f.op = 6) (hln : r.f.line = 1) (hcs : (r.cas 0 r.f.a (u32 (r.f.a + 65536))).hitCas r.f.a = true) : Calls Tryz.prog 138 #[.pointer (some ⟨p, 0, none⟩)] w fun e w' => e = .returned (.tuple #[]) ∧ At B w' p pm g (Wf.leaves r) ∧ Fr B p g w w' := by
 obtain ⟨hc, c4, c5, c6, c7⟩ := start h hO hn hop hln
 replace h := Lib.hid h
 replace hO := Lib.hid hO
 replace hn := Lib.hid hn
 replace hop := Lib.hid hop
 replace hln := Lib.hid hln
 replace hcs := Lib.hid hcs
 go_enter Tryz.func138, Tryz.ntmps138
 go_upto_region 1 with (fail)
 go_quiet (fail)
 replace hc := Lib.hid (hc.out.drewN nq)
 go_wp2_with (first
  | (go_at_call 179; go_must (refine (wfs_6_t (hc.out.at_) hc.out.ok (List.length_eq_zero_iff.1 (Nat.le_zero.1 hc.out.few)) hln.out hcs.out).mono ?_; rintro e w1 ⟨rfl, hA1, hF1⟩)))
 exact e135
set_option maxHeartbeats 4000000 in
theorem wfl_6_1_f (h : At B w p pm g r) (hO : Ok r) (hn : r.notes = []) (hop : r.f.op = 6) (hln : r.f.line = 1) (hcs : (r.cas 0 r.f.a (u32 (r.f.a + 65536))).hitCas r.f.a = false) : Calls Tryz.prog 138 #[.pointer (some ⟨p, 0, none⟩)] w fun e w' => e = .returned (.tuple #[]) ∧ At B w' p pm g (Wf.leaves r) ∧ Fr B p g w w' := by
 obtain ⟨hc, c4, c5, c6, c7⟩ := start h hO hn hop hln
 replace h := Lib.hid h
 replace hO := Lib.hid hO
 replace hn := Lib.hid hn
 replace hop := Lib.hid hop
 replace hln := Lib.hid hln
 replace hcs := Lib.hid hcs
 go_enter Tryz.func138, Tryz.ntmps138
 go_upto_region 1 with (fail)
 go_quiet (fail)
 replace hc := Lib.hid (hc.out.drewN nq)
 go_wp2_with (first
  | (go_at_call 179; go_must (refine (wfs_6_f (hc.out.at_) hc.out.ok (List.length_eq_zero_iff.1 (Nat.le_zero.1 hc.out.few)) hln.out hcs.out).mono ?_; rintro e w1 ⟨rfl, hA1, hF1⟩)))
 exact e135
set_option maxHeartbeats 4000000 in
theorem wfl_7_0 (h : At B w p pm g r) (hO : Ok r) (hn : r.notes = []) (hop : r.f.op = 7) (hln : r.f.line = 0) : Calls Tryz.prog 138 #[.pointer (some ⟨p, 0, none⟩)] w fun e w' => e = .returned (.tuple #[]) ∧ At B w' p pm g (Wf.leaves r) ∧ Fr B p g w w' := by
 obtain ⟨hc, c4, c5, c6, c7⟩ := start h hO hn hop hln
 replace h := Lib.hid h
 replace hO := Lib.hid hO
 replace hn := Lib.hid hn
 replace hop := Lib.hid hop
 replace hln := Lib.hid hln
 go_enter Tryz.func138, Tryz.ntmps138
 go_upto_region 1 with (fail)
 go_quiet (fail)
 replace hc := Lib.hid (hc.out.drewN nq)
 go_wp2_with (first
  | (go_at_call 175; (try clear c6); (try clear c7); go_must (refine wfchoose_step hc (by decide) (fun v => Wf.readers v == 1) wf7_tells ?_; intro w1 f1 hc; clear f1)))
 exact e134
set_option maxHeartbeats 4000000 in
theorem wfl_7_1_t (h : At B w p pm g r) (hO : Ok r) (hn : r.notes = []) (hop : r.f.op = 7) (hln : r.f.line = 1) (hcs : (r.cas 0 r.f.a (u32 (r.f.a + 65535))).hitCas r.f.a = true) : Calls Tryz.prog 138 #[.pointer (some ⟨p, 0, none⟩)] w fun e w' => e = .returned (.tuple #[]) ∧ At B w' p pm g (Wf.leaves r) ∧ Fr B p g w w' := by
 obtain ⟨hc, c4, c5, c6, c7⟩ := start h hO hn hop hln
 replace h := Lib.hid h
 replace hO := Lib.hid hO
 replace hn := Lib.hid hn
 replace hop := Lib.hid hop
 replace hln := Lib.hid hln
 replace hcs := Lib.hid hcs
 go_enter Tryz.func138, Tryz.ntmps138
 go_upto_region 1 with (fail)
 go_quiet (fail)
 replace hc := Lib.hid (hc.out.drewN nq)
 go_wp2_with (first
  | (go_at_call 179; go_must (refine (wfs_7_t (hc.out.at_) hc.out.ok (List.length_eq_zero_iff.1 (Nat.le_zero.1 hc.out.few)) hln.out hcs.out).mono ?_; rintro e w1 ⟨rfl, hA1, hF1⟩)))
 exact e135
set_option maxHeartbeats 4000000 in
theorem wfl_7_1_f (h : At B w p pm g r) (hO : Ok r) (hn : r.notes = []) (hop : r.f.op = 7) (hln : r.f.line = 1) (hcs : (r.cas 0 r.f.a (u32 (r.f.a + 65535))).hitCas r.f.a = false) : Calls Tryz.prog 138 #[.pointer (some ⟨p, 0, none⟩)] w fun e w' => e = .returned (.tuple #[]) ∧ At B w' p pm g (Wf.leaves r) ∧ Fr B p g w w' := by
 obtain ⟨hc, c4, c5, c6, c7⟩ := start h hO hn hop hln
 replace h := Lib.hid h
 replace hO := Lib.hid hO
 replace hn := Lib.hid hn
 replace hop := Lib.hid hop
 replace hln := Lib.hid hln
 replace hcs := Lib.hid hcs
 go_enter Tryz.func138, Tryz.ntmps138
 go_upto_region 1 with (fail)
 go_quiet (fail)
 replace hc := Lib.hid (hc.out.drewN nq)
 go_wp2_with (first
  | (go_at_call 179; go_must (refine (wfs_7_f (hc.out.at_) hc.out.ok (List.length_eq_zero_iff.1 (Nat.le_zero.1 hc.out.few)) hln.out hcs.out).mono ?_; rintro e w1 ⟨rfl, hA1, hF1⟩)))
 exact e135
set_option maxHeartbeats 4000000 in
theorem wf_1_0 (h : At B w p pm g r) (hO : Ok r) (hn : r.notes = []) (hop : r.f.op = 1) (hln : r.f.line = 0) : Calls Tryz.prog 76 #[.pointer (some ⟨p, 0, none⟩)] w fun e w' => e = .returned (.tuple #[]) ∧ At B w' p pm g (Wf.lines r) ∧ Fr B p g w w' := by
 obtain ⟨b, hbb⟩ : ∃ b, b = w.heap.size := ⟨_, rfl⟩
 obtain ⟨W, hW⟩ : ∃ W, W = w.alloc (.cells #[.pointer (some ⟨p, 4, none⟩)] 175) := ⟨_, rfl⟩
 obtain ⟨hc, c4, c5, c6, c7, hb, nbp, nbg, v6, v7⟩ := startbox h hO hn hop hln hW hbb
 have cb := cell_of_heap (j := 0) hb.out rfl
 replace h := Lib.hid h
 replace hO := Lib.hid hO
 replace hn := Lib.hid hn
 replace hop := Lib.hid hop
 replace hln := Lib.hid hln
 go_enter Tryz.func76, Tryz.ntmps76
 go_upto_region 2 with (fail)
 rw [← hW, ← hbb]
 clear v6 v7
 replace hW := Lib.hid hW
 replace hbb := Lib.hid hbb
 go_quiet (fail)
 replace hc := Lib.hid (hc.out.drewN nq)
 have hbq : (W.drewN nq).heap[b]? = some (.cells #[.pointer (some ⟨p, 4, none⟩)] 175 (0, 0)) := hb.out
 have hcq := hc.out
 clear c4 c5 c6 c7 cb
 generalize W.drewN nq = W0 at hbq hcq ⊢
 replace hb := Lib.hid hbq
 replace hc := Lib.hid hcq
 clear hbq hcq
 have c6 := hc.out.c6
 have c7 := hc.out.c7
 have cb := cell_of_heap (j := 0) hb.out rfl
 go_wp2_with (first
  | (go_at_call 131; (try clear c6); (try clear c7); (try clear cb); go_must (refine wfcalmly_step hc ?_; intro w1 f1 hc; replace hb := Lib.hid (f1.keep hb.out nbp nbg (by decide)); have cb := cell_of_heap (j := 0) hb.out rfl; clear f1))
  | (go_at_call 105; (try clear c6); (try clear c7); (try clear cb); go_must (refine note_step hc _ _ (by decide) ?_; intro w1 f1 hc c6 c7; replace hb := Lib.hid (f1.keep hb.out nbp nbg (by decide)); have cb := cell_of_heap (j := 0) hb.out rfl; clear f1)))
 exact e136
set_option maxHeartbeats 4000000 in
theorem wf_1_3 (h : At B w p pm g r) (hO : Ok r) (hn : r.notes = []) (hop : r.f.op = 1) (hln : r.f.line = 3) : Calls Tryz.prog 76 #[.pointer (some ⟨p, 0, none⟩)] w fun e w' => e = .returned (.tuple #[]) ∧ At B w' p pm g (Wf.lines r) ∧ Fr B p g w w' := by
 obtain ⟨b, hbb⟩ : ∃ b, b = w.heap.size := ⟨_, rfl⟩
 obtain ⟨W, hW⟩ : ∃ W, W = w.alloc (.cells #[.pointer (some ⟨p, 4, none⟩)] 175) := ⟨_, rfl⟩
 obtain ⟨hc, c4, c5, c6, c7, hb, nbp, nbg, v6, v7⟩ := startbox h hO hn hop hln hW hbb
 have cb := cell_of_heap (j := 0) hb.out rfl
 replace h := Lib.hid h
 replace hO := Lib.hid hO
 replace hn := Lib.hid hn
 replace hop := Lib.hid hop
 replace hln := Lib.hid hln
 go_enter Tryz.func76, Tryz.ntmps76
 go_upto_region 2 with (fail)
 rw [← hW, ← hbb]
 clear v6 v7
 replace hW := Lib.hid hW
 replace hbb := Lib.hid hbb
 go_quiet (fail)
 replace hc := Lib.hid (hc.out.drewN nq)
 have hbq : (W.drewN nq).heap[b]? = some (.cells #[.pointer (some ⟨p, 4, none⟩)] 175 (0, 0)) := hb.out
 have hcq := hc.out
 clear c4 c5 c6 c7 cb
 generalize W.drewN nq = W0 at hbq hcq ⊢
 replace hb := Lib.hid hbq
 replace hc := Lib.hid hcq
 clear hbq hcq
 have c6 := hc.out.c6
 have c7 := hc.out.c7
 have cb := cell_of_heap (j := 0) hb.out rfl
 go_wp2_with (first
  | (go_at_call 131; (try clear c6); (try clear c7); (try clear cb); go_must (refine wfcalmly_step hc ?_; intro w1 f1 hc; replace hb := Lib.hid (f1.keep hb.out nbp nbg (by decide)); have cb := cell_of_heap (j := 0) hb.out rfl; clear f1)))
 exact e136
set_option maxHeartbeats 4000000 in
theorem wf_1_1_t (h : At B w p pm g r) (hO : Ok r) (hn : r.notes = []) (hop : r.f.op = 1) (hln : r.f.line = 1) (hcs : (r.cas 0 r.f.a (u32 (r.f.a + 1))).hitCas r.f.a = true) : Calls Tryz.prog 76 #[.pointer (some ⟨p, 0, none⟩)] w fun e w' => e = .returned (.tuple #[]) ∧ At B w' p pm g (Wf.lines r) ∧ Fr B p g w w' := by
 obtain ⟨b, hbb⟩ : ∃ b, b = w.heap.size := ⟨_, rfl⟩
 obtain ⟨W, hW⟩ : ∃ W, W = w.alloc (.cells #[.pointer (some ⟨p, 4, none⟩)] 175) := ⟨_, rfl⟩
 obtain ⟨hc, c4, c5, c6, c7, hb, nbp, nbg, v6, v7⟩ := startbox h hO hn hop hln hW hbb
 have cb := cell_of_heap (j := 0) hb.out rfl
 replace h := Lib.hid h
 replace hO := Lib.hid hO
 replace hn := Lib.hid hn
 replace hop := Lib.hid hop
 replace hln := Lib.hid hln
 replace hcs := Lib.hid hcs
 go_enter Tryz.func76, Tryz.ntmps76
 go_upto_region 2 with (fail)
 rw [← hW, ← hbb]
 clear v6 v7
 replace hW := Lib.hid hW
 replace hbb := Lib.hid hbb
 go_quiet (fail)
 replace hc := Lib.hid (hc.out.drewN nq)
 have hbq : (W.drewN nq).heap[b]? = some (.cells #[.pointer (some ⟨p, 4, none⟩)] 175 (0, 0)) := hb.out
 have hcq := hc.out
 clear c4 c5 c6 c7 cb
 generalize W.drewN nq = W0 at hbq hcq ⊢
 replace hb := Lib.hid hbq
 replace hc := Lib.hid hcq
 clear hbq hcq
 have c6 := hc.out.c6
 have c7 := hc.out.c7
 have cb := cell_of_heap (j := 0) hb.out rfl
 go_upto_region 8 with (fail)
 go_still_tail 10, (by kernel_rfl)
 change wpList _ _ _ _ _ W0.drew
 have hcq := hc.out.drew
 have hbq := blk_drew hb.out
 clear c6 c7 hc cb
 generalize W0.drew = W8 at hcq hbq ⊢
 have hc := Lib.hid hcq
 replace hb := Lib.hid hbq
 clear hcq hbq
 have c6 := hc.out.c6
 have c7 := hc.out.c7
 have cb := cell_of_heap (j := 0) hb.out rfl
 go_wp2_with (first
  | (go_at_call 128; (try clear c6); (try clear c7); (try clear cb); go_must (refine cas_step hc _ _ _ true hcs.out (by first | decide | exact w32_u32 _ | exact hc.out.ok.a) (by first | decide | exact w32_u32 _ | exact hc.out.ok.a) ?_; intro w1 f1 hc c6 c7; replace hb := Lib.hid (f1.keep hb.out nbp nbg (by decide)); have cb := cell_of_heap (j := 0) hb.out rfl; clear f1))
  | (go_at_call 132; (try clear c6); (try clear c7); (try clear cb); go_must (refine wfend1_step hc (by decide) _ _ ?_; intro w1 f1 hc; replace hb := Lib.hid (f1.keep hb.out nbp nbg (by decide)); have cb := cell_of_heap (j := 0) hb.out rfl; clear f1)))
 first | go_end0 | ((try simp only [Exit.inBlock, Exit.then]); refine bodyPost_ret (results_none rfl _ _ _) rfl ?_)
 refine ⟨rfl, ?_, hc.out.fr⟩
 unfold Wf.lines
 exact e37
set_option maxHeartbeats 4000000 in
theorem wf_1_1_f (h : At B w p pm g r) (hO : Ok r) (hn : r.notes = []) (hop : r.f.op = 1) (hln : r.f.line = 1) (hcs : (r.cas 0 r.f.a (u32 (r.f.a + 1))).hitCas r.f.a = false) : Calls Tryz.prog 76 #[.pointer (some ⟨p, 0, none⟩)] w fun e w' => e = .returned (.tuple #[]) ∧ At B w' p pm g (Wf.lines r) ∧ Fr B p g w w' := by
 obtain ⟨b, hbb⟩ : ∃ b, b = w.heap.size := ⟨_, rfl⟩
 obtain ⟨W, hW⟩ : ∃ W, W = w.alloc (.cells #[.pointer (some ⟨p, 4, none⟩)] 175) := ⟨_, rfl⟩
 obtain ⟨hc, c4, c5, c6, c7, hb, nbp, nbg, v6, v7⟩ := startbox h hO hn hop hln hW hbb
 have cb := cell_of_heap (j := 0) hb.out rfl
 replace h := Lib.hid h
 replace hO := Lib.hid hO
 replace hn := Lib.hid hn
 replace hop := Lib.hid hop
 replace hln := Lib.hid hln
 replace hcs := Lib.hid hcs
 go_enter Tryz.func76, Tryz.ntmps76
 go_upto_region 2 with (fail)
 rw [← hW, ← hbb]
 clear v6 v7
 replace hW := Lib.hid hW
 replace hbb := Lib.hid hbb
 go_quiet (fail)
 replace hc := Lib.hid (hc.out.drewN nq)
 have hbq : (W.drewN nq).heap[b]? = some (.cells #[.pointer (some ⟨p, 4, none⟩)] 175 (0, 0)) := hb.out
 have hcq := hc.out
 clear c4 c5 c6 c7 cb
 generalize W.drewN nq = W0 at hbq hcq ⊢
 replace hb := Lib.hid hbq
 replace hc := Lib.hid hcq
 clear hbq hcq
 have c6 := hc.out.c6
 have c7 := hc.out.c7
 have cb := cell_of_heap (j := 0) hb.out rfl
 go_upto_region 8 with (fail)
 go_still_tail 10, (by kernel_rfl)
 change wpList _ _ _ _ _ W0.drew
 have hcq := hc.out.drew
 have hbq := blk_drew hb.out
 clear c6 c7 hc cb
 generalize W0.drew = W8 at hcq hbq ⊢
 have hc := Lib.hid hcq
 replace hb := Lib.hid hbq
 clear hcq hbq
 have c6 := hc.out.c6
 have c7 := hc.out.c7
 have cb := cell_of_heap (j := 0) hb.out rfl
 go_wp2_with (first
  | (go_at_call 128; (try clear c6); (try clear c7); (try clear cb); go_must (refine cas_step hc _ _ _ false hcs.out (by first | decide | exact w32_u32 _ | exact hc.out.ok.a) (by first | decide | exact w32_u32 _ | exact hc.out.ok.a) ?_; intro w1 f1 hc c6 c7; replace hb := Lib.hid (f1.keep hb.out nbp nbg (by decide)); have cb := cell_of_heap (j := 0) hb.out rfl; clear f1))
  | (go_at_call 102; (try clear c6); (try clear c7); (try clear cb); go_must (refine go_step hc _ ?_; intro w1 f1 hc c6 c7; replace hb := Lib.hid (f1.keep hb.out nbp nbg (by decide)); have cb := cell_of_heap (j := 0) hb.out rfl; clear f1)))
 first | go_end0 | ((try simp only [Exit.inBlock, Exit.then]); refine bodyPost_ret (results_none rfl _ _ _) rfl ?_)
 refine ⟨rfl, ?_, hc.out.fr⟩
 unfold Wf.lines
 exact e38
set_option maxHeartbeats 4000000 in
theorem wf_1_2_t_t (h : At B w p pm g r) (hO : Ok r) (hn : r.notes = []) (hop : r.f.op = 1) (hln : r.f.line = 2) (hs : (r.waited 0 Wf.calm).seen = true) (hd : (r.waited 0 Wf.calm).done = true) : Calls Tryz.prog 76 #[.pointer (some ⟨p, 0, none⟩)] w fun e w' => e = .returned (.tuple #[]) ∧ At B w' p pm g (Wf.lines r) ∧ Fr B p g w w' := e137
set_option maxHeartbeats 4000000 in
theorem wf_1_2_t_f (h : At B w p pm g r) (hO : Ok r) (hn : r.notes = []) (hop : r.f.op = 1) (hln : r.f.line = 2) (hs : (r.waited 0 Wf.calm).seen = true) (hd : (r.waited 0 Wf.calm).done = false) : Calls Tryz.prog 76 #[.pointer (some ⟨p, 0, none⟩)] w fun e w' => e = .returned (.tuple #[]) ∧ At B w' p pm g (Wf.lines r) ∧ Fr B p g w w' := e137
set_option maxHeartbeats 4000000 in
theorem wf_1_2_f_t (h : At B w p pm g r) (hO : Ok r) (hn : r.notes = []) (hop : r.f.op = 1) (hln : r.f.line = 2) (hs : (r.waited 0 Wf.calm).seen = false) (hd : (r.waited 0 Wf.calm).done = true) : Calls Tryz.prog 76 #[.pointer (some ⟨p, 0, none⟩)] w fun e w' => e = .returned (.tuple #[]) ∧ At B w' p pm g (Wf.lines r) ∧ Fr B p g w w' := e137
set_option maxHeartbeats 4000000 in
theorem wf_1_2_f_f (h : At B w p pm g r) (hO : Ok r) (hn : r.notes = []) (hop : r.f.op = 1) (hln : r.f.line = 2) (hs : (r.waited 0 Wf.calm).seen = false) (hd : (r.waited 0 Wf.calm).done = false) : Calls Tryz.prog 76 #[.pointer (some ⟨p, 0, none⟩)] w fun e w' => e = .returned (.tuple #[]) ∧ At B w' p pm g (Wf.lines r) ∧ Fr B p g w w' := e137
set_option maxHeartbeats 4000000 in
theorem wf_2_0 (h : At B w p pm g r) (hO : Ok r) (hn : r.notes = []) (hop : r.f.op = 2) (hln : r.f.line = 0) : Calls Tryz.prog 76 #[.pointer (some ⟨p, 0, none⟩)] w fun e w' => e = .returned (.tuple #[]) ∧ At B w' p pm g (Wf.lines r) ∧ Fr B p g w w' := by
 obtain ⟨b, hbb⟩ : ∃ b, b = w.heap.size := ⟨_, rfl⟩
 obtain ⟨W, hW⟩ : ∃ W, W = w.alloc (.cells #[.pointer (some ⟨p, 4, none⟩)] 175) := ⟨_, rfl⟩
 obtain ⟨hc, c4, c5, c6, c7, hb, nbp, nbg, v6, v7⟩ := startbox h hO hn hop hln hW hbb
 have cb := cell_of_heap (j := 0) hb.out rfl
 replace h := Lib.hid h
 replace hO := Lib.hid hO
 replace hn := Lib.hid hn
 replace hop := Lib.hid hop
 replace hln := Lib.hid hln
 go_enter Tryz.func76, Tryz.ntmps76
 go_upto_region 2 with (fail)
 rw [← hW, ← hbb]
 clear v6 v7
 replace hW := Lib.hid hW
 replace hbb := Lib.hid hbb
 go_quiet (fail)
 replace hc := Lib.hid (hc.out.drewN nq)
 have hbq : (W.drewN nq).heap[b]? = some (.cells #[.pointer (some ⟨p, 4, none⟩)] 175 (0, 0)) := hb.out
 have hcq := hc.out
 clear c4 c5 c6 c7 cb
 generalize W.drewN nq = W0 at hbq hcq ⊢
 replace hb := Lib.hid hbq
 replace hc := Lib.hid hcq
 clear hbq hcq
 have c6 := hc.out.c6
 have c7 := hc.out.c7
 have cb := cell_of_heap (j := 0) hb.out rfl
 go_wp2_with (first
  | (go_at_call 104; (try clear c6); (try clear c7); (try clear cb); go_must (refine add_step hc _ _ (by first | decide | exact w32_u32 _ | exact w32_pres _) ?_; intro w1 f1 hc c6 c7; replace hb := Lib.hid (f1.keep hb.out nbp nbg (by decide)); have cb := cell_of_heap (j := 0) hb.out rfl; clear f1))
  | (go_at_call 132; (try clear c6); (try clear c7); (try clear cb); go_must (refine wfend1_step hc (by decide) _ _ ?_; intro w1 f1 hc; replace hb := Lib.hid (f1.keep hb.out nbp nbg (by decide)); have cb := cell_of_heap (j := 0) hb.out rfl; clear f1)))
 exact e136
set_option maxHeartbeats 4000000 in
theorem wf_3_0 (h : At B w p pm g r) (hO : Ok r) (hn : r.notes = []) (hop : r.f.op = 3) (hln : r.f.line = 0) : Calls Tryz.prog 76 #[.pointer (some ⟨p, 0, none⟩)] w fun e w' => e = .returned (.tuple #[]) ∧ At B w' p pm g (Wf.lines r) ∧ Fr B p g w w' := by
 obtain ⟨b, hbb⟩ : ∃ b, b = w.heap.size := ⟨_, rfl⟩
 obtain ⟨W, hW⟩ : ∃ W, W = w.alloc (.cells #[.pointer (some ⟨p, 4, none⟩)] 175) := ⟨_, rfl⟩
 obtain ⟨hc, c4, c5, c6, c7, hb, nbp, nbg, v6, v7⟩ := startbox h hO hn hop hln hW hbb
 have cb := cell_of_heap (j := 0) hb.out rfl
 replace h := Lib.hid h
 replace hO := Lib.hid hO
 replace hn := Lib.hid hn
 replace hop := Lib.hid hop
 replace hln := Lib.hid hln
 go_enter Tryz.func76, Tryz.ntmps76
 go_upto_region 2 with (fail)
 rw [← hW, ← hbb]
 clear v6 v7
 replace hW := Lib.hid hW
 replace hbb := Lib.hid hbb
 go_quiet (fail)
 replace hc := Lib.hid (hc.out.drewN nq)
 have hbq : (W.drewN nq).heap[b]? = some (.cells #[.pointer (some ⟨p, 4, none⟩)] 175 (0, 0)) := hb.out
 have hcq := hc.out
 clear c4 c5 c6 c7 cb
 generalize W.drewN nq = W0 at hbq hcq ⊢
 replace hb := Lib.hid hbq
 replace hc := Lib.hid hcq
 clear hbq hcq
 have c6 := hc.out.c6
 have c7 := hc.out.c7
 have cb := cell_of_heap (j := 0) hb.out rfl
 go_upto_region 21 with (fail)
 refine start_ (n := 6) (S := fun w' => w'.cell? ⟨b, 0, none⟩ = some (.pointer (some ⟨p, 4, none⟩))) (ds := [5]) #[false, false, false, false, false, false] (by kernel_rfl) rfl rfl (cell_of_heap (blk_drew hb.out) rfl) (fun hHeld => ?_)
 refine pu_ 1 79 (mk 6 2) rfl rfl ?_
 refine take_ (i := 0) (N := some 78) (v := ?_) (a' := ?_) (mk 6 3) rfl rfl (by kernel_rfl) (fun _ _ _ h => h) (Or.inl ⟨by rfl, ?_⟩) hHeld ?_ ?_
 rotate_left
 ·intro w' s0
  go_simp
  with_reducible rfl
 rotate_left
 ·exact e4
 refine one_ (i := 2) (N := some 80) (mk 6 7) rfl rfl (by kernel_rfl) (by decide) (fun K hK => ?_)
 refine goes_ Tryz.func104 (by kernel_rfl) rfl #[.pointer (some ⟨p, 0, none⟩), .int .i64 0, .int .u32 65536] (by rfl) rfl rfl (by simp only [List.map_toArray, List.map_cons, List.map_nil]; rfl) ?_
 refine add_step (Lib.hid hc.out.drew) _ _ (by decide) ?_
 intro w2 f2 hc d6 d7
 refine ⟨_, rfl, ?_⟩
 replace hb := Lib.hid (f2.keep (blk_drew hb.out) nbp nbg (by decide))
 have fz := hc.out.at_.frozen 6
 refine hK.out _ _ (cell_of_heap hb.out rfl) (fun hHeld => ?_)
 clear hK K
 refine nm_ ?_
 refine pu_ 3 81 (mk 6 15) rfl rfl ?_
 refine pu_ 4 82 (mk 6 31) rfl rfl ?_
 refine last_ (i := 5) (N := none) (mk 6 63) rfl rfl (by kernel_rfl) (by decide) (fun K hK => ?_)
 refine skip_ (w1 := ?_) (by rfl) rfl ?_ ?_
 rotate_left
 ·go_simp
  rfl
 refine hK.out _ _ ?_
 clear hK K
 refine done_ (by kernel_rfl) ?_
 replace hb := Lib.hid (((Fr.refl B p g w2).set ⟨p, 6, none⟩ (.inl rfl) (.int .u32 (r.add 0 65536).old)).keep hb.out nbp nbg (by decide))
 replace hc := Lib.hid (hc.out.setA2 (r.add 0 65536).old rfl)
 generalize w2.setCell ⟨p, 6, none⟩ (.int .u32 (r.add 0 65536).old) = w3 at hb hc ⊢
 clear c6 c7 cb d6 d7 fz
 have c6 := hc.out.c6
 have c7 := hc.out.c7
 have cb := cell_of_heap (j := 0) hb.out rfl
 go_wp2_with (first
  | (go_at_call 105; (try clear c6); (try clear c7); (try clear cb); go_must (refine note_step hc _ _ (by decide) ?_; intro w1 f1 hc c6 c7; replace hb := Lib.hid (f1.keep hb.out nbp nbg (by decide)); have cb := cell_of_heap (j := 0) hb.out rfl; clear f1))
  | (go_at_call 102; (try clear c6); (try clear c7); (try clear cb); go_must (refine go_step hc _ ?_; intro w1 f1 hc c6 c7; replace hb := Lib.hid (f1.keep hb.out nbp nbg (by decide)); have cb := cell_of_heap (j := 0) hb.out rfl; clear f1)))
 exact e136
set_option maxHeartbeats 4000000 in
theorem wf_3_1_t_t (h : At B w p pm g r) (hO : Ok r) (hn : r.notes = []) (hop : r.f.op = 3) (hln : r.f.line = 1) (hs : (r.waited 0 (fun v => Wf.fld v 256 == Wf.fld r.f.a 65536 && Wf.readers v == 0)).seen = true) (hd : (r.waited 0 (fun v => Wf.fld v 256 == Wf.fld r.f.a 65536 && Wf.readers v == 0)).done = true) : Calls Tryz.prog 76 #[.pointer (some ⟨p, 0, none⟩)] w fun e w' => e = .returned (.tuple #[]) ∧ At B w' p pm g (Wf.lines r) ∧ Fr B p g w w' := e138
set_option maxHeartbeats 4000000 in
theorem wf_3_1_t_f (h : At B w p pm g r) (hO : Ok r) (hn : r.notes = []) (hop : r.f.op = 3) (hln : r.f.line = 1) (hs : (r.waited 0 (fun v => Wf.fld v 256 == Wf.fld r.f.a 65536 && Wf.readers v == 0)).seen = true) (hd : (r.waited 0 (fun v => Wf.fld v 256 == Wf.fld r.f.a 65536 && Wf.readers v == 0)).done = false) : Calls Tryz.prog 76 #[.pointer (some ⟨p, 0, none⟩)] w fun e w' => e = .returned (.tuple #[]) ∧ At B w' p pm g (Wf.lines r) ∧ Fr B p g w w' := e138
set_option maxHeartbeats 4000000 in
theorem wf_3_1_f_t (h : At B w p pm g r) (hO : Ok r) (hn : r.notes = []) (hop : r.f.op = 3) (hln : r.f.line = 1) (hs : (r.waited 0 (fun v => Wf.fld v 256 == Wf.fld r.f.a 65536 && Wf.readers v == 0)).seen = false) (hd : (r.waited 0 (fun v => Wf.fld v 256 == Wf.fld r.f.a 65536 && Wf.readers v == 0)).done = true) : Calls Tryz.prog 76 #[.pointer (some ⟨p, 0, none⟩)] w fun e w' => e = .returned (.tuple #[]) ∧ At B w' p pm g (Wf.lines r) ∧ Fr B p g w w' := e138
set_option maxHeartbeats 4000000 in
theorem wf_3_1_f_f (h : At B w p pm g r) (hO : Ok r) (hn : r.notes = []) (hop : r.f.op = 3) (hln : r.f.line = 1) (hs : (r.waited 0 (fun v => Wf.fld v 256 == Wf.fld r.f.a 65536 && Wf.readers v == 0)).seen = false) (hd : (r.waited 0 (fun v => Wf.fld v 256 == Wf.fld r.f.a 65536 && Wf.readers v == 0)).done = false) : Calls Tryz.prog 76 #[.pointer (some ⟨p, 0, none⟩)] w fun e w' => e = .returned (.tuple #[]) ∧ At B w' p pm g (Wf.lines r) ∧ Fr B p g w w' := e138
set_option maxHeartbeats 4000000 in
theorem wf_4_0 (h : At B w p pm g r) (hO : Ok r) (hn : r.notes = []) (hop : r.f.op = 4) (hln : r.f.line = 0) : Calls Tryz.prog 76 #[.pointer (some ⟨p, 0, none⟩)] w fun e w' => e = .returned (.tuple #[]) ∧ At B w' p pm g (Wf.lines r) ∧ Fr B p g w w' := by
 obtain ⟨b, hbb⟩ : ∃ b, b = w.heap.size := ⟨_, rfl⟩
 obtain ⟨W, hW⟩ : ∃ W, W = w.alloc (.cells #[.pointer (some ⟨p, 4, none⟩)] 175) := ⟨_, rfl⟩
 obtain ⟨hc, c4, c5, c6, c7, hb, nbp, nbg, v6, v7⟩ := startbox h hO hn hop hln hW hbb
 have cb := cell_of_heap (j := 0) hb.out rfl
 replace h := Lib.hid h
 replace hO := Lib.hid hO
 replace hn := Lib.hid hn
 replace hop := Lib.hid hop
 replace hln := Lib.hid hln
 go_enter Tryz.func76, Tryz.ntmps76
 go_upto_region 2 with (fail)
 rw [← hW, ← hbb]
 clear v6 v7
 replace hW := Lib.hid hW
 replace hbb := Lib.hid hbb
 go_quiet (fail)
 replace hc := Lib.hid (hc.out.drewN nq)
 have hbq : (W.drewN nq).heap[b]? = some (.cells #[.pointer (some ⟨p, 4, none⟩)] 175 (0, 0)) := hb.out
 have hcq := hc.out
 clear c4 c5 c6 c7 cb
 generalize W.drewN nq = W0 at hbq hcq ⊢
 replace hb := Lib.hid hbq
 replace hc := Lib.hid hcq
 clear hbq hcq
 have c6 := hc.out.c6
 have c7 := hc.out.c7
 have cb := cell_of_heap (j := 0) hb.out rfl
 go_wp2_with (first
  | (go_at_call 138; go_must (refine (wfl_4_0 (hc.out.at_) hc.out.ok (List.length_eq_zero_iff.1 (Nat.le_zero.1 hc.out.few)) hop.out hln.out).mono ?_; rintro e w1 ⟨rfl, hA1, hF1⟩)))
 exact e139
set_option maxHeartbeats 4000000 in
theorem wf_4_1 (h : At B w p pm g r) (hO : Ok r) (hn : r.notes = []) (hop : r.f.op = 4) (hln : r.f.line = 1) : Calls Tryz.prog 76 #[.pointer (some ⟨p, 0, none⟩)] w fun e w' => e = .returned (.tuple #[]) ∧ At B w' p pm g (Wf.lines r) ∧ Fr B p g w w' := by
 obtain ⟨b, hbb⟩ : ∃ b, b = w.heap.size := ⟨_, rfl⟩
 obtain ⟨W, hW⟩ : ∃ W, W = w.alloc (.cells #[.pointer (some ⟨p, 4, none⟩)] 175) := ⟨_, rfl⟩
 obtain ⟨hc, c4, c5, c6, c7, hb, nbp, nbg, v6, v7⟩ := startbox h hO hn hop hln hW hbb
 have cb := cell_of_heap (j := 0) hb.out rfl
 replace h := Lib.hid h
 replace hO := Lib.hid hO
 replace hn := Lib.hid hn
 replace hop := Lib.hid hop
 replace hln := Lib.hid hln
 go_enter Tryz.func76, Tryz.ntmps76
 go_upto_region 2 with (fail)
 rw [← hW, ← hbb]
 clear v6 v7
 replace hW := Lib.hid hW
 replace hbb := Lib.hid hbb
 go_quiet (fail)
 replace hc := Lib.hid (hc.out.drewN nq)
 have hbq : (W.drewN nq).heap[b]? = some (.cells #[.pointer (some ⟨p, 4, none⟩)] 175 (0, 0)) := hb.out
 have hcq := hc.out
 clear c4 c5 c6 c7 cb
 generalize W.drewN nq = W0 at hbq hcq ⊢
 replace hb := Lib.hid hbq
 replace hc := Lib.hid hcq
 clear hbq hcq
 have c6 := hc.out.c6
 have c7 := hc.out.c7
 have cb := cell_of_heap (j := 0) hb.out rfl
 go_wp2_with (first
  | (go_at_call 138; go_must (refine (wfl_4_1 (hc.out.at_) hc.out.ok (List.length_eq_zero_iff.1 (Nat.le_zero.1 hc.out.few)) hop.out hln.out).mono ?_; rintro e w1 ⟨rfl, hA1, hF1⟩)))
 exact e139
set_option maxHeartbeats 4000000 in
theorem wf_8_0 (h : At B w p pm g r) (hO : Ok r) (hn : r.notes = []) (hop : r.f.op = 8) (hln : r.f.line = 0) : Calls Tryz.prog 76 #[.pointer (some ⟨p, 0, none⟩)] w fun e w' => e = .returned (.tuple #[]) ∧ At B w' p pm g (Wf.lines r) ∧ Fr B p g w w' := by
 obtain ⟨b, hbb⟩ : ∃ b, b = w.heap.size := ⟨_, rfl⟩
 obtain ⟨W, hW⟩ : ∃ W, W = w.alloc (.cells #[.pointer (some ⟨p, 4, none⟩)] 175) := ⟨_, rfl⟩
 obtain ⟨hc, c4, c5, c6, c7, hb, nbp, nbg, v6, v7⟩ := startbox h hO hn hop hln hW hbb
 have cb := cell_of_heap (j := 0) hb.out rfl
 replace h := Lib.hid h
 replace hO := Lib.hid hO
 replace hn := Lib.hid hn
 replace hop := Lib.hid hop
 replace hln := Lib.hid hln
 go_enter Tryz.func76, Tryz.ntmps76
 go_upto_region 2 with (fail)
 rw [← hW, ← hbb]
 clear v6 v7
 replace hW := Lib.hid hW
 replace hbb := Lib.hid hbb
 go_quiet (fail)
 replace hc := Lib.hid (hc.out.drewN nq)
 have hbq : (W.drewN nq).heap[b]? = some (.cells #[.pointer (some ⟨p, 4, none⟩)] 175 (0, 0)) := hb.out
 have hcq := hc.out
 clear c4 c5 c6 c7 cb
 generalize W.drewN nq = W0 at hbq hcq ⊢
 replace hb := Lib.hid hbq
 replace hc := Lib.hid hcq
 clear hbq hcq
 have c6 := hc.out.c6
 have c7 := hc.out.c7
 have cb := cell_of_heap (j := 0) hb.out rfl
 go_wp2_with (first
  | (go_at_call 138; go_must (refine (wfl_8_0 (hc.out.at_) hc.out.ok (List.length_eq_zero_iff.1 (Nat.le_zero.1 hc.out.few)) hop.out hln.out).mono ?_; rintro e w1 ⟨rfl, hA1, hF1⟩)))
 exact e139
set_option maxHeartbeats 4000000 in
theorem wf_8_1 (h : At B w p pm g r) (hO : Ok r) (hn : r.notes = []) (hop : r.f.op = 8) (hln : r.f.line = 1) : Calls Tryz.prog 76 #[.pointer (some ⟨p, 0, none⟩)] w fun e w' => e = .returned (.tuple #[]) ∧ At B w' p pm g (Wf.lines r) ∧ Fr B p g w w' := by
 obtain ⟨b, hbb⟩ : ∃ b, b = w.heap.size := ⟨_, rfl⟩
 obtain ⟨W, hW⟩ : ∃ W, W = w.alloc (.cells #[.pointer (some ⟨p, 4, none⟩)] 175) := ⟨_, rfl⟩
 obtain ⟨hc, c4, c5, c6, c7, hb, nbp, nbg, v6, v7⟩ := startbox h hO hn hop hln hW hbb
 have cb := cell_of_heap (j := 0) hb.out rfl
 replace h := Lib.hid h
 replace hO := Lib.hid hO
 replace hn := Lib.hid hn
 replace hop := Lib.hid hop
 replace hln := Lib.hid hln
 go_enter Tryz.func76, Tryz.ntmps76
 go_upto_region 2 with (fail)
 rw [← hW, ← hbb]
 clear v6 v7
 replace hW := Lib.hid hW
 replace hbb := Lib.hid hbb
 go_quiet (fail)
 replace hc := Lib.hid (hc.out.drewN nq)
 have hbq : (W.drewN nq).heap[b]? = some (.cells #[.pointer (some ⟨p, 4, none⟩)] 175 (0, 0)) := hb.out
 have hcq := hc.out
 clear c4 c5 c6 c7 cb
 generalize W.drewN nq = W0 at hbq hcq ⊢
 replace hb := Lib.hid hbq
 replace hc := Lib.hid hcq
 clear hbq hcq
 have c6 := hc.out.c6
 have c7 := hc.out.c7
 have cb := cell_of_heap (j := 0) hb.out rfl
 go_wp2_with (first
  | (go_at_call 138; go_must (refine (wfl_8_1 (hc.out.at_) hc.out.ok (List.length_eq_zero_iff.1 (Nat.le_zero.1 hc.out.few)) hop.out hln.out).mono ?_; rintro e w1 ⟨rfl, hA1, hF1⟩)))
 exact e139
set_option maxHeartbeats 4000000 in
theorem wf_5_0 (h : At B w p pm g r) (hO : Ok r) (hn : r.notes = []) (hop : r.f.op = 5) (hln : r.f.line = 0) : Calls Tryz.prog 76 #[.pointer (some ⟨p, 0, none⟩)] w fun e w' => e = .returned (.tuple #[]) ∧ At B w' p pm g (Wf.lines r) ∧ Fr B p g w w' := by
 obtain ⟨b, hbb⟩ : ∃ b, b = w.heap.size := ⟨_, rfl⟩
 obtain ⟨W, hW⟩ : ∃ W, W = w.alloc (.cells #[.pointer (some ⟨p, 4, none⟩)] 175) := ⟨_, rfl⟩
 obtain ⟨hc, c4, c5, c6, c7, hb, nbp, nbg, v6, v7⟩ := startbox h hO hn hop hln hW hbb
 have cb := cell_of_heap (j := 0) hb.out rfl
 replace h := Lib.hid h
 replace hO := Lib.hid hO
 replace hn := Lib.hid hn
 replace hop := Lib.hid hop
 replace hln := Lib.hid hln
 go_enter Tryz.func76, Tryz.ntmps76
 go_upto_region 2 with (fail)
 rw [← hW, ← hbb]
 clear v6 v7
 replace hW := Lib.hid hW
 replace hbb := Lib.hid hbb
 go_quiet (fail)
 replace hc := Lib.hid (hc.out.drewN nq)
 have hbq : (W.drewN nq).heap[b]? = some (.cells #[.pointer (some ⟨p, 4, none⟩)] 175 (0, 0)) := hb.out
 have hcq := hc.out
 clear c4 c5 c6 c7 cb
 generalize W.drewN nq = W0 at hbq hcq ⊢
 replace hb := Lib.hid hbq
 replace hc := Lib.hid hcq
 clear hbq hcq
 have c6 := hc.out.c6
 have c7 := hc.out.c7
 have cb := cell_of_heap (j := 0) hb.out rfl
 go_wp2_with (first
  | (go_at_call 138; go_must (refine (wfl_5_0 (hc.out.at_) hc.out.ok (List.length_eq_zero_iff.1 (Nat.le_zero.1 hc.out.few)) hop.out hln.out).mono ?_; rintro e w1 ⟨rfl, hA1, hF1⟩)))
 exact e139
set_option maxHeartbeats 4000000 in
theorem wf_5_1_t (h : At B w p pm g r) (hO : Ok r) (hn : r.notes = []) (hop : r.f.op = 5) (hln : r.f.line = 1) (hcs : (r.cas 0 r.f.a (u32 (r.f.a + 1))).hitCas r.f.a = true) : Calls Tryz.prog 76 #[.pointer (some ⟨p, 0, none⟩)] w fun e w' => e = .returned (.tuple #[]) ∧ At B w' p pm g (Wf.lines r) ∧ Fr B p g w w' := by
 obtain ⟨b, hbb⟩ : ∃ b, b = w.heap.size := ⟨_, rfl⟩
 obtain ⟨W, hW⟩ : ∃ W, W = w.alloc (.cells #[.pointer (some ⟨p, 4, none⟩)] 175) := ⟨_, rfl⟩
 obtain ⟨hc, c4, c5, c6, c7, hb, nbp, nbg, v6, v7⟩ := startbox h hO hn hop hln hW hbb
 have cb := cell_of_heap (j := 0) hb.out rfl
 replace h := Lib.hid h
 replace hO := Lib.hid hO
 replace hn := Lib.hid hn
 replace hop := Lib.hid hop
 replace hln := Lib.hid hln
 replace hcs := Lib.hid hcs
 go_enter Tryz.func76, Tryz.ntmps76
 go_upto_region 2 with (fail)
 rw [← hW, ← hbb]
 clear v6 v7
 replace hW := Lib.hid hW
 replace hbb := Lib.hid hbb
 go_quiet (fail)
 replace hc := Lib.hid (hc.out.drewN nq)
 have hbq : (W.drewN nq).heap[b]? = some (.cells #[.pointer (some ⟨p, 4, none⟩)] 175 (0, 0)) := hb.out
 have hcq := hc.out
 clear c4 c5 c6 c7 cb
 generalize W.drewN nq = W0 at hbq hcq ⊢
 replace hb := Lib.hid hbq
 replace hc := Lib.hid hcq
 clear hbq hcq
 have c6 := hc.out.c6
 have c7 := hc.out.c7
 have cb := cell_of_heap (j := 0) hb.out rfl
 go_wp2_with (first
  | (go_at_call 138; go_must (refine (wfl_5_1_t (hc.out.at_) hc.out.ok (List.length_eq_zero_iff.1 (Nat.le_zero.1 hc.out.few)) hop.out hln.out hcs.out).mono ?_; rintro e w1 ⟨rfl, hA1, hF1⟩)))
 exact e139
set_option maxHeartbeats 4000000 in
theorem wf_5_1_f (h : At B w p pm g r) (hO : Ok r) (hn : r.notes = []) (hop : r.f.op = 5) (hln : r.f.line = 1) (hcs : (r.cas 0 r.f.a (u32 (r.f.a + 1))).hitCas r.f.a = false) : Calls Tryz.prog 76 #[.pointer (some ⟨p, 0, none⟩)] w fun e w' => e = .returned (.tuple #[]) ∧ At B w' p pm g (Wf.lines r) ∧ Fr B p g w w' := by
 obtain ⟨b, hbb⟩ : ∃ b, b = w.heap.size := ⟨_, rfl⟩
 obtain ⟨W, hW⟩ : ∃ W, W = w.alloc (.cells #[.pointer (some ⟨p, 4, none⟩)] 175) := ⟨_, rfl⟩
 obtain ⟨hc, c4, c5, c6, c7, hb, nbp, nbg, v6, v7⟩ := startbox h hO hn hop hln hW hbb
 have cb := cell_of_heap (j := 0) hb.out rfl
 replace h := Lib.hid h
 replace hO := Lib.hid hO
 replace hn := Lib.hid hn
 replace hop := Lib.hid hop
 replace hln := Lib.hid hln
 replace hcs := Lib.hid hcs
 go_enter Tryz.func76, Tryz.ntmps76
 go_upto_region 2 with (fail)
 rw [← hW, ← hbb]
 clear v6 v7
 replace hW := Lib.hid hW
 replace hbb := Lib.hid hbb
 go_quiet (fail)
 replace hc := Lib.hid (hc.out.drewN nq)
 have hbq : (W.drewN nq).heap[b]? = some (.cells #[.pointer (some ⟨p, 4, none⟩)] 175 (0, 0)) := hb.out
 have hcq := hc.out
 clear c4 c5 c6 c7 cb
 generalize W.drewN nq = W0 at hbq hcq ⊢
 replace hb := Lib.hid hbq
 replace hc := Lib.hid hcq
 clear hbq hcq
 have c6 := hc.out.c6
 have c7 := hc.out.c7
 have cb := cell_of_heap (j := 0) hb.out rfl
 go_wp2_with (first
  | (go_at_call 138; go_must (refine (wfl_5_1_f (hc.out.at_) hc.out.ok (List.length_eq_zero_iff.1 (Nat.le_zero.1 hc.out.few)) hop.out hln.out hcs.out).mono ?_; rintro e w1 ⟨rfl, hA1, hF1⟩)))
 exact e139
set_option maxHeartbeats 4000000 in
theorem wf_6_0 (h : At B w p pm g r) (hO : Ok r) (hn : r.notes = []) (hop : r.f.op = 6) (hln : r.f.line = 0) : Calls Tryz.prog 76 #[.pointer (some ⟨p, 0, none⟩)] w fun e w' => e = .returned (.tuple #[]) ∧ At B w' p pm g (Wf.lines r) ∧ Fr B p g w w' := by
 obtain ⟨b, hbb⟩ : ∃ b, b = w.heap.size := ⟨_, rfl⟩
 obtain ⟨W, hW⟩ : ∃ W, W = w.alloc (.cells #[.pointer (some ⟨p, 4, none⟩)] 175) := ⟨_, rfl⟩
 obtain ⟨hc, c4, c5, c6, c7, hb, nbp, nbg, v6, v7⟩ := startbox h hO hn hop hln hW hbb
 have cb := cell_of_heap (j := 0) hb.out rfl
 replace h := Lib.hid h
 replace hO := Lib.hid hO
 replace hn := Lib.hid hn
 replace hop := Lib.hid hop
 replace hln := Lib.hid hln
 go_enter Tryz.func76, Tryz.ntmps76
 go_upto_region 2 with (fail)
 rw [← hW, ← hbb]
 clear v6 v7
 replace hW := Lib.hid hW
 replace hbb := Lib.hid hbb
 go_quiet (fail)
 replace hc := Lib.hid (hc.out.drewN nq)
 have hbq : (W.drewN nq).heap[b]? = some (.cells #[.pointer (some ⟨p, 4, none⟩)] 175 (0, 0)) := hb.out
 have hcq := hc.out
 clear c4 c5 c6 c7 cb
 generalize W.drewN nq = W0 at hbq hcq ⊢
 replace hb := Lib.hid hbq
 replace hc := Lib.hid hcq
 clear hbq hcq
 have c6 := hc.out.c6
 have c7 := hc.out.c7
 have cb := cell_of_heap (j := 0) hb.out rfl
 go_wp2_with (first
  | (go_at_call 138; go_must (refine (wfl_6_0 (hc.out.at_) hc.out.ok (List.length_eq_zero_iff.1 (Nat.le_zero.1 hc.out.few)) hop.out hln.out).mono ?_; rintro e w1 ⟨rfl, hA1, hF1⟩)))
 exact e139
set_option maxHeartbeats 4000000 in
theorem wf_6_1_t (h : At B w p pm g r) (hO : Ok r) (hn : r.notes = []) (hop : r.f.op = 6) (hln : r.f.line = 1) (hcs : (r.cas 0 r.f.a (u32 (r.f.a + 65536))).hitCas r.f.a = true) : Calls Tryz.prog 76 #[.pointer (some ⟨p, 0, none⟩)] w fun e w' => e = .returned (.tuple #[]) ∧ At B w' p pm g (Wf.lines r) ∧ Fr B p g w w' := by
 obtain ⟨b, hbb⟩ : ∃ b, b = w.heap.size := ⟨_, rfl⟩
 obtain ⟨W, hW⟩ : ∃ W, W = w.alloc (.cells #[.pointer (some ⟨p, 4, none⟩)] 175) := ⟨_, rfl⟩
 obtain ⟨hc, c4, c5, c6, c7, hb, nbp, nbg, v6, v7⟩ := startbox h hO hn hop hln hW hbb
 have cb := cell_of_heap (j := 0) hb.out rfl
 replace h := Lib.hid h
 replace hO := Lib.hid hO
 replace hn := Lib.hid hn
 replace hop := Lib.hid hop
 replace hln := Lib.hid hln
 replace hcs := Lib.hid hcs
 go_enter Tryz.func76, Tryz.ntmps76
 go_upto_region 2 with (fail)
 rw [← hW, ← hbb]
 clear v6 v7
 replace hW := Lib.hid hW
 replace hbb := Lib.hid hbb
 go_quiet (fail)
 replace hc := Lib.hid (hc.out.drewN nq)
 have hbq : (W.drewN nq).heap[b]? = some (.cells #[.pointer (some ⟨p, 4, none⟩)] 175 (0, 0)) := hb.out
 have hcq := hc.out
 clear c4 c5 c6 c7 cb
 generalize W.drewN nq = W0 at hbq hcq ⊢
 replace hb := Lib.hid hbq
 replace hc := Lib.hid hcq
 clear hbq hcq
 have c6 := hc.out.c6
 have c7 := hc.out.c7
 have cb := cell_of_heap (j := 0) hb.out rfl
 go_wp2_with (first
  | (go_at_call 138; go_must (refine (wfl_6_1_t (hc.out.at_) hc.out.ok (List.length_eq_zero_iff.1 (Nat.le_zero.1 hc.out.few)) hop.out hln.out hcs.out).mono ?_; rintro e w1 ⟨rfl, hA1, hF1⟩)))
 exact e139
set_option maxHeartbeats 4000000 in
theorem wf_6_1_f (h : At B w p pm g r) (hO : Ok r) (hn : r.notes = []) (hop : r.f.op = 6) (hln : r.f.line = 1) (hcs : (r.cas 0 r.f.a (u32 (r.f.a + 65536))).hitCas r.f.a = false) : Calls Tryz.prog 76 #[.pointer (some ⟨p, 0, none⟩)] w fun e w' => e = .returned (.tuple #[]) ∧ At B w' p pm g (Wf.lines r) ∧ Fr B p g w w' := by
 obtain ⟨b, hbb⟩ : ∃ b, b = w.heap.size := ⟨_, rfl⟩
 obtain ⟨W, hW⟩ : ∃ W, W = w.alloc (.cells #[.pointer (some ⟨p, 4, none⟩)] 175) := ⟨_, rfl⟩
 obtain ⟨hc, c4, c5, c6, c7, hb, nbp, nbg, v6, v7⟩ := startbox h hO hn hop hln hW hbb
 have cb := cell_of_heap (j := 0) hb.out rfl
 replace h := Lib.hid h
 replace hO := Lib.hid hO
 replace hn := Lib.hid hn
 replace hop := Lib.hid hop
 replace hln := Lib.hid hln
 replace hcs := Lib.hid hcs
 go_enter Tryz.func76, Tryz.ntmps76
 go_upto_region 2 with (fail)
 rw [← hW, ← hbb]
 clear v6 v7
 replace hW := Lib.hid hW
 replace hbb := Lib.hid hbb
 go_quiet (fail)
 replace hc := Lib.hid (hc.out.drewN nq)
 have hbq : (W.drewN nq).heap[b]? = some (.cells #[.pointer (some ⟨p, 4, none⟩)] 175 (0, 0)) := hb.out
 have hcq := hc.out
 clear c4 c5 c6 c7 cb
 generalize W.drewN nq = W0 at hbq hcq ⊢
 replace hb := Lib.hid hbq
 replace hc := Lib.hid hcq
 clear hbq hcq
 have c6 := hc.out.c6
 have c7 := hc.out.c7
 have cb := cell_of_heap (j := 0) hb.out rfl
 go_wp2_with (first
  | (go_at_call 138; go_must (refine (wfl_6_1_f (hc.out.at_) hc.out.ok (List.length_eq_zero_iff.1 (Nat.le_zero.1 hc.out.few)) hop.out hln.out hcs.out).mono ?_; rintro e w1 ⟨rfl, hA1, hF1⟩)))
 exact e139
set_option maxHeartbeats 4000000 in
theorem wf_7_0 (h : At B w p pm g r) (hO : Ok r) (hn : r.notes = []) (hop : r.f.op = 7) (hln : r.f.line = 0) : Calls Tryz.prog 76 #[.pointer (some ⟨p, 0, none⟩)] w fun e w' => e = .returned (.tuple #[]) ∧ At B w' p pm g (Wf.lines r) ∧ Fr B p g w w' := by
 obtain ⟨b, hbb⟩ : ∃ b, b = w.heap.size := ⟨_, rfl⟩
 obtain ⟨W, hW⟩ : ∃ W, W = w.alloc (.cells #[.pointer (some ⟨p, 4, none⟩)] 175) := ⟨_, rfl⟩
 obtain ⟨hc, c4, c5, c6, c7, hb, nbp, nbg, v6, v7⟩ := startbox h hO hn hop hln hW hbb
 have cb := cell_of_heap (j := 0) hb.out rfl
 replace h := Lib.hid h
 replace hO := Lib.hid hO
 replace hn := Lib.hid hn
 replace hop := Lib.hid hop
 replace hln := Lib.hid hln
 go_enter Tryz.func76, Tryz.ntmps76
 go_upto_region 2 with (fail)
 rw [← hW, ← hbb]
 clear v6 v7
 replace hW := Lib.hid hW
 replace hbb := Lib.hid hbb
 go_quiet (fail)
 replace hc := Lib.hid (hc.out.drewN nq)
 have hbq : (W.drewN nq).heap[b]? = some (.cells #[.pointer (some ⟨p, 4, none⟩)] 175 (0, 0)) := hb.out
 have hcq := hc.out
 clear c4 c5 c6 c7 cb
 generalize W.drewN nq = W0 at hbq hcq ⊢
 replace hb := Lib.hid hbq
 replace hc := Lib.hid hcq
 clear hbq hcq
 have c6 := hc.out.c6
 have c7 := hc.out.c7
 have cb := cell_of_heap (j := 0) hb.out rfl
 go_wp2_with (first
  | (go_at_call 138; go_must (refine (wfl_7_0 (hc.out.at_) hc.out.ok (List.length_eq_zero_iff.1 (Nat.le_zero.1 hc.out.few)) hop.out hln.out).mono ?_; rintro e w1 ⟨rfl, hA1, hF1⟩)))
 exact e139
set_option maxHeartbeats 4000000 in
theorem wf_7_1_t (h : At B w p pm g r) (hO : Ok r) (hn : r.notes = []) (hop : r.f.op = 7) (hln : r.f.line = 1) (hcs : (r.cas 0 r.f.a (u32 (r.f.a + 65535))).hitCas r.f.a = true) : Calls Tryz.prog 76 #[.pointer (some ⟨p, 0, none⟩)] w fun e w' => e = .returned (.tuple #[]) ∧ At B w' p pm g (Wf.lines r) ∧ Fr B p g w w' := by
 obtain ⟨b, hbb⟩ : ∃ b, b = w.heap.size := ⟨_, rfl⟩
 obtain ⟨W, hW⟩ : ∃ W, W = w.alloc (.cells #[.pointer (some ⟨p, 4, none⟩)] 175) := ⟨_, rfl⟩
 obtain ⟨hc, c4, c5, c6, c7, hb, nbp, nbg, v6, v7⟩ := startbox h hO hn hop hln hW hbb
 have cb := cell_of_heap (j := 0) hb.out rfl
 replace h := Lib.hid h
 replace hO := Lib.hid hO
 replace hn := Lib.hid hn
 replace hop := Lib.hid hop
 replace hln := Lib.hid hln
 replace hcs := Lib.hid hcs
 go_enter Tryz.func76, Tryz.ntmps76
 go_upto_region 2 with (fail)
 rw [← hW, ← hbb]
 clear v6 v7
 replace hW := Lib.hid hW
 replace hbb := Lib.hid hbb
 go_quiet (fail)
 replace hc := Lib.hid (hc.out.drewN nq)
 have hbq : (W.drewN nq).heap[b]? = some (.cells #[.pointer (some ⟨p, 4, none⟩)] 175 (0, 0)) := hb.out
 have hcq := hc.out
 clear c4 c5 c6 c7 cb
 generalize W.drewN nq = W0 at hbq hcq ⊢
 replace hb := Lib.hid hbq
 replace hc := Lib.hid hcq
 clear hbq hcq
 have c6 := hc.out.c6
 have c7 := hc.out.c7
 have cb := cell_of_heap (j := 0) hb.out rfl
 go_wp2_with (first
  | (go_at_call 138; go_must (refine (wfl_7_1_t (hc.out.at_) hc.out.ok (List.length_eq_zero_iff.1 (Nat.le_zero.1 hc.out.few)) hop.out hln.out hcs.out).mono ?_; rintro e w1 ⟨rfl, hA1, hF1⟩)))
 exact e139
set_option maxHeartbeats 4000000 in
theorem wf_7_1_f (h : At B w p pm g r) (hO : Ok r) (hn : r.notes = []) (hop : r.f.op = 7) (hln : r.f.line = 1) (hcs : (r.cas 0 r.f.a (u32 (r.f.a + 65535))).hitCas r.f.a = false) : Calls Tryz.prog 76 #[.pointer (some ⟨p, 0, none⟩)] w fun e w' => e = .returned (.tuple #[]) ∧ At B w' p pm g (Wf.lines r) ∧ Fr B p g w w' := by
 obtain ⟨b, hbb⟩ : ∃ b, b = w.heap.size := ⟨_, rfl⟩
 obtain ⟨W, hW⟩ : ∃ W, W = w.alloc (.cells #[.pointer (some ⟨p, 4, none⟩)] 175) := ⟨_, rfl⟩
 obtain ⟨hc, c4, c5, c6, c7, hb, nbp, nbg, v6, v7⟩ := startbox h hO hn hop hln hW hbb
 have cb := cell_of_heap (j := 0) hb.out rfl
 replace h := Lib.hid h
 replace hO := Lib.hid hO
 replace hn := Lib.hid hn
 replace hop := Lib.hid hop
 replace hln := Lib.hid hln
 replace hcs := Lib.hid hcs
 go_enter Tryz.func76, Tryz.ntmps76
 go_upto_region 2 with (fail)
 rw [← hW, ← hbb]
 clear v6 v7
 replace hW := Lib.hid hW
 replace hbb := Lib.hid hbb
 go_quiet (fail)
 replace hc := Lib.hid (hc.out.drewN nq)
 have hbq : (W.drewN nq).heap[b]? = some (.cells #[.pointer (some ⟨p, 4, none⟩)] 175 (0, 0)) := hb.out
 have hcq := hc.out
 clear c4 c5 c6 c7 cb
 generalize W.drewN nq = W0 at hbq hcq ⊢
 replace hb := Lib.hid hbq
 replace hc := Lib.hid hcq
 clear hbq hcq
 have c6 := hc.out.c6
 have c7 := hc.out.c7
 have cb := cell_of_heap (j := 0) hb.out rfl
 go_wp2_with (first
  | (go_at_call 138; go_must (refine (wfl_7_1_f (hc.out.at_) hc.out.ok (List.length_eq_zero_iff.1 (Nat.le_zero.1 hc.out.few)) hop.out hln.out hcs.out).mono ?_; rintro e w1 ⟨rfl, hA1, hF1⟩)))
 exact e139
theorem wf_lines (h : At B w p pm g r) (hO : Ok r) (hn : r.notes = []) (hv : Wf.Valid r.f.op r.f.line) : Calls Tryz.prog 76 #[.pointer (some ⟨p, 0, none⟩)] w fun e w' => e = .returned (.tuple #[]) ∧ At B w' p pm g (Wf.lines r) ∧ Fr B p g w w' := by
 rcases hv with ⟨hop, hln⟩ | ⟨hop, hln⟩ | ⟨hop, hln⟩ | ⟨hop, hln⟩ | ⟨hop, hln⟩ | ⟨hop, hln⟩ | ⟨hop, hln⟩ | ⟨hop, hln⟩ | ⟨hop, hln⟩ | ⟨hop, hln⟩ | ⟨hop, hln⟩ | ⟨hop, hln⟩ | ⟨hop, hln⟩ | ⟨hop, hln⟩ | ⟨hop, hln⟩ | ⟨hop, hln⟩ | ⟨hop, hln⟩
 ·exact wf_1_0 h hO hn hop hln
 ·cases hc : ((r.cas 0 r.f.a (u32 (r.f.a + 1))).hitCas r.f.a) with
  | true => exact wf_1_1_t h hO hn hop hln hc
  | false => exact wf_1_1_f h hO hn hop hln hc
 ·cases hs : (r.waited 0 Wf.calm).seen <;> cases hd : (r.waited 0 Wf.calm).done
  ·exact wf_1_2_f_f h hO hn hop hln hs hd
  ·exact wf_1_2_f_t h hO hn hop hln hs hd
  ·exact wf_1_2_t_f h hO hn hop hln hs hd
  ·exact wf_1_2_t_t h hO hn hop hln hs hd
 ·exact wf_1_3 h hO hn hop hln
 ·exact wf_2_0 h hO hn hop hln
 ·exact wf_3_0 h hO hn hop hln
 ·cases hs : (r.waited 0 (fun v => Wf.fld v 256 == Wf.fld r.f.a 65536 && Wf.readers v == 0)).seen <;> cases hd : (r.waited 0 (fun v => Wf.fld v 256 == Wf.fld r.f.a 65536 && Wf.readers v == 0)).done
  ·exact wf_3_1_f_f h hO hn hop hln hs hd
  ·exact wf_3_1_f_t h hO hn hop hln hs hd
  ·exact wf_3_1_t_f h hO hn hop hln hs hd
  ·exact wf_3_1_t_t h hO hn hop hln hs hd
 ·exact wf_4_0 h hO hn hop hln
 ·exact wf_4_1 h hO hn hop hln
 ·exact wf_8_0 h hO hn hop hln
 ·exact wf_8_1 h hO hn hop hln
 ·exact wf_5_0 h hO hn hop hln
 ·cases hc : ((r.cas 0 r.f.a (u32 (r.f.a + 1))).hitCas r.f.a) with
  | true => exact wf_5_1_t h hO hn hop hln hc
  | false => exact wf_5_1_f h hO hn hop hln hc
 ·exact wf_6_0 h hO hn hop hln
 ·cases hc : ((r.cas 0 r.f.a (u32 (r.f.a + 65536))).hitCas r.f.a) with
  | true => exact wf_6_1_t h hO hn hop hln hc
  | false => exact wf_6_1_f h hO hn hop hln hc
 ·exact wf_7_0 h hO hn hop hln
 ·cases hc : ((r.cas 0 r.f.a (u32 (r.f.a + 65535))).hitCas r.f.a) with
  | true => exact wf_7_1_t h hO hn hop hln hc
  | false => exact wf_7_1_f h hO hn hop hln hc
end Go.Proofs.YtkmlefbdhdlfmaaGreat.Wo
