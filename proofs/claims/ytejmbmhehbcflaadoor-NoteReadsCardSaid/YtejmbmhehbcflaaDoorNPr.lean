/- note.Parse: the walk, against a plain guess. -/
import Derived.Test.YtejmbmhehbcflaaDoorAtoi
namespace Go.Proofs.YtejmbmhehbcflaaDoor.Note
open Go.RowKit Go.Proofs.YtejmbmhehbcflaaDoor.Pr Go.Proofs.YtejmbmhehbcflaaDoorW.PrintWords Go.Proofs.YtejmbmhehbcflaaDoorW.PrintMore Go.Proofs.YtejmbmhehbcflaaDoorW.PrintLast
set_option linter.unusedSimpArgs false
set_option linter.unusedVariables false
set_option maxRecDepth 100000

/-! plain -/
def idxv (l : List ByteArray) (x : ByteArray) : Int := (slices_Index_string_string.f 20 l x).getD 0
theorem idx_some (l : List ByteArray) (x : ByteArray) (hl : l.length ≤ 12) : ∀ (k i : Nat), i ≤ l.length → l.length + 1 ≤ k + i → ∃ r, slices_Index_string_string.l0 k l x (l.length : Int) (i : Int) = some r := by
  intro k
  induction k with
  | zero => intro i h1 h2; omega
  | succ k ih =>
    intro i h1 h2
    unfold slices_Index_string_string.l0
    by_cases hlt : i < l.length
    · rw [if_pos (by omega), if_pos (by omega), if_pos (by omega)]
      split
      · exact ⟨_, rfl⟩
      · rw [show wrap64 ((i : Int) + 1) = ((i + 1 : Nat) : Int) by unfold wrap64; omega]
        exact ih (i + 1) (by omega) (by omega)
    · rw [if_neg (by omega)]
      exact ⟨_, rfl⟩
theorem idx_f (l : List ByteArray) (x : ByteArray) (hl : l.length ≤ 12) : slices_Index_string_string.f 20 l x = some (idxv l x) := by
  obtain ⟨r, hr⟩ := idx_some l x hl 20 0 (by omega) (by omega)
  unfold idxv
  have : slices_Index_string_string.f 20 l x = some r := hr
  rw [this]
  rfl
theorem args_f (wh : Int) : note_args.f wh = some (argsL wh) := by
  unfold note_args.f argsL
  by_cases h2 : wh = 2
  · subst h2; rfl
  · by_cases h11 : wh = 11
    · subst h11; rfl
    · rw [if_neg h2, if_neg h11, if_neg h2, if_neg h11]
theorem argsL_len12 (wh : Int) : (argsL wh).length ≤ 12 := by
  unfold argsL
  split
  · decide
  · split <;> decide
theorem number_f (x : ByteArray) : note_Number.f 20 x = some (mx (idxv opsL x) 0) := by
  have h := idx_f opsL x (by decide)
  show (slices_Index_string_string.f 20 opsL x).bind _ = _
  rw [h]
  rfl
/-- What the code makes of the words. -/
def whG (l : List ByteArray) : Int := if 1 < l.length then mx (idxv whatsL (l.getD 1 ByteArray.empty)) 0 else 0
def opG (l : List ByteArray) : Int := if hasv (whG l) = true ∧ 2 < l.length then mx (idxv opsL (l.getD 2 ByteArray.empty)) 0 else 0
def restG (l : List ByteArray) : List ByteArray := l.drop (if hasv (whG l) = true then 3 else 2)
def argG (l : List ByteArray) : Int := if 0 < (restG l).length then mx (idxv (argsL (whG l)) ((restG l).getD 0 ByteArray.empty)) 0 else 0
theorem arg_no {l : List ByteArray} (hh : hasv (whG l) = false) (h : 2 < l.length) : argG l = mx (idxv (argsL (whG l)) (l.getD 2 ByteArray.empty)) 0 := by
  have e : restG l = l.drop 2 := by unfold restG; rw [hh]; rfl
  unfold argG
  rw [e, if_pos (by rw [List.length_drop]; omega)]
  simp
theorem arg_yes {l : List ByteArray} (hh : hasv (whG l) = true) (h : 3 < l.length) : argG l = mx (idxv (argsL (whG l)) (l.getD 3 ByteArray.empty)) 0 := by
  have e : restG l = l.drop 3 := by unfold restG; rw [hh]; rfl
  unfold argG
  rw [e, if_pos (by rw [List.length_drop]; omega)]
  simp
theorem arg_end {l : List ByteArray} (hh : hasv (whG l) = true) (h : l.length ≤ 3) : argG l = 0 := by
  have e : restG l = l.drop 3 := by unfold restG; rw [hh]; rfl
  unfold argG
  rw [e, if_neg (by rw [List.length_drop]; omega)]
theorem op_yes {l : List ByteArray} (hh : hasv (whG l) = true) (h : 2 < l.length) : opG l = mx (idxv opsL (l.getD 2 ByteArray.empty)) 0 := by
  unfold opG
  rw [if_pos ⟨hh, h⟩]
def taskG (l : List ByteArray) : Int := atoiV (l.getD 0 ByteArray.empty)
def RightG (l : List ByteArray) : Prop := Right (taskG l) (whG l) (opG l) (argG l)
def textG (l : List ByteArray) : ByteArray := textB (taskG l) (whG l) (opG l) (argG l)
open Classical in
noncomputable def outG (s : ByteArray) : Value :=
  if RightG (cut s) ∧ textG (cut s) = s then .tuple #[.agg #[.int .i64 (taskG (cut s)), .int .i64 (whG (cut s)), .int .i64 (opG (cut s)), .int .i64 (argG (cut s))], .int .i64 0]
  else .tuple #[.agg #[.int .i64 0, .int .i64 0, .int .i64 0, .int .i64 0], .int .i64 4]

/-! walk -/
theorem cell_keep2 {w w1 : World} {a : Addr} {v : Value} (hb : Below w.heap.size w w1) (h : w.cell? a = some v) : w1.cell? a = some v := (hb.cell (lt_of_cell h)).trans h
theorem bytes_eq {a b : ByteArray} (h : a.toList = b.toList) : a = b := by
  rw [ByteArray.toList_eq, ByteArray.toList_eq] at h
  obtain ⟨⟨x⟩⟩ := a
  obtain ⟨⟨y⟩⟩ := b
  simpa using h
theorem str_at {l : List ByteArray} {j : Nat} (h : j < l.length) : (l.map Value.string).toArray[j]? = some (.string (l.getD j ByteArray.empty)) := by simp [h]
theorem size_at {l : List ByteArray} {j : Nat} (hc : ∀ x ∈ l, x.size ≤ 1000) : (l.getD j ByteArray.empty).size ≤ 1000 := by
  by_cases h : j < l.length
  · have e : l.getD j ByteArray.empty = l[j] := by simp [h]
    rw [e]
    exact hc _ (List.getElem_mem h)
  · have e : l.getD j ByteArray.empty = ByteArray.empty := by simp [show l.length ≤ j by omega]
    rw [e]
    decide
set_option maxHeartbeats 4000000 in
theorem parse_walk (s : ByteArray) (hs : s.size ≤ 1000) (w : World) (hV : Vars w) (hc : ∀ x ∈ cut s, x.size ≤ 1000) :
    Calls Tryd.prog 42 #[.string s] w fun e w' => e = .returned (outG s) ∧ Below w.heap.size w w' := by
  obtain ⟨l, hl⟩ : ∃ l, l = cut s := ⟨_, rfl⟩
  have hl1 : 1 ≤ l.length := by rw [hl, cut_len]; omega
  have hsp := Lib.hid (split_walk s hs)
  obtain ⟨out, hout⟩ : ∃ o, o = outG s := ⟨_, rfl⟩
  rw [← hout]
  rw [← hl] at hc hsp
  obtain ⟨wx, hwx⟩ : ∃ wx, wx = w.alloc (.cells #[.int .i64 0, .int .i64 0, .int .i64 0, .int .i64 0] 35) := ⟨_, rfl⟩
  have hBx : Below w.heap.size w wx := by rw [hwx]; exact below_alloc (Below.refl _ _) _
  have hx := heap_alloc_new w (.cells #[.int .i64 0, .int .i64 0, .int .i64 0, .int .i64 0] 35)
  rw [← hwx] at hx
  have hVx := Lib.hid (hV.below hBx)
  obtain ⟨b2, hb2⟩ : ∃ b, b = w.heap.size := ⟨_, rfl⟩
  rw [← hb2] at hx
  obtain ⟨wh, hwh⟩ : ∃ x, x = whG l := ⟨_, rfl⟩
  obtain ⟨op, hop⟩ : ∃ x, x = opG l := ⟨_, rfl⟩
  obtain ⟨ag, hag⟩ : ∃ x, x = argG l := ⟨_, rfl⟩
  obtain ⟨tk, htk⟩ : ∃ tk, tk = taskG l := ⟨_, rfl⟩
  have hR : RightG l = Right tk wh op ag := by rw [hwh, hop, hag, htk]; rfl
  have hT : textG l = textB tk wh op ag := by rw [hwh, hop, hag, htk]; rfl
  have hyes : Right tk wh op ag ∧ textB tk wh op ag = s → out = .tuple #[.agg #[.int .i64 tk, .int .i64 wh, .int .i64 op, .int .i64 ag], .int .i64 0] := by
    intro h
    rw [hout]
    unfold outG
    rw [← hl, if_pos (by rw [hR, hT]; exact h), hwh, hop, hag, htk]
  have hno : ¬ (Right tk wh op ag ∧ textB tk wh op ag = s) → out = .tuple #[.agg #[.int .i64 0, .int .i64 0, .int .i64 0, .int .i64 0], .int .i64 4] := by
    intro h
    rw [hout]
    unfold outG
    rw [← hl, if_neg (by rw [hR, hT]; exact h)]
  replace hl := Lib.hid hl
  replace hyes := Lib.hid hyes
  replace hno := Lib.hid hno
  clear hout
  replace hwh := Lib.hid hwh
  replace hop := Lib.hid hop
  replace hag := Lib.hid hag
  clear hR hT
  obtain ⟨nn, hnn⟩ : ∃ nn, nn = l.length := ⟨_, rfl⟩
  have hn1 : 0 < nn := by omega
  rw [← hnn] at hsp
  have ht : taskG l = atoiV (l.getD 0 ByteArray.empty) := rfl
  have hat := Lib.hid (atoi_walk (l.getD 0 ByteArray.empty) (by have := size_at (j := 0) hc; omega))
  rw [← ht] at hat
  rw [← htk] at hat
  obtain ⟨x0, hx0⟩ : ∃ x, x = l.getD 0 ByteArray.empty := ⟨_, rfl⟩
  rw [← hx0] at hat
  have hcell : ∀ (W : World) (b : Nat) (j : Nat), j < nn → W.heap[b]? = some (.cells (l.map Value.string).toArray 9 (0, 0)) → W.cell? ⟨b, j, none⟩ = some (.string (l.getD j ByteArray.empty)) := fun _ _ _ hj h => cell_of_heap h (str_at (by omega))
  replace hcell := Lib.hid hcell
  have hfin : ∀ W, Below wx.heap.size wx W → Below w.heap.size w W := fun W h => below_then hBx hBx.size h
  replace hfin := Lib.hid hfin
  have hb2x : b2 < wx.heap.size := (Array.getElem?_eq_some_iff.1 hx).1
  replace hx0 := Lib.hid hx0
  replace hx := Lib.hid hx
  replace hwx := Lib.hid hwx
  have hb2g : w.heap.size ≤ b2 := by omega
  replace hb2 := Lib.hid hb2
  replace hnn := Lib.hid hnn
  replace htk := Lib.hid htk
  replace hc := Lib.hid hc
  clear ht hl1 hV hBx
  go_enter Tryd.func42, Tryd.ntmps42
  go_upto_region 4 with (first
    | (go_at_call 78; rw [← hwx.out, ← hb2.out]; refine (hsp.out wx hVx.out).mono ?_; rintro e w1 ⟨b, rfl, hb0, hbl, hb1⟩; have c0 := hcell.out _ _ _ hn1 hbl; rw [← hx0.out] at c0; have hblt := (Array.getElem?_eq_some_iff.1 hbl).1; obtain ⟨bn, hbn⟩ : ∃ x, x = w1.heap.size := ⟨_, rfl⟩; obtain ⟨wy, hwy⟩ : ∃ x, x = w1.alloc (.cells #[.int .i64 0, .int .i64 0, .int .i64 0, .int .i64 0] 35) := ⟨_, rfl⟩; have hBy := below_alloc hb1 (.cells #[.int .i64 0, .int .i64 0, .int .i64 0, .int .i64 0] 35); have hyn := heap_alloc_new w1 (.cells #[.int .i64 0, .int .i64 0, .int .i64 0, .int .i64 0] 35); rw [← hwy] at hBy hyn; rw [← hbn] at hyn; have hyl : wy.heap[b]? = some (.cells (l.map Value.string).toArray 9 (0, 0)) := (by rw [hwy]; exact (Below.heap_alloc _ _ _ hblt).trans hbl); have hbbn : b ≠ bn := (by omega); have hbnx : wx.heap.size ≤ bn := (by rw [hbn]; exact hb1.size); replace hwy := Lib.hid hwy; replace hbn := Lib.hid hbn; replace hbl := Lib.hid hbl; replace hyl := Lib.hid hyl; replace hyn := Lib.hid hyn)
    | (go_at_call 79; rw [← hwy.out, ← hbn.out]; refine (hat.out wy (hVx.out.below hBy)).mono ?_; rintro e w2 ⟨x, rfl, hb2'⟩; have hB2 := below_then hBy hBy.size hb2'; have h2n := (hb2'.block bn (Array.getElem?_eq_some_iff.1 hyn.out).1).trans hyn.out; have h2l := Lib.hid ((hb2'.block b (Array.getElem?_eq_some_iff.1 hyl.out).1).trans hyl.out); have h2c := cell_of_heap (j := 0) h2n rfl; have h2f := blk_frozen h2n 0))
  obtain ⟨wz, hwz⟩ : ∃ x, x = w2.setCell ⟨bn, 0, none⟩ (.int .i64 tk) := ⟨_, rfl⟩
  have hzn : wz.heap[bn]? = some (.cells #[.int .i64 tk, .int .i64 0, .int .i64 0, .int .i64 0] 35 (0, 0)) := by rw [hwz]; exact blk_set h2n 0 _
  have hzl : wz.heap[b]? = some (.cells (l.map Value.string).toArray 9 (0, 0)) := by rw [hwz]; exact blk_far h2l.out hbbn _
  have hBz : Below wx.heap.size wx wz := by rw [hwz]; exact hB2.setCell (p := ⟨bn, 0, none⟩) hbnx _
  have hz2 := (hBz.block b2 hb2x).trans hx.out
  rw [← hwz]
  replace hwz := Lib.hid hwz
  clear h2c h2f h2n h2l hB2 hb2' hBy c0
  have hbz : b < wz.heap.size := (Array.getElem?_eq_some_iff.1 hzl).1
  have hbnz : bn < wz.heap.size := (Array.getElem?_eq_some_iff.1 hzn).1
  by_cases h1 : nn = 1
  · have e1 : wh = 0 := by rw [hwh.out]; unfold whG; rw [if_neg (by rw [← hnn.out]; omega)]
    have e2 : op = 0 := by rw [hop.out]; unfold opG; rw [if_neg (by rw [← hnn.out]; omega)]
    have e3 : ag = 0 := by rw [hag.out]; unfold argG restG; rw [if_neg (by rw [List.length_drop, ← hnn.out]; split <;> omega)]
    subst h1 e1 e2 e3
    obtain ⟨wq, hwq⟩ : ∃ x, x = wz := ⟨_, rfl⟩
    rw [← hwq] at hzn hz2 hBz ⊢
    obtain ⟨hqn, hq2, hBq⟩ : _ ∧ _ ∧ _ := ⟨hzn, hz2, hBz⟩
    clear hzn hz2 hzl
    replace hwq := Lib.hid hwq
    have hbq2 : b2 < wq.heap.size := (Array.getElem?_eq_some_iff.1 hq2).1
    have hbqn : bn < wq.heap.size := (Array.getElem?_eq_some_iff.1 hqn).1
    have p0 := cell_of_heap (j := 0) hqn rfl
    have p1 := cell_of_heap (j := 1) hqn rfl
    have p2 := cell_of_heap (j := 2) hqn rfl
    have p3 := cell_of_heap (j := 3) hqn rfl
    have hqn' := Lib.hid hqn
    have hq2' := Lib.hid hq2
    by_cases hR : Right tk 0 0 0
    · have hr := Lib.hid (fun W => right_yes hR W)
      by_cases hT : textB tk 0 0 0 = s
      · have out1 := Lib.hid (hyes.out ⟨hR, hT⟩)
        have htw := Lib.hid (fun W => text_walk tk 0 0 0 W)
        rw [hT] at htw
        replace hR := Lib.hid hR
        replace hT := Lib.hid hT
        go_wp2_with (first
          | (go_at_call 25; refine (hr.out _).mono ?_; rintro e w8 ⟨rfl, hb8⟩; have h8 := (hb8.block bn hbqn).trans hqn'.out; have h82 := (hb8.block b2 hbq2).trans hq2'.out; have r0 := cell_of_heap (j := 0) h8 rfl; have r1 := cell_of_heap (j := 1) h8 rfl; have r2 := cell_of_heap (j := 2) h8 rfl; have r3 := cell_of_heap (j := 3) h8 rfl; replace h8 := Lib.hid h8; replace h82 := Lib.hid h82)
          | (go_at_call 24; refine (htw.out _).mono ?_; rintro e w9 ⟨rfl, hb9⟩; have hb9' := below_then hb8 hb8.size hb9; have h9 := (hb9'.block bn hbqn).trans hqn'.out; have h92 := (hb9'.block b2 hbq2).trans hq2'.out; have r0 := cell_of_heap (j := 0) h9 rfl; have r1 := cell_of_heap (j := 1) h9 rfl; have r2 := cell_of_heap (j := 2) h9 rfl; have r3 := cell_of_heap (j := 3) h9 rfl; have s0 := cell_of_heap (j := 0) h92 rfl; have s1 := cell_of_heap (j := 1) h92 rfl; have s2 := cell_of_heap (j := 2) h92 rfl; have s3 := cell_of_heap (j := 3) h92 rfl; have f0 := blk_frozen h92 0; have f1 := blk_frozen h92 1; have f2 := blk_frozen h92 2; have f3 := blk_frozen h92 3))
        obtain ⟨wr, hwr⟩ : ∃ x, x = ((((w9.setCell ⟨b2, 0, none⟩ (.int .i64 tk)).setCell ⟨b2, 1, none⟩ (.int .i64 0)).setCell ⟨b2, 2, none⟩ (.int .i64 0)).setCell ⟨b2, 3, none⟩ (.int .i64 0)) := ⟨_, rfl⟩
        have hrr : wr.heap[b2]? = some (.cells #[.int .i64 tk, .int .i64 0, .int .i64 0, .int .i64 0] 35 (0, 0)) := by rw [hwr]; exact blk_set (blk_set (blk_set (blk_set h92 0 _) 1 _) 2 _) 3 _
        have hBr : Below w.heap.size w wr := by rw [hwr]; exact ((((hfin.out _ (below_then hBq hBq.size hb9')).setCell (p := ⟨b2, 0, none⟩) hb2g _).setCell (p := ⟨b2, 1, none⟩) hb2g _).setCell (p := ⟨b2, 2, none⟩) hb2g _).setCell (p := ⟨b2, 3, none⟩) hb2g _
        rw [← hwr]
        replace hwr := Lib.hid hwr
        clear s0 s1 s2 s3 f0 f1 f2 f3 h92 h9
        have v0 := cell_of_heap (j := 0) hrr rfl
        have v1 := cell_of_heap (j := 1) hrr rfl
        have v2 := cell_of_heap (j := 2) hrr rfl
        have v3 := cell_of_heap (j := 3) hrr rfl
        refine bodyPost_ret (results_ct rfl _ _ b2 35 #[.int .i64 tk, .int .i64 0, .int .i64 0, .int .i64 0] (0, 0) _ rfl hrr Tryd.underlying35 rfl (by kernel_rfl)) rfl ?_
        exact ⟨by rw [out1.out]; rfl, hBr⟩
      · have out1 := Lib.hid (hno.out (fun h => hT h.2))
        have hne : ((textB tk 0 0 0).toList == s.toList) = false := by
          rw [beq_eq_false_iff_ne]
          exact fun h => hT (bytes_eq h)
        have htw := Lib.hid (fun W => text_walk tk 0 0 0 W)
        replace hR := Lib.hid hR
        replace hT := Lib.hid hT
        go_wp2_with (first
          | (go_at_call 25; refine (hr.out _).mono ?_; rintro e w8 ⟨rfl, hb8⟩; have h8 := (hb8.block bn hbqn).trans hqn'.out; have h82 := (hb8.block b2 hbq2).trans hq2'.out; have r0 := cell_of_heap (j := 0) h8 rfl; have r1 := cell_of_heap (j := 1) h8 rfl; have r2 := cell_of_heap (j := 2) h8 rfl; have r3 := cell_of_heap (j := 3) h8 rfl; replace h8 := Lib.hid h8; replace h82 := Lib.hid h82)
          | (go_at_call 24; refine (htw.out _).mono ?_; rintro e w9 ⟨rfl, hb9⟩; have hb9' := below_then hb8 hb8.size hb9; have h92 := (hb9'.block b2 hbq2).trans hq2'.out; have s0 := cell_of_heap (j := 0) h92 rfl; have s1 := cell_of_heap (j := 1) h92 rfl; have s2 := cell_of_heap (j := 2) h92 rfl; have s3 := cell_of_heap (j := 3) h92 rfl; have f0 := blk_frozen h92 0; have f1 := blk_frozen h92 1; have f2 := blk_frozen h92 2; have f3 := blk_frozen h92 3))
        obtain ⟨wr, hwr⟩ : ∃ x, x = ((((w9.setCell ⟨b2, 0, none⟩ (.int .i64 0)).setCell ⟨b2, 1, none⟩ (.int .i64 0)).setCell ⟨b2, 2, none⟩ (.int .i64 0)).setCell ⟨b2, 3, none⟩ (.int .i64 0)) := ⟨_, rfl⟩
        have hrr : wr.heap[b2]? = some (.cells #[.int .i64 0, .int .i64 0, .int .i64 0, .int .i64 0] 35 (0, 0)) := by rw [hwr]; exact blk_set (blk_set (blk_set (blk_set h92 0 _) 1 _) 2 _) 3 _
        have hBr : Below w.heap.size w wr := by rw [hwr]; exact ((((hfin.out _ (below_then hBq hBq.size hb9')).setCell (p := ⟨b2, 0, none⟩) hb2g _).setCell (p := ⟨b2, 1, none⟩) hb2g _).setCell (p := ⟨b2, 2, none⟩) hb2g _).setCell (p := ⟨b2, 3, none⟩) hb2g _
        rw [← hwr]
        replace hwr := Lib.hid hwr
        clear s0 s1 s2 s3 f0 f1 f2 f3 h92
        have v0 := cell_of_heap (j := 0) hrr rfl
        have v1 := cell_of_heap (j := 1) hrr rfl
        have v2 := cell_of_heap (j := 2) hrr rfl
        have v3 := cell_of_heap (j := 3) hrr rfl
        refine bodyPost_ret (results_ct rfl _ _ b2 35 #[.int .i64 0, .int .i64 0, .int .i64 0, .int .i64 0] (0, 0) _ rfl hrr Tryd.underlying35 rfl (by kernel_rfl)) rfl ?_
        exact ⟨by rw [out1.out]; rfl, hBr⟩
    · have out1 := Lib.hid (hno.out (fun h => hR h.1))
      have hr := Lib.hid (fun W => right_no hR W)
      replace hR := Lib.hid hR
      go_wp2_with (go_at_call 25; refine (hr.out _).mono ?_; rintro e w9 ⟨rfl, hb9'⟩; have h92 := (hb9'.block b2 hbq2).trans hq2'.out; have s0 := cell_of_heap (j := 0) h92 rfl; have s1 := cell_of_heap (j := 1) h92 rfl; have s2 := cell_of_heap (j := 2) h92 rfl; have s3 := cell_of_heap (j := 3) h92 rfl; have f0 := blk_frozen h92 0; have f1 := blk_frozen h92 1; have f2 := blk_frozen h92 2; have f3 := blk_frozen h92 3)
      obtain ⟨wr, hwr⟩ : ∃ x, x = ((((w9.setCell ⟨b2, 0, none⟩ (.int .i64 0)).setCell ⟨b2, 1, none⟩ (.int .i64 0)).setCell ⟨b2, 2, none⟩ (.int .i64 0)).setCell ⟨b2, 3, none⟩ (.int .i64 0)) := ⟨_, rfl⟩
      have hrr : wr.heap[b2]? = some (.cells #[.int .i64 0, .int .i64 0, .int .i64 0, .int .i64 0] 35 (0, 0)) := by rw [hwr]; exact blk_set (blk_set (blk_set (blk_set h92 0 _) 1 _) 2 _) 3 _
      have hBr : Below w.heap.size w wr := by rw [hwr]; exact ((((hfin.out _ (below_then hBq hBq.size hb9')).setCell (p := ⟨b2, 0, none⟩) hb2g _).setCell (p := ⟨b2, 1, none⟩) hb2g _).setCell (p := ⟨b2, 2, none⟩) hb2g _).setCell (p := ⟨b2, 3, none⟩) hb2g _
      rw [← hwr]
      replace hwr := Lib.hid hwr
      clear s0 s1 s2 s3 f0 f1 f2 f3 h92
      have v0 := cell_of_heap (j := 0) hrr rfl
      have v1 := cell_of_heap (j := 1) hrr rfl
      have v2 := cell_of_heap (j := 2) hrr rfl
      have v3 := cell_of_heap (j := 3) hrr rfl
      refine bodyPost_ret (results_ct rfl _ _ b2 35 #[.int .i64 0, .int .i64 0, .int .i64 0, .int .i64 0] (0, 0) _ rfl hrr Tryd.underlying35 rfl (by kernel_rfl)) rfl ?_
      exact ⟨by rw [out1.out]; rfl, hBr⟩
  · have hn2 : 1 < nn := by omega
    have hn2I : (1 : Int) < (nn : Int) := by omega
    have d1 : decide ((nn : Int) > 1) = true := by simp; omega
    obtain ⟨x1, hx1⟩ : ∃ x, x = l.getD 1 ByteArray.empty := ⟨_, rfl⟩
    have e1 : mx (idxv whatsL x1) 0 = wh := by rw [hwh.out, hx1]; unfold whG; rw [if_pos (by rw [← hnn.out]; omega)]
    replace hx1 := Lib.hid hx1
    obtain ⟨i1, hi1⟩ : ∃ i, i = idxv whatsL x1 := ⟨_, rfl⟩
    rw [← hi1] at e1
    have hidx := Lib.hid (idx_f whatsL x1 (by decide))
    rw [← hi1] at hidx
    replace hi1 := Lib.hid hi1
    replace e1 := Lib.hid e1
    have c1 := hcell.out _ _ _ hn2 hzl
    rw [← hx1.out] at c1
    go_upto_region 5 with (fail)
    have hBZ := below_drew (Below.refl wz.heap.size wz)
    refine start_ (n := 8) (S := fun w' => w'.cell? ⟨b, 1, none⟩ = some (.string x1)) (ds := [7]) #[false, false, false, false, false, false, false, false] (by kernel_rfl) rfl rfl (((hBZ.cell (p := ⟨b, 1, none⟩) hbz).trans c1)) (fun hHeld => ?_)
    refine pure_ (i := 1) (N := some 21) (v := ?_) (a' := ?_) #[false, true, false, false, false, false, false, false] rfl rfl (by kernel_rfl) (fun _ _ _ h => h) (Or.inl ⟨by rfl, ?_⟩) ?_ ?_
    rotate_left
    · intro w'
      go_simp
      with_reducible rfl
    rotate_left
    · simp only [Act.put, List.setIfInBounds_toArray, List.set_cons_zero, List.set_cons_succ, i64_w, i32_w]
      rfl
    refine pure_ (i := 2) (N := some 22) (v := ?_) (a' := ?_) #[false, true, true, false, false, false, false, false] rfl rfl (by kernel_rfl) (fun _ _ _ h => h) (Or.inl ⟨by rfl, ?_⟩) ?_ ?_
    rotate_left
    · intro w'
      go_simp
      with_reducible rfl
    rotate_left
    · simp only [Act.put, List.setIfInBounds_toArray, List.set_cons_zero, List.set_cons_succ, i64_w, i32_w]
      rfl
    refine take_ (i := 3) (N := some 23) (v := ?_) (a' := ?_) #[false, true, true, true, false, false, false, false] rfl rfl (by kernel_rfl) (fun _ _ _ h => h) (Or.inl ⟨by rfl, ?_⟩) hHeld ?_ ?_
    rotate_left
    · intro w' s0
      go_simp
      with_reducible rfl
    rotate_left
    · simp only [Act.put, List.setIfInBounds_toArray, List.set_cons_zero, List.set_cons_succ, i64_w, i32_w]
      rfl
    refine one_ (i := 0) (N := some 20) #[true, true, true, true, false, false, false, false] rfl rfl (by kernel_rfl) (by decide) (fun K hK => ?_)
    refine goes_ Tryd.func62 (by kernel_rfl) rfl #[] (by rfl) rfl rfl (by simp only [List.map_toArray, List.map_nil]) ?_
    with_reducible refine (whats_walk _).mono ?_
    rintro e wa ⟨Aa, ca, rfl, hma, hCa, hba⟩
    refine ⟨_, rfl, ?_⟩
    have hBa := below_then hBZ hBZ.size hba
    refine hK.out _ _ (((hBa.cell (p := ⟨b, 1, none⟩) hbz).trans c1)) (fun hHeld => ?_)
    clear hK K
    refine norm_ (a' := ?_) ?_ ?_
    rotate_left
    · show Act.put _ (some 20) _ = _
      simp only [Act.put, List.setIfInBounds_toArray, List.set_cons_zero, List.set_cons_succ, i64_w, i32_w]
      rfl
    refine one_ (i := 4) (N := some 24) #[true, true, true, true, true, false, false, false] rfl rfl (by kernel_rfl) (by decide) (fun K hK => ?_)
    refine goes_ Tryd.func77 (by kernel_rfl) rfl #[.slice Aa whatsL.length ca, .string x1] (by rfl) rfl rfl (by simp only [List.map_toArray, List.map_cons, List.map_nil]; rfl) ?_
    with_reducible refine (slices_Index_string_string.calls 20 Aa ca whatsL x1 i1 _ hCa hma hidx.out).mono ?_
    rintro e wb ⟨rfl, hdb⟩
    refine ⟨_, rfl, ?_⟩
    have hbb := hdb.below
    have hBb := below_then hBa hBa.size hbb
    have hbn1 := (hBb.block bn hbnz).trans hzn
    have hq1 := cell_of_heap (j := 1) hbn1 rfl
    have hf1 := blk_frozen hbn1 1
    refine hK.out _ _ (((hBb.cell (p := ⟨b, 1, none⟩) hbz).trans c1)) (fun hHeld => ?_)
    clear hK K
    refine norm_ (a' := ?_) ?_ ?_
    rotate_left
    · show Act.put _ (some 24) _ = _
      simp only [Act.put, List.setIfInBounds_toArray, List.set_cons_zero, List.set_cons_succ, i64_w, i32_w]
      rfl
    refine pure_ (i := 5) (N := some 25) (v := ?_) (a' := ?_) #[true, true, true, true, true, true, false, false] rfl rfl (by kernel_rfl) (fun _ _ _ h => h) (Or.inl ⟨by rfl, ?_⟩) ?_ ?_
    rotate_left
    · intro w'
      go_simp
      with_reducible rfl
    rotate_left
    · simp only [Act.put, List.setIfInBounds_toArray, List.set_cons_zero, List.set_cons_succ, i64_w, i32_w]
      rfl
    refine pure_ (i := 6) (N := some 26) (v := ?_) (a' := ?_) #[true, true, true, true, true, true, true, false] rfl rfl (by kernel_rfl) (fun _ _ _ h => h) (Or.inl ⟨by rfl, ?_⟩) ?_ ?_
    rotate_left
    · intro w'
      go_simp
      with_reducible rfl
    rotate_left
    · simp only [Act.put, List.setIfInBounds_toArray, List.set_cons_zero, List.set_cons_succ, i64_w, i32_w]
      rfl
    refine last_ (i := 7) (N := none) #[true, true, true, true, true, true, true, true] rfl rfl (by kernel_rfl) (by decide) (fun K hK => ?_)
    refine skip_ (w1 := ?_) (by rfl) rfl ?_ ?_
    rotate_left
    · go_simp
      rfl
    refine hK.out _ _ ?_
    clear hK K
    refine done_ (by kernel_rfl) ?_
    have e1' : max i1 0 = wh := by rw [← e1.out]; unfold mx; (first | rfl | omega | (split <;> omega))
    rw [e1']
    replace e1' := Lib.hid e1'
    obtain ⟨wv, hwv⟩ : ∃ x, x = wb.setCell ⟨bn, 1, none⟩ (.int .i64 wh) := ⟨_, rfl⟩
    have hvn : wv.heap[bn]? = some (.cells #[.int .i64 tk, .int .i64 wh, .int .i64 0, .int .i64 0] 35 (0, 0)) := by rw [hwv]; exact blk_set hbn1 1 _
    have hvl : wv.heap[b]? = some (.cells (l.map Value.string).toArray 9 (0, 0)) := by rw [hwv]; exact blk_far ((hBb.block b hbz).trans hzl) hbbn _
    have hBv : Below wx.heap.size wx wv := by rw [hwv]; exact (below_then hBz hBz.size hBb).setCell (p := ⟨bn, 1, none⟩) hbnx _
    have hv2 := (hBv.block b2 hb2x).trans hx.out
    rw [← hwv]
    replace hwv := Lib.hid hwv
    clear hq1 hf1 hbn1 hBb hbb hdb hBa hba hBZ hzn hzl hz2 hBz c1
    have hbv : b < wv.heap.size := (Array.getElem?_eq_some_iff.1 hvl).1
    have hbnv : bn < wv.heap.size := (Array.getElem?_eq_some_iff.1 hvn).1
    have hh := has_f wh
    have hvn' := Lib.hid hvn
    have k1 := cell_of_heap (j := 1) hvn rfl
    by_cases h2 : nn = 2
    · have e2 : op = 0 := by rw [hop.out]; unfold opG; rw [if_neg (by rw [← hnn.out]; omega)]
      have e3 : ag = 0 := by rw [hag.out]; unfold argG restG; rw [if_neg (by rw [List.length_drop, ← hnn.out]; split <;> omega)]
      subst h2 e2 e3
      cases hhas : hasv wh <;> rw [hhas] at hh
      all_goals
        replace hh := Lib.hid hh
        go_upto_region 11 with (go_at_call 63; refine (note_hasOp.calls wh _ _ hh.out).mono ?_; rintro e wq ⟨rfl, hd⟩; have hbv' := hd.below; have hqn := (hbv'.block bn hbnv).trans hvn'.out; have hq2 := blk_below hv2 hbv'; have hBq := below_then hBv hBv.size hbv')
        clear k1
        have hbq2 : b2 < wq.heap.size := (Array.getElem?_eq_some_iff.1 hq2).1
        have hbqn : bn < wq.heap.size := (Array.getElem?_eq_some_iff.1 hqn).1
        have p0 := cell_of_heap (j := 0) hqn rfl
        have p1 := cell_of_heap (j := 1) hqn rfl
        have p2 := cell_of_heap (j := 2) hqn rfl
        have p3 := cell_of_heap (j := 3) hqn rfl
        have hqn' := Lib.hid hqn
        have hq2' := Lib.hid hq2
        by_cases hR : Right tk wh 0 0
        · have hr := Lib.hid (fun W => right_yes hR W)
          by_cases hT : textB tk wh 0 0 = s
          · have out1 := Lib.hid (hyes.out ⟨hR, hT⟩)
            have htw := Lib.hid (fun W => text_walk tk wh 0 0 W)
            rw [hT] at htw
            replace hR := Lib.hid hR
            replace hT := Lib.hid hT
            go_wp2_with (first
              | (go_at_call 25; refine (hr.out _).mono ?_; rintro e w8 ⟨rfl, hb8⟩; have h8 := (hb8.block bn hbqn).trans hqn'.out; have h82 := (hb8.block b2 hbq2).trans hq2'.out; have r0 := cell_of_heap (j := 0) h8 rfl; have r1 := cell_of_heap (j := 1) h8 rfl; have r2 := cell_of_heap (j := 2) h8 rfl; have r3 := cell_of_heap (j := 3) h8 rfl; replace h8 := Lib.hid h8; replace h82 := Lib.hid h82)
              | (go_at_call 24; refine (htw.out _).mono ?_; rintro e w9 ⟨rfl, hb9⟩; have hb9' := below_then hb8 hb8.size hb9; have h9 := (hb9'.block bn hbqn).trans hqn'.out; have h92 := (hb9'.block b2 hbq2).trans hq2'.out; have r0 := cell_of_heap (j := 0) h9 rfl; have r1 := cell_of_heap (j := 1) h9 rfl; have r2 := cell_of_heap (j := 2) h9 rfl; have r3 := cell_of_heap (j := 3) h9 rfl; have s0 := cell_of_heap (j := 0) h92 rfl; have s1 := cell_of_heap (j := 1) h92 rfl; have s2 := cell_of_heap (j := 2) h92 rfl; have s3 := cell_of_heap (j := 3) h92 rfl; have f0 := blk_frozen h92 0; have f1 := blk_frozen h92 1; have f2 := blk_frozen h92 2; have f3 := blk_frozen h92 3))
            obtain ⟨wr, hwr⟩ : ∃ x, x = ((((w9.setCell ⟨b2, 0, none⟩ (.int .i64 tk)).setCell ⟨b2, 1, none⟩ (.int .i64 wh)).setCell ⟨b2, 2, none⟩ (.int .i64 0)).setCell ⟨b2, 3, none⟩ (.int .i64 0)) := ⟨_, rfl⟩
            have hrr : wr.heap[b2]? = some (.cells #[.int .i64 tk, .int .i64 wh, .int .i64 0, .int .i64 0] 35 (0, 0)) := by rw [hwr]; exact blk_set (blk_set (blk_set (blk_set h92 0 _) 1 _) 2 _) 3 _
            have hBr : Below w.heap.size w wr := by rw [hwr]; exact ((((hfin.out _ (below_then hBq hBq.size hb9')).setCell (p := ⟨b2, 0, none⟩) hb2g _).setCell (p := ⟨b2, 1, none⟩) hb2g _).setCell (p := ⟨b2, 2, none⟩) hb2g _).setCell (p := ⟨b2, 3, none⟩) hb2g _
            rw [← hwr]
            replace hwr := Lib.hid hwr
            clear s0 s1 s2 s3 f0 f1 f2 f3 h92 h9
            have v0 := cell_of_heap (j := 0) hrr rfl
            have v1 := cell_of_heap (j := 1) hrr rfl
            have v2 := cell_of_heap (j := 2) hrr rfl
            have v3 := cell_of_heap (j := 3) hrr rfl
            refine bodyPost_ret (results_ct rfl _ _ b2 35 #[.int .i64 tk, .int .i64 wh, .int .i64 0, .int .i64 0] (0, 0) _ rfl hrr Tryd.underlying35 rfl (by kernel_rfl)) rfl ?_
            exact ⟨by rw [out1.out]; rfl, hBr⟩
          · have out1 := Lib.hid (hno.out (fun h => hT h.2))
            have hne : ((textB tk wh 0 0).toList == s.toList) = false := by
              rw [beq_eq_false_iff_ne]
              exact fun h => hT (bytes_eq h)
            have htw := Lib.hid (fun W => text_walk tk wh 0 0 W)
            replace hR := Lib.hid hR
            replace hT := Lib.hid hT
            go_wp2_with (first
              | (go_at_call 25; refine (hr.out _).mono ?_; rintro e w8 ⟨rfl, hb8⟩; have h8 := (hb8.block bn hbqn).trans hqn'.out; have h82 := (hb8.block b2 hbq2).trans hq2'.out; have r0 := cell_of_heap (j := 0) h8 rfl; have r1 := cell_of_heap (j := 1) h8 rfl; have r2 := cell_of_heap (j := 2) h8 rfl; have r3 := cell_of_heap (j := 3) h8 rfl; replace h8 := Lib.hid h8; replace h82 := Lib.hid h82)
              | (go_at_call 24; refine (htw.out _).mono ?_; rintro e w9 ⟨rfl, hb9⟩; have hb9' := below_then hb8 hb8.size hb9; have h92 := (hb9'.block b2 hbq2).trans hq2'.out; have s0 := cell_of_heap (j := 0) h92 rfl; have s1 := cell_of_heap (j := 1) h92 rfl; have s2 := cell_of_heap (j := 2) h92 rfl; have s3 := cell_of_heap (j := 3) h92 rfl; have f0 := blk_frozen h92 0; have f1 := blk_frozen h92 1; have f2 := blk_frozen h92 2; have f3 := blk_frozen h92 3))
            obtain ⟨wr, hwr⟩ : ∃ x, x = ((((w9.setCell ⟨b2, 0, none⟩ (.int .i64 0)).setCell ⟨b2, 1, none⟩ (.int .i64 0)).setCell ⟨b2, 2, none⟩ (.int .i64 0)).setCell ⟨b2, 3, none⟩ (.int .i64 0)) := ⟨_, rfl⟩
            have hrr : wr.heap[b2]? = some (.cells #[.int .i64 0, .int .i64 0, .int .i64 0, .int .i64 0] 35 (0, 0)) := by rw [hwr]; exact blk_set (blk_set (blk_set (blk_set h92 0 _) 1 _) 2 _) 3 _
            have hBr : Below w.heap.size w wr := by rw [hwr]; exact ((((hfin.out _ (below_then hBq hBq.size hb9')).setCell (p := ⟨b2, 0, none⟩) hb2g _).setCell (p := ⟨b2, 1, none⟩) hb2g _).setCell (p := ⟨b2, 2, none⟩) hb2g _).setCell (p := ⟨b2, 3, none⟩) hb2g _
            rw [← hwr]
            replace hwr := Lib.hid hwr
            clear s0 s1 s2 s3 f0 f1 f2 f3 h92
            have v0 := cell_of_heap (j := 0) hrr rfl
            have v1 := cell_of_heap (j := 1) hrr rfl
            have v2 := cell_of_heap (j := 2) hrr rfl
            have v3 := cell_of_heap (j := 3) hrr rfl
            refine bodyPost_ret (results_ct rfl _ _ b2 35 #[.int .i64 0, .int .i64 0, .int .i64 0, .int .i64 0] (0, 0) _ rfl hrr Tryd.underlying35 rfl (by kernel_rfl)) rfl ?_
            exact ⟨by rw [out1.out]; rfl, hBr⟩
        · have out1 := Lib.hid (hno.out (fun h => hR h.1))
          have hr := Lib.hid (fun W => right_no hR W)
          replace hR := Lib.hid hR
          go_wp2_with (go_at_call 25; refine (hr.out _).mono ?_; rintro e w9 ⟨rfl, hb9'⟩; have h92 := (hb9'.block b2 hbq2).trans hq2'.out; have s0 := cell_of_heap (j := 0) h92 rfl; have s1 := cell_of_heap (j := 1) h92 rfl; have s2 := cell_of_heap (j := 2) h92 rfl; have s3 := cell_of_heap (j := 3) h92 rfl; have f0 := blk_frozen h92 0; have f1 := blk_frozen h92 1; have f2 := blk_frozen h92 2; have f3 := blk_frozen h92 3)
          obtain ⟨wr, hwr⟩ : ∃ x, x = ((((w9.setCell ⟨b2, 0, none⟩ (.int .i64 0)).setCell ⟨b2, 1, none⟩ (.int .i64 0)).setCell ⟨b2, 2, none⟩ (.int .i64 0)).setCell ⟨b2, 3, none⟩ (.int .i64 0)) := ⟨_, rfl⟩
          have hrr : wr.heap[b2]? = some (.cells #[.int .i64 0, .int .i64 0, .int .i64 0, .int .i64 0] 35 (0, 0)) := by rw [hwr]; exact blk_set (blk_set (blk_set (blk_set h92 0 _) 1 _) 2 _) 3 _
          have hBr : Below w.heap.size w wr := by rw [hwr]; exact ((((hfin.out _ (below_then hBq hBq.size hb9')).setCell (p := ⟨b2, 0, none⟩) hb2g _).setCell (p := ⟨b2, 1, none⟩) hb2g _).setCell (p := ⟨b2, 2, none⟩) hb2g _).setCell (p := ⟨b2, 3, none⟩) hb2g _
          rw [← hwr]
          replace hwr := Lib.hid hwr
          clear s0 s1 s2 s3 f0 f1 f2 f3 h92
          have v0 := cell_of_heap (j := 0) hrr rfl
          have v1 := cell_of_heap (j := 1) hrr rfl
          have v2 := cell_of_heap (j := 2) hrr rfl
          have v3 := cell_of_heap (j := 3) hrr rfl
          refine bodyPost_ret (results_ct rfl _ _ b2 35 #[.int .i64 0, .int .i64 0, .int .i64 0, .int .i64 0] (0, 0) _ rfl hrr Tryd.underlying35 rfl (by kernel_rfl)) rfl ?_
          exact ⟨by rw [out1.out]; rfl, hBr⟩
    · have hn3 : 2 < nn := by omega
      obtain ⟨x2, hx2⟩ : ∃ x, x = l.getD 2 ByteArray.empty := ⟨_, rfl⟩
      have c2 := hcell.out _ _ 2 hn3 hvl
      rw [← hx2] at c2
      replace hx2 := Lib.hid hx2
      cases hhas : hasv wh with
      | false =>
        obtain ⟨mm, hmm⟩ : ∃ mm, nn = mm + 3 := ⟨nn - 3, by omega⟩
        subst hmm
        rw [hhas] at hh
        replace hh := Lib.hid hh
        go_upto_region 10 with (go_at_call 63; refine (note_hasOp.calls wh _ _ hh.out).mono ?_; rintro e wp ⟨rfl, hd⟩; have hbv' := hd.below; have hpn := (hbv'.block bn hbnv).trans hvn'.out; have hpl := blk_below hvl hbv'; have hp2 := blk_below hv2 hbv'; have hBp := below_then hBv hBv.size hbv'; have c2p := cell_keep2 hbv' c2)
        have e2 : op = 0 := by rw [hop.out]; unfold opG; rw [← hwh.out, hhas, if_neg (by simp)]
        have e3 : mx (idxv (argsL wh) x2) 0 = ag := by rw [hag.out, arg_no (by rw [← hwh.out]; exact hhas) (by rw [← hnn.out]; omega), ← hwh.out, ← hx2.out]
        subst e2
        clear k1
        obtain ⟨i2, hi2⟩ : ∃ i, i = idxv (argsL wh) x2 := ⟨_, rfl⟩
        have hidx2 := idx_f (argsL wh) x2 (argsL_len12 wh)
        rw [← hi2] at hidx2 e3
        replace hi2 := Lib.hid hi2
        replace hidx2 := Lib.hid hidx2
        replace e3 := Lib.hid e3
        have hBZ := below_drew (Below.refl wp.heap.size wp)
        have k1 := cell_of_heap (j := 1) hpn rfl
        refine start_ (n := 10) (S := fun w' => w'.cell? ⟨bn, 1, none⟩ = some (.int .i64 wh) ∧ w'.cell? ⟨b, 2, none⟩ = some (.string x2)) (ds := [9]) #[false, false, false, false, false, false, false, false, false, false] (by kernel_rfl) rfl rfl ⟨(cell_keep2 hBZ k1), (cell_keep2 hBZ c2p)⟩ (fun hHeld => ?_)
        refine pure_ (i := 0) (N := some 47) (v := ?_) (a' := ?_) #[true, false, false, false, false, false, false, false, false, false] rfl rfl (by kernel_rfl) (fun _ _ _ h => h) (Or.inl ⟨by rfl, ?_⟩) ?_ ?_
        rotate_left
        · intro w'
          go_simp
          with_reducible rfl
        rotate_left
        · simp only [Act.put, List.setIfInBounds_toArray, List.set_cons_zero, List.set_cons_succ, i64_w, i32_w]
          rfl
        refine pure_ (i := 3) (N := some 50) (v := ?_) (a' := ?_) #[true, false, false, true, false, false, false, false, false, false] rfl rfl (by kernel_rfl) (fun _ _ _ h => h) (Or.inl ⟨by rfl, ?_⟩) ?_ ?_
        rotate_left
        · intro w'
          go_simp
          with_reducible rfl
        rotate_left
        · simp only [Act.put, List.setIfInBounds_toArray, List.set_cons_zero, List.set_cons_succ, i64_w, i32_w]
          rfl
        refine pure_ (i := 4) (N := some 51) (v := ?_) (a' := ?_) #[true, false, false, true, true, false, false, false, false, false] rfl rfl (by kernel_rfl) (fun _ _ _ h => h) (Or.inl ⟨by rfl, ?_⟩) ?_ ?_
        rotate_left
        · intro w'
          go_simp
          with_reducible rfl
        rotate_left
        · simp only [Act.put, List.setIfInBounds_toArray, List.set_cons_zero, List.set_cons_succ, i64_w, i32_w]
          rfl
        refine take_ (i := 1) (N := some 48) (v := ?_) (a' := ?_) #[true, true, false, true, true, false, false, false, false, false] rfl rfl (by kernel_rfl) (fun _ _ _ h => h) (Or.inl ⟨by rfl, ?_⟩) hHeld ?_ ?_
        rotate_left
        · rintro w' ⟨s0, s1⟩
          go_simp
          with_reducible rfl
        rotate_left
        · simp only [Act.put, List.setIfInBounds_toArray, List.set_cons_zero, List.set_cons_succ, i64_w, i32_w]
          rfl
        refine take_ (i := 5) (N := some 52) (v := ?_) (a' := ?_) #[true, true, false, true, true, true, false, false, false, false] rfl rfl (by kernel_rfl) (fun _ _ _ h => h) (Or.inl ⟨by rfl, ?_⟩) hHeld ?_ ?_
        rotate_left
        · rintro w' ⟨s0, s1⟩
          go_simp
          with_reducible rfl
        rotate_left
        · simp only [Act.put, List.setIfInBounds_toArray, List.set_cons_zero, List.set_cons_succ, i64_w, i32_w]
          rfl
        refine one_ (i := 2) (N := some 49) #[true, true, true, true, true, true, false, false, false, false] rfl rfl (by kernel_rfl) (by decide) (fun K hK => ?_)
        refine goes_ Tryd.func64 (by kernel_rfl) rfl #[.int .i64 wh] (by rfl) rfl rfl (by simp only [List.map_toArray, List.map_cons, List.map_nil]; rfl) ?_
        with_reducible refine (note_args.calls wh (argsL wh) _ (args_f wh)).mono ?_
        rintro e wc ⟨vg, rfl, hRg, hbc⟩
        refine ⟨_, rfl, ?_⟩
        obtain ⟨Ag, cg, rfl, hmg, hCg⟩ := Kd.R_reads hRg
        have hBc := below_then hBZ hBZ.size hbc
        refine hK.out _ _ ⟨(cell_keep2 hBc k1), (cell_keep2 hBc c2p)⟩ (fun hHeld => ?_)
        clear hK K
        refine norm_ (a' := ?_) ?_ ?_
        rotate_left
        · show Act.put _ (some 49) _ = _
          simp only [Act.put, List.setIfInBounds_toArray, List.set_cons_zero, List.set_cons_succ, i64_w, i32_w]
          rfl
        refine one_ (i := 6) (N := some 53) #[true, true, true, true, true, true, true, false, false, false] rfl rfl (by kernel_rfl) (by decide) (fun K hK => ?_)
        refine goes_ Tryd.func77 (by kernel_rfl) rfl #[.slice Ag (argsL wh).length cg, .string x2] (by rfl) rfl rfl (by simp only [List.map_toArray, List.map_cons, List.map_nil]; rfl) ?_
        with_reducible refine (slices_Index_string_string.calls 20 Ag cg (argsL wh) x2 i2 _ hCg hmg hidx2.out).mono ?_
        rintro e wd ⟨rfl, hdd⟩
        refine ⟨_, rfl, ?_⟩
        have hbd := hdd.below
        have hBd := below_then hBc hBc.size hbd
        have hbn3 := blk_below hpn hBd
        have hq3 := cell_of_heap (j := 3) hbn3 rfl
        have hf3 := blk_frozen hbn3 3
        refine hK.out _ _ ⟨(cell_keep2 hBd k1), (cell_keep2 hBd c2p)⟩ (fun hHeld => ?_)
        clear hK K
        refine norm_ (a' := ?_) ?_ ?_
        rotate_left
        · show Act.put _ (some 53) _ = _
          simp only [Act.put, List.setIfInBounds_toArray, List.set_cons_zero, List.set_cons_succ, i64_w, i32_w]
          rfl
        refine pure_ (i := 7) (N := some 54) (v := ?_) (a' := ?_) #[true, true, true, true, true, true, true, true, false, false] rfl rfl (by kernel_rfl) (fun _ _ _ h => h) (Or.inl ⟨by rfl, ?_⟩) ?_ ?_
        rotate_left
        · intro w'
          go_simp
          with_reducible rfl
        rotate_left
        · simp only [Act.put, List.setIfInBounds_toArray, List.set_cons_zero, List.set_cons_succ, i64_w, i32_w]
          rfl
        refine pure_ (i := 8) (N := some 55) (v := ?_) (a' := ?_) #[true, true, true, true, true, true, true, true, true, false] rfl rfl (by kernel_rfl) (fun _ _ _ h => h) (Or.inl ⟨by rfl, ?_⟩) ?_ ?_
        rotate_left
        · intro w'
          go_simp
          with_reducible rfl
        rotate_left
        · simp only [Act.put, List.setIfInBounds_toArray, List.set_cons_zero, List.set_cons_succ, i64_w, i32_w]
          rfl
        refine last_ (i := 9) (N := none) #[true, true, true, true, true, true, true, true, true, true] rfl rfl (by kernel_rfl) (by decide) (fun K hK => ?_)
        refine skip_ (w1 := ?_) (by rfl) rfl ?_ ?_
        rotate_left
        · go_simp
          rfl
        refine hK.out _ _ ?_
        clear hK K
        refine done_ (by kernel_rfl) ?_
        have e3' : max i2 0 = ag := by rw [← e3.out]; unfold mx; (first | rfl | omega | (split <;> omega))
        rw [e3']
        replace e3' := Lib.hid e3'
        obtain ⟨wq, hwq⟩ : ∃ x, x = wd.setCell ⟨bn, 3, none⟩ (.int .i64 ag) := ⟨_, rfl⟩
        have hqn : wq.heap[bn]? = some (.cells #[.int .i64 tk, .int .i64 wh, .int .i64 0, .int .i64 ag] 35 (0, 0)) := by rw [hwq]; exact blk_set hbn3 3 _
        have hBq : Below wx.heap.size wx wq := by rw [hwq]; exact (below_then hBp hBp.size hBd).setCell (p := ⟨bn, 3, none⟩) hbnx _
        have hq2 := (hBq.block b2 hb2x).trans hx.out
        rw [← hwq]
        replace hwq := Lib.hid hwq
        clear hBd hdd hbd hBc hbc hbn3 hq3 hf3 hBZ k1
        have hbq2 : b2 < wq.heap.size := (Array.getElem?_eq_some_iff.1 hq2).1
        have hbqn : bn < wq.heap.size := (Array.getElem?_eq_some_iff.1 hqn).1
        have p0 := cell_of_heap (j := 0) hqn rfl
        have p1 := cell_of_heap (j := 1) hqn rfl
        have p2 := cell_of_heap (j := 2) hqn rfl
        have p3 := cell_of_heap (j := 3) hqn rfl
        have hqn' := Lib.hid hqn
        have hq2' := Lib.hid hq2
        by_cases hR : Right tk wh 0 ag
        · have hr := Lib.hid (fun W => right_yes hR W)
          by_cases hT : textB tk wh 0 ag = s
          · have out1 := Lib.hid (hyes.out ⟨hR, hT⟩)
            have htw := Lib.hid (fun W => text_walk tk wh 0 ag W)
            rw [hT] at htw
            replace hR := Lib.hid hR
            replace hT := Lib.hid hT
            go_wp2_with (first
              | (go_at_call 25; refine (hr.out _).mono ?_; rintro e w8 ⟨rfl, hb8⟩; have h8 := (hb8.block bn hbqn).trans hqn'.out; have h82 := (hb8.block b2 hbq2).trans hq2'.out; have r0 := cell_of_heap (j := 0) h8 rfl; have r1 := cell_of_heap (j := 1) h8 rfl; have r2 := cell_of_heap (j := 2) h8 rfl; have r3 := cell_of_heap (j := 3) h8 rfl; replace h8 := Lib.hid h8; replace h82 := Lib.hid h82)
              | (go_at_call 24; refine (htw.out _).mono ?_; rintro e w9 ⟨rfl, hb9⟩; have hb9' := below_then hb8 hb8.size hb9; have h9 := (hb9'.block bn hbqn).trans hqn'.out; have h92 := (hb9'.block b2 hbq2).trans hq2'.out; have r0 := cell_of_heap (j := 0) h9 rfl; have r1 := cell_of_heap (j := 1) h9 rfl; have r2 := cell_of_heap (j := 2) h9 rfl; have r3 := cell_of_heap (j := 3) h9 rfl; have s0 := cell_of_heap (j := 0) h92 rfl; have s1 := cell_of_heap (j := 1) h92 rfl; have s2 := cell_of_heap (j := 2) h92 rfl; have s3 := cell_of_heap (j := 3) h92 rfl; have f0 := blk_frozen h92 0; have f1 := blk_frozen h92 1; have f2 := blk_frozen h92 2; have f3 := blk_frozen h92 3))
            obtain ⟨wr, hwr⟩ : ∃ x, x = ((((w9.setCell ⟨b2, 0, none⟩ (.int .i64 tk)).setCell ⟨b2, 1, none⟩ (.int .i64 wh)).setCell ⟨b2, 2, none⟩ (.int .i64 0)).setCell ⟨b2, 3, none⟩ (.int .i64 ag)) := ⟨_, rfl⟩
            have hrr : wr.heap[b2]? = some (.cells #[.int .i64 tk, .int .i64 wh, .int .i64 0, .int .i64 ag] 35 (0, 0)) := by rw [hwr]; exact blk_set (blk_set (blk_set (blk_set h92 0 _) 1 _) 2 _) 3 _
            have hBr : Below w.heap.size w wr := by rw [hwr]; exact ((((hfin.out _ (below_then hBq hBq.size hb9')).setCell (p := ⟨b2, 0, none⟩) hb2g _).setCell (p := ⟨b2, 1, none⟩) hb2g _).setCell (p := ⟨b2, 2, none⟩) hb2g _).setCell (p := ⟨b2, 3, none⟩) hb2g _
            rw [← hwr]
            replace hwr := Lib.hid hwr
            clear s0 s1 s2 s3 f0 f1 f2 f3 h92 h9
            have v0 := cell_of_heap (j := 0) hrr rfl
            have v1 := cell_of_heap (j := 1) hrr rfl
            have v2 := cell_of_heap (j := 2) hrr rfl
            have v3 := cell_of_heap (j := 3) hrr rfl
            refine bodyPost_ret (results_ct rfl _ _ b2 35 #[.int .i64 tk, .int .i64 wh, .int .i64 0, .int .i64 ag] (0, 0) _ rfl hrr Tryd.underlying35 rfl (by kernel_rfl)) rfl ?_
            exact ⟨by rw [out1.out]; rfl, hBr⟩
          · have out1 := Lib.hid (hno.out (fun h => hT h.2))
            have hne : ((textB tk wh 0 ag).toList == s.toList) = false := by
              rw [beq_eq_false_iff_ne]
              exact fun h => hT (bytes_eq h)
            have htw := Lib.hid (fun W => text_walk tk wh 0 ag W)
            replace hR := Lib.hid hR
            replace hT := Lib.hid hT
            go_wp2_with (first
              | (go_at_call 25; refine (hr.out _).mono ?_; rintro e w8 ⟨rfl, hb8⟩; have h8 := (hb8.block bn hbqn).trans hqn'.out; have h82 := (hb8.block b2 hbq2).trans hq2'.out; have r0 := cell_of_heap (j := 0) h8 rfl; have r1 := cell_of_heap (j := 1) h8 rfl; have r2 := cell_of_heap (j := 2) h8 rfl; have r3 := cell_of_heap (j := 3) h8 rfl; replace h8 := Lib.hid h8; replace h82 := Lib.hid h82)
              | (go_at_call 24; refine (htw.out _).mono ?_; rintro e w9 ⟨rfl, hb9⟩; have hb9' := below_then hb8 hb8.size hb9; have h92 := (hb9'.block b2 hbq2).trans hq2'.out; have s0 := cell_of_heap (j := 0) h92 rfl; have s1 := cell_of_heap (j := 1) h92 rfl; have s2 := cell_of_heap (j := 2) h92 rfl; have s3 := cell_of_heap (j := 3) h92 rfl; have f0 := blk_frozen h92 0; have f1 := blk_frozen h92 1; have f2 := blk_frozen h92 2; have f3 := blk_frozen h92 3))
            obtain ⟨wr, hwr⟩ : ∃ x, x = ((((w9.setCell ⟨b2, 0, none⟩ (.int .i64 0)).setCell ⟨b2, 1, none⟩ (.int .i64 0)).setCell ⟨b2, 2, none⟩ (.int .i64 0)).setCell ⟨b2, 3, none⟩ (.int .i64 0)) := ⟨_, rfl⟩
            have hrr : wr.heap[b2]? = some (.cells #[.int .i64 0, .int .i64 0, .int .i64 0, .int .i64 0] 35 (0, 0)) := by rw [hwr]; exact blk_set (blk_set (blk_set (blk_set h92 0 _) 1 _) 2 _) 3 _
            have hBr : Below w.heap.size w wr := by rw [hwr]; exact ((((hfin.out _ (below_then hBq hBq.size hb9')).setCell (p := ⟨b2, 0, none⟩) hb2g _).setCell (p := ⟨b2, 1, none⟩) hb2g _).setCell (p := ⟨b2, 2, none⟩) hb2g _).setCell (p := ⟨b2, 3, none⟩) hb2g _
            rw [← hwr]
            replace hwr := Lib.hid hwr
            clear s0 s1 s2 s3 f0 f1 f2 f3 h92
            have v0 := cell_of_heap (j := 0) hrr rfl
            have v1 := cell_of_heap (j := 1) hrr rfl
            have v2 := cell_of_heap (j := 2) hrr rfl
            have v3 := cell_of_heap (j := 3) hrr rfl
            refine bodyPost_ret (results_ct rfl _ _ b2 35 #[.int .i64 0, .int .i64 0, .int .i64 0, .int .i64 0] (0, 0) _ rfl hrr Tryd.underlying35 rfl (by kernel_rfl)) rfl ?_
            exact ⟨by rw [out1.out]; rfl, hBr⟩
        · have out1 := Lib.hid (hno.out (fun h => hR h.1))
          have hr := Lib.hid (fun W => right_no hR W)
          replace hR := Lib.hid hR
          go_wp2_with (go_at_call 25; refine (hr.out _).mono ?_; rintro e w9 ⟨rfl, hb9'⟩; have h92 := (hb9'.block b2 hbq2).trans hq2'.out; have s0 := cell_of_heap (j := 0) h92 rfl; have s1 := cell_of_heap (j := 1) h92 rfl; have s2 := cell_of_heap (j := 2) h92 rfl; have s3 := cell_of_heap (j := 3) h92 rfl; have f0 := blk_frozen h92 0; have f1 := blk_frozen h92 1; have f2 := blk_frozen h92 2; have f3 := blk_frozen h92 3)
          obtain ⟨wr, hwr⟩ : ∃ x, x = ((((w9.setCell ⟨b2, 0, none⟩ (.int .i64 0)).setCell ⟨b2, 1, none⟩ (.int .i64 0)).setCell ⟨b2, 2, none⟩ (.int .i64 0)).setCell ⟨b2, 3, none⟩ (.int .i64 0)) := ⟨_, rfl⟩
          have hrr : wr.heap[b2]? = some (.cells #[.int .i64 0, .int .i64 0, .int .i64 0, .int .i64 0] 35 (0, 0)) := by rw [hwr]; exact blk_set (blk_set (blk_set (blk_set h92 0 _) 1 _) 2 _) 3 _
          have hBr : Below w.heap.size w wr := by rw [hwr]; exact ((((hfin.out _ (below_then hBq hBq.size hb9')).setCell (p := ⟨b2, 0, none⟩) hb2g _).setCell (p := ⟨b2, 1, none⟩) hb2g _).setCell (p := ⟨b2, 2, none⟩) hb2g _).setCell (p := ⟨b2, 3, none⟩) hb2g _
          rw [← hwr]
          replace hwr := Lib.hid hwr
          clear s0 s1 s2 s3 f0 f1 f2 f3 h92
          have v0 := cell_of_heap (j := 0) hrr rfl
          have v1 := cell_of_heap (j := 1) hrr rfl
          have v2 := cell_of_heap (j := 2) hrr rfl
          have v3 := cell_of_heap (j := 3) hrr rfl
          refine bodyPost_ret (results_ct rfl _ _ b2 35 #[.int .i64 0, .int .i64 0, .int .i64 0, .int .i64 0] (0, 0) _ rfl hrr Tryd.underlying35 rfl (by kernel_rfl)) rfl ?_
          exact ⟨by rw [out1.out]; rfl, hBr⟩
      | true =>
        rw [hhas] at hh
        replace hh := Lib.hid hh
        by_cases h3 : nn = 3
        · subst h3
          go_upto_region 8 with (go_at_call 63; refine (note_hasOp.calls wh _ _ hh.out).mono ?_; rintro e wo ⟨rfl, hd⟩; have hbv' := hd.below; have hon := (hbv'.block bn hbnv).trans hvn'.out; have hol := blk_below hvl hbv'; have hBo := below_then hBv hBv.size hbv'; have c2o := cell_keep2 hbv' c2)
          have e2 : note_Number.f 20 x2 = some op := by rw [number_f, hop.out, op_yes (by rw [← hwh.out]; exact hhas) (by rw [← hnn.out]; omega), ← hx2.out]
          replace e2 := Lib.hid e2
          clear k1
          have hBZ := below_drew (Below.refl wo.heap.size wo)
          refine start_ (n := 9) (S := fun w' => w'.cell? ⟨b, 2, none⟩ = some (.string x2)) (ds := [7]) #[false, false, false, false, false, false, false, false, false] (by kernel_rfl) rfl rfl ((cell_keep2 hBZ c2o)) (fun hHeld => ?_)
          refine pure_ (i := 0) (N := some 37) (v := ?_) (a' := ?_) #[true, false, false, false, false, false, false, false, false] rfl rfl (by kernel_rfl) (fun _ _ _ h => h) (Or.inl ⟨by rfl, ?_⟩) ?_ ?_
          rotate_left
          · intro w'
            go_simp
            with_reducible rfl
          rotate_left
          · simp only [Act.put, List.setIfInBounds_toArray, List.set_cons_zero, List.set_cons_succ, i64_w, i32_w]
            rfl
          refine pure_ (i := 1) (N := some 38) (v := ?_) (a' := ?_) #[true, true, false, false, false, false, false, false, false] rfl rfl (by kernel_rfl) (fun _ _ _ h => h) (Or.inl ⟨by rfl, ?_⟩) ?_ ?_
          rotate_left
          · intro w'
            go_simp
            with_reducible rfl
          rotate_left
          · simp only [Act.put, List.setIfInBounds_toArray, List.set_cons_zero, List.set_cons_succ, i64_w, i32_w]
            rfl
          refine pure_ (i := 4) (N := some 41) (v := ?_) (a' := ?_) #[true, true, false, false, true, false, false, false, false] rfl rfl (by kernel_rfl) (fun _ _ _ h => h) (Or.inl ⟨by rfl, ?_⟩) ?_ ?_
          rotate_left
          · intro w'
            go_simp
            with_reducible rfl
          rotate_left
          · simp only [Act.put, List.setIfInBounds_toArray, List.set_cons_zero, List.set_cons_succ, i64_w, i32_w]
            rfl
          refine pure_ (i := 5) (N := some 42) (v := ?_) (a' := ?_) #[true, true, false, false, true, true, false, false, false] rfl rfl (by kernel_rfl) (fun _ _ _ h => h) (Or.inl ⟨by rfl, ?_⟩) ?_ ?_
          rotate_left
          · intro w'
            go_simp
            with_reducible rfl
          rotate_left
          · simp only [Act.put, List.setIfInBounds_toArray, List.set_cons_zero, List.set_cons_succ, i64_w, i32_w]
            rfl
          refine take_ (i := 2) (N := some 39) (v := ?_) (a' := ?_) #[true, true, true, false, true, true, false, false, false] rfl rfl (by kernel_rfl) (fun _ _ _ h => h) (Or.inl ⟨by rfl, ?_⟩) hHeld ?_ ?_
          rotate_left
          · intro w' s0
            go_simp
            with_reducible rfl
          rotate_left
          · simp only [Act.put, List.setIfInBounds_toArray, List.set_cons_zero, List.set_cons_succ, i64_w, i32_w]
            rfl
          refine one_ (i := 3) (N := some 40) #[true, true, true, true, true, true, false, false, false] rfl rfl (by kernel_rfl) (by decide) (fun K hK => ?_)
          refine goes_ Tryd.func40 (by kernel_rfl) rfl #[.string x2] (by rfl) rfl rfl (by simp only [List.map_toArray, List.map_cons, List.map_nil]; rfl) ?_
          with_reducible refine (note_Number.calls 20 x2 op _ e2.out).mono ?_
          rintro e we ⟨rfl, hbe⟩
          refine ⟨_, rfl, ?_⟩
          have hBe := below_then hBZ hBZ.size hbe
          have hbn2 := blk_below hon hBe
          have hq2 := cell_of_heap (j := 2) hbn2 rfl
          have hf2 := blk_frozen hbn2 2
          refine hK.out _ _ ((cell_keep2 hBe c2o)) (fun hHeld => ?_)
          clear hK K
          refine norm_ (a' := ?_) ?_ ?_
          rotate_left
          · show Act.put _ (some 40) _ = _
            simp only [Act.put, List.setIfInBounds_toArray, List.set_cons_zero, List.set_cons_succ, i64_w, i32_w]
            rfl
          refine pure_ (i := 6) (N := some 43) (v := ?_) (a' := ?_) #[true, true, true, true, true, true, true, false, false] rfl rfl (by kernel_rfl) (fun _ _ _ h => h) (Or.inl ⟨by rfl, ?_⟩) ?_ ?_
          rotate_left
          · intro w'
            go_simp
            with_reducible rfl
          rotate_left
          · simp only [Act.put, List.setIfInBounds_toArray, List.set_cons_zero, List.set_cons_succ, i64_w, i32_w]
            rfl
          refine last_ (i := 7) (N := none) #[true, true, true, true, true, true, true, true, false] rfl rfl (by kernel_rfl) (by decide) (fun K hK => ?_)
          refine skip_ (w1 := ?_) (by rfl) rfl ?_ ?_
          rotate_left
          · go_simp
            rfl
          refine hK.out _ _ ?_
          clear hK K
          refine pure_ (i := 8) (N := some 6) (v := ?_) (a' := ?_) #[true, true, true, true, true, true, true, true, true] rfl rfl (by kernel_rfl) (fun _ _ _ h => h) (Or.inl ⟨by rfl, ?_⟩) ?_ ?_
          rotate_left
          · intro w'
            go_simp
            with_reducible rfl
          rotate_left
          · simp only [Act.put, List.setIfInBounds_toArray, List.set_cons_zero, List.set_cons_succ, i64_w, i32_w]
            rfl
          refine done_ (by kernel_rfl) ?_
          obtain ⟨wp, hwp⟩ : ∃ x, x = we.setCell ⟨bn, 2, none⟩ (.int .i64 op) := ⟨_, rfl⟩
          have hpn : wp.heap[bn]? = some (.cells #[.int .i64 tk, .int .i64 wh, .int .i64 op, .int .i64 0] 35 (0, 0)) := by rw [hwp]; exact blk_set hbn2 2 _
          have hpl : wp.heap[b]? = some (.cells (l.map Value.string).toArray 9 (0, 0)) := by rw [hwp]; exact blk_far (blk_below hol hBe) hbbn _
          have hBp : Below wx.heap.size wx wp := by rw [hwp]; exact (below_then hBo hBo.size hBe).setCell (p := ⟨bn, 2, none⟩) hbnx _
          have hp2 := (hBp.block b2 hb2x).trans hx.out
          rw [← hwp]
          replace hwp := Lib.hid hwp
          clear hq2 hf2 hbn2 hBe hbe hBZ
          have e3 : ag = 0 := by rw [hag.out, arg_end (by rw [← hwh.out]; exact hhas) (by rw [← hnn.out]; omega)]
          subst e3
          go_upto_region 11 with (fail)
          obtain ⟨wq, hwq⟩ : ∃ x, x = wp := ⟨_, rfl⟩
          rw [← hwq] at hpn hp2 hBp ⊢
          obtain ⟨hqn, hq2, hBq⟩ : _ ∧ _ ∧ _ := ⟨hpn, hp2, hBp⟩
          clear hpn hp2 hpl
          replace hwq := Lib.hid hwq
          have hbq2 : b2 < wq.heap.size := (Array.getElem?_eq_some_iff.1 hq2).1
          have hbqn : bn < wq.heap.size := (Array.getElem?_eq_some_iff.1 hqn).1
          have p0 := cell_of_heap (j := 0) hqn rfl
          have p1 := cell_of_heap (j := 1) hqn rfl
          have p2 := cell_of_heap (j := 2) hqn rfl
          have p3 := cell_of_heap (j := 3) hqn rfl
          have hqn' := Lib.hid hqn
          have hq2' := Lib.hid hq2
          by_cases hR : Right tk wh op 0
          · have hr := Lib.hid (fun W => right_yes hR W)
            by_cases hT : textB tk wh op 0 = s
            · have out1 := Lib.hid (hyes.out ⟨hR, hT⟩)
              have htw := Lib.hid (fun W => text_walk tk wh op 0 W)
              rw [hT] at htw
              replace hR := Lib.hid hR
              replace hT := Lib.hid hT
              go_wp2_with (first
                | (go_at_call 25; refine (hr.out _).mono ?_; rintro e w8 ⟨rfl, hb8⟩; have h8 := (hb8.block bn hbqn).trans hqn'.out; have h82 := (hb8.block b2 hbq2).trans hq2'.out; have r0 := cell_of_heap (j := 0) h8 rfl; have r1 := cell_of_heap (j := 1) h8 rfl; have r2 := cell_of_heap (j := 2) h8 rfl; have r3 := cell_of_heap (j := 3) h8 rfl; replace h8 := Lib.hid h8; replace h82 := Lib.hid h82)
                | (go_at_call 24; refine (htw.out _).mono ?_; rintro e w9 ⟨rfl, hb9⟩; have hb9' := below_then hb8 hb8.size hb9; have h9 := (hb9'.block bn hbqn).trans hqn'.out; have h92 := (hb9'.block b2 hbq2).trans hq2'.out; have r0 := cell_of_heap (j := 0) h9 rfl; have r1 := cell_of_heap (j := 1) h9 rfl; have r2 := cell_of_heap (j := 2) h9 rfl; have r3 := cell_of_heap (j := 3) h9 rfl; have s0 := cell_of_heap (j := 0) h92 rfl; have s1 := cell_of_heap (j := 1) h92 rfl; have s2 := cell_of_heap (j := 2) h92 rfl; have s3 := cell_of_heap (j := 3) h92 rfl; have f0 := blk_frozen h92 0; have f1 := blk_frozen h92 1; have f2 := blk_frozen h92 2; have f3 := blk_frozen h92 3))
              obtain ⟨wr, hwr⟩ : ∃ x, x = ((((w9.setCell ⟨b2, 0, none⟩ (.int .i64 tk)).setCell ⟨b2, 1, none⟩ (.int .i64 wh)).setCell ⟨b2, 2, none⟩ (.int .i64 op)).setCell ⟨b2, 3, none⟩ (.int .i64 0)) := ⟨_, rfl⟩
              have hrr : wr.heap[b2]? = some (.cells #[.int .i64 tk, .int .i64 wh, .int .i64 op, .int .i64 0] 35 (0, 0)) := by rw [hwr]; exact blk_set (blk_set (blk_set (blk_set h92 0 _) 1 _) 2 _) 3 _
              have hBr : Below w.heap.size w wr := by rw [hwr]; exact ((((hfin.out _ (below_then hBq hBq.size hb9')).setCell (p := ⟨b2, 0, none⟩) hb2g _).setCell (p := ⟨b2, 1, none⟩) hb2g _).setCell (p := ⟨b2, 2, none⟩) hb2g _).setCell (p := ⟨b2, 3, none⟩) hb2g _
              rw [← hwr]
              replace hwr := Lib.hid hwr
              clear s0 s1 s2 s3 f0 f1 f2 f3 h92 h9
              have v0 := cell_of_heap (j := 0) hrr rfl
              have v1 := cell_of_heap (j := 1) hrr rfl
              have v2 := cell_of_heap (j := 2) hrr rfl
              have v3 := cell_of_heap (j := 3) hrr rfl
              refine bodyPost_ret (results_ct rfl _ _ b2 35 #[.int .i64 tk, .int .i64 wh, .int .i64 op, .int .i64 0] (0, 0) _ rfl hrr Tryd.underlying35 rfl (by kernel_rfl)) rfl ?_
              exact ⟨by rw [out1.out]; rfl, hBr⟩
            · have out1 := Lib.hid (hno.out (fun h => hT h.2))
              have hne : ((textB tk wh op 0).toList == s.toList) = false := by
                rw [beq_eq_false_iff_ne]
                exact fun h => hT (bytes_eq h)
              have htw := Lib.hid (fun W => text_walk tk wh op 0 W)
              replace hR := Lib.hid hR
              replace hT := Lib.hid hT
              go_wp2_with (first
                | (go_at_call 25; refine (hr.out _).mono ?_; rintro e w8 ⟨rfl, hb8⟩; have h8 := (hb8.block bn hbqn).trans hqn'.out; have h82 := (hb8.block b2 hbq2).trans hq2'.out; have r0 := cell_of_heap (j := 0) h8 rfl; have r1 := cell_of_heap (j := 1) h8 rfl; have r2 := cell_of_heap (j := 2) h8 rfl; have r3 := cell_of_heap (j := 3) h8 rfl; replace h8 := Lib.hid h8; replace h82 := Lib.hid h82)
                | (go_at_call 24; refine (htw.out _).mono ?_; rintro e w9 ⟨rfl, hb9⟩; have hb9' := below_then hb8 hb8.size hb9; have h92 := (hb9'.block b2 hbq2).trans hq2'.out; have s0 := cell_of_heap (j := 0) h92 rfl; have s1 := cell_of_heap (j := 1) h92 rfl; have s2 := cell_of_heap (j := 2) h92 rfl; have s3 := cell_of_heap (j := 3) h92 rfl; have f0 := blk_frozen h92 0; have f1 := blk_frozen h92 1; have f2 := blk_frozen h92 2; have f3 := blk_frozen h92 3))
              obtain ⟨wr, hwr⟩ : ∃ x, x = ((((w9.setCell ⟨b2, 0, none⟩ (.int .i64 0)).setCell ⟨b2, 1, none⟩ (.int .i64 0)).setCell ⟨b2, 2, none⟩ (.int .i64 0)).setCell ⟨b2, 3, none⟩ (.int .i64 0)) := ⟨_, rfl⟩
              have hrr : wr.heap[b2]? = some (.cells #[.int .i64 0, .int .i64 0, .int .i64 0, .int .i64 0] 35 (0, 0)) := by rw [hwr]; exact blk_set (blk_set (blk_set (blk_set h92 0 _) 1 _) 2 _) 3 _
              have hBr : Below w.heap.size w wr := by rw [hwr]; exact ((((hfin.out _ (below_then hBq hBq.size hb9')).setCell (p := ⟨b2, 0, none⟩) hb2g _).setCell (p := ⟨b2, 1, none⟩) hb2g _).setCell (p := ⟨b2, 2, none⟩) hb2g _).setCell (p := ⟨b2, 3, none⟩) hb2g _
              rw [← hwr]
              replace hwr := Lib.hid hwr
              clear s0 s1 s2 s3 f0 f1 f2 f3 h92
              have v0 := cell_of_heap (j := 0) hrr rfl
              have v1 := cell_of_heap (j := 1) hrr rfl
              have v2 := cell_of_heap (j := 2) hrr rfl
              have v3 := cell_of_heap (j := 3) hrr rfl
              refine bodyPost_ret (results_ct rfl _ _ b2 35 #[.int .i64 0, .int .i64 0, .int .i64 0, .int .i64 0] (0, 0) _ rfl hrr Tryd.underlying35 rfl (by kernel_rfl)) rfl ?_
              exact ⟨by rw [out1.out]; rfl, hBr⟩
          · have out1 := Lib.hid (hno.out (fun h => hR h.1))
            have hr := Lib.hid (fun W => right_no hR W)
            replace hR := Lib.hid hR
            go_wp2_with (go_at_call 25; refine (hr.out _).mono ?_; rintro e w9 ⟨rfl, hb9'⟩; have h92 := (hb9'.block b2 hbq2).trans hq2'.out; have s0 := cell_of_heap (j := 0) h92 rfl; have s1 := cell_of_heap (j := 1) h92 rfl; have s2 := cell_of_heap (j := 2) h92 rfl; have s3 := cell_of_heap (j := 3) h92 rfl; have f0 := blk_frozen h92 0; have f1 := blk_frozen h92 1; have f2 := blk_frozen h92 2; have f3 := blk_frozen h92 3)
            obtain ⟨wr, hwr⟩ : ∃ x, x = ((((w9.setCell ⟨b2, 0, none⟩ (.int .i64 0)).setCell ⟨b2, 1, none⟩ (.int .i64 0)).setCell ⟨b2, 2, none⟩ (.int .i64 0)).setCell ⟨b2, 3, none⟩ (.int .i64 0)) := ⟨_, rfl⟩
            have hrr : wr.heap[b2]? = some (.cells #[.int .i64 0, .int .i64 0, .int .i64 0, .int .i64 0] 35 (0, 0)) := by rw [hwr]; exact blk_set (blk_set (blk_set (blk_set h92 0 _) 1 _) 2 _) 3 _
            have hBr : Below w.heap.size w wr := by rw [hwr]; exact ((((hfin.out _ (below_then hBq hBq.size hb9')).setCell (p := ⟨b2, 0, none⟩) hb2g _).setCell (p := ⟨b2, 1, none⟩) hb2g _).setCell (p := ⟨b2, 2, none⟩) hb2g _).setCell (p := ⟨b2, 3, none⟩) hb2g _
            rw [← hwr]
            replace hwr := Lib.hid hwr
            clear s0 s1 s2 s3 f0 f1 f2 f3 h92
            have v0 := cell_of_heap (j := 0) hrr rfl
            have v1 := cell_of_heap (j := 1) hrr rfl
            have v2 := cell_of_heap (j := 2) hrr rfl
            have v3 := cell_of_heap (j := 3) hrr rfl
            refine bodyPost_ret (results_ct rfl _ _ b2 35 #[.int .i64 0, .int .i64 0, .int .i64 0, .int .i64 0] (0, 0) _ rfl hrr Tryd.underlying35 rfl (by kernel_rfl)) rfl ?_
            exact ⟨by rw [out1.out]; rfl, hBr⟩
        · obtain ⟨mk, hmk⟩ : ∃ mk, nn = mk + 4 := ⟨nn - 4, by omega⟩
          subst hmk
          have hmkI : (1 : Int) ≤ (mk : Int) + 2 := by omega
          have hmkJ : (0 : Int) < (mk : Int) + 1 := by omega
          go_upto_region 8 with (go_at_call 63; refine (note_hasOp.calls wh _ _ hh.out).mono ?_; rintro e wo ⟨rfl, hd⟩; have hbv' := hd.below; have hon := (hbv'.block bn hbnv).trans hvn'.out; have hol := blk_below hvl hbv'; have hBo := below_then hBv hBv.size hbv'; have c2o := cell_keep2 hbv' c2)
          have e2 : note_Number.f 20 x2 = some op := by rw [number_f, hop.out, op_yes (by rw [← hwh.out]; exact hhas) (by rw [← hnn.out]; omega), ← hx2.out]
          replace e2 := Lib.hid e2
          clear k1
          have hBZ := below_drew (Below.refl wo.heap.size wo)
          refine start_ (n := 9) (S := fun w' => w'.cell? ⟨b, 2, none⟩ = some (.string x2)) (ds := [7]) #[false, false, false, false, false, false, false, false, false] (by kernel_rfl) rfl rfl ((cell_keep2 hBZ c2o)) (fun hHeld => ?_)
          refine pure_ (i := 0) (N := some 37) (v := ?_) (a' := ?_) #[true, false, false, false, false, false, false, false, false] rfl rfl (by kernel_rfl) (fun _ _ _ h => h) (Or.inl ⟨by rfl, ?_⟩) ?_ ?_
          rotate_left
          · intro w'
            go_simp
            with_reducible rfl
          rotate_left
          · simp only [Act.put, List.setIfInBounds_toArray, List.set_cons_zero, List.set_cons_succ, i64_w, i32_w]
            rfl
          refine pure_ (i := 1) (N := some 38) (v := ?_) (a' := ?_) #[true, true, false, false, false, false, false, false, false] rfl rfl (by kernel_rfl) (fun _ _ _ h => h) (Or.inl ⟨by rfl, ?_⟩) ?_ ?_
          rotate_left
          · intro w'
            go_simp
            with_reducible rfl
          rotate_left
          · simp only [Act.put, List.setIfInBounds_toArray, List.set_cons_zero, List.set_cons_succ, i64_w, i32_w]
            rfl
          refine pure_ (i := 4) (N := some 41) (v := ?_) (a' := ?_) #[true, true, false, false, true, false, false, false, false] rfl rfl (by kernel_rfl) (fun _ _ _ h => h) (Or.inl ⟨by rfl, ?_⟩) ?_ ?_
          rotate_left
          · intro w'
            go_simp
            with_reducible rfl
          rotate_left
          · simp only [Act.put, List.setIfInBounds_toArray, List.set_cons_zero, List.set_cons_succ, i64_w, i32_w]
            rfl
          refine pure_ (i := 5) (N := some 42) (v := ?_) (a' := ?_) #[true, true, false, false, true, true, false, false, false] rfl rfl (by kernel_rfl) (fun _ _ _ h => h) (Or.inl ⟨by rfl, ?_⟩) ?_ ?_
          rotate_left
          · intro w'
            go_simp
            with_reducible rfl
          rotate_left
          · simp only [Act.put, List.setIfInBounds_toArray, List.set_cons_zero, List.set_cons_succ, i64_w, i32_w]
            rfl
          refine take_ (i := 2) (N := some 39) (v := ?_) (a' := ?_) #[true, true, true, false, true, true, false, false, false] rfl rfl (by kernel_rfl) (fun _ _ _ h => h) (Or.inl ⟨by rfl, ?_⟩) hHeld ?_ ?_
          rotate_left
          · intro w' s0
            go_simp
            with_reducible rfl
          rotate_left
          · simp only [Act.put, List.setIfInBounds_toArray, List.set_cons_zero, List.set_cons_succ, i64_w, i32_w]
            rfl
          refine one_ (i := 3) (N := some 40) #[true, true, true, true, true, true, false, false, false] rfl rfl (by kernel_rfl) (by decide) (fun K hK => ?_)
          refine goes_ Tryd.func40 (by kernel_rfl) rfl #[.string x2] (by rfl) rfl rfl (by simp only [List.map_toArray, List.map_cons, List.map_nil]; rfl) ?_
          with_reducible refine (note_Number.calls 20 x2 op _ e2.out).mono ?_
          rintro e we ⟨rfl, hbe⟩
          refine ⟨_, rfl, ?_⟩
          have hBe := below_then hBZ hBZ.size hbe
          have hbn2 := blk_below hon hBe
          have hq2 := cell_of_heap (j := 2) hbn2 rfl
          have hf2 := blk_frozen hbn2 2
          refine hK.out _ _ ((cell_keep2 hBe c2o)) (fun hHeld => ?_)
          clear hK K
          refine norm_ (a' := ?_) ?_ ?_
          rotate_left
          · show Act.put _ (some 40) _ = _
            simp only [Act.put, List.setIfInBounds_toArray, List.set_cons_zero, List.set_cons_succ, i64_w, i32_w]
            rfl
          refine pure_ (i := 6) (N := some 43) (v := ?_) (a' := ?_) #[true, true, true, true, true, true, true, false, false] rfl rfl (by kernel_rfl) (fun _ _ _ h => h) (Or.inl ⟨by rfl, ?_⟩) ?_ ?_
          rotate_left
          · intro w'
            go_simp
            with_reducible rfl
          rotate_left
          · simp only [Act.put, List.setIfInBounds_toArray, List.set_cons_zero, List.set_cons_succ, i64_w, i32_w]
            rfl
          refine last_ (i := 7) (N := none) #[true, true, true, true, true, true, true, true, false] rfl rfl (by kernel_rfl) (by decide) (fun K hK => ?_)
          refine skip_ (w1 := ?_) (by rfl) rfl ?_ ?_
          rotate_left
          · go_simp
            rfl
          refine hK.out _ _ ?_
          clear hK K
          refine pure_ (i := 8) (N := some 6) (v := ?_) (a' := ?_) #[true, true, true, true, true, true, true, true, true] rfl rfl (by kernel_rfl) (fun _ _ _ h => h) (Or.inl ⟨by rfl, ?_⟩) ?_ ?_
          rotate_left
          · intro w'
            go_simp
            with_reducible rfl
          rotate_left
          · simp only [Act.put, List.setIfInBounds_toArray, List.set_cons_zero, List.set_cons_succ, i64_w, i32_w]
            rfl
          refine done_ (by kernel_rfl) ?_
          obtain ⟨wp, hwp⟩ : ∃ x, x = we.setCell ⟨bn, 2, none⟩ (.int .i64 op) := ⟨_, rfl⟩
          have hpn : wp.heap[bn]? = some (.cells #[.int .i64 tk, .int .i64 wh, .int .i64 op, .int .i64 0] 35 (0, 0)) := by rw [hwp]; exact blk_set hbn2 2 _
          have hpl : wp.heap[b]? = some (.cells (l.map Value.string).toArray 9 (0, 0)) := by rw [hwp]; exact blk_far (blk_below hol hBe) hbbn _
          have hBp : Below wx.heap.size wx wp := by rw [hwp]; exact (below_then hBo hBo.size hBe).setCell (p := ⟨bn, 2, none⟩) hbnx _
          have hp2 := (hBp.block b2 hb2x).trans hx.out
          rw [← hwp]
          replace hwp := Lib.hid hwp
          clear hq2 hf2 hbn2 hBe hbe hBZ
          obtain ⟨x3, hx3⟩ : ∃ x, x = l.getD 3 ByteArray.empty := ⟨_, rfl⟩
          have c2p := hcell.out _ _ 3 (by omega) hpl
          rw [← hx3] at c2p
          replace hx3 := Lib.hid hx3
          have e3 : mx (idxv (argsL wh) x3) 0 = ag := by rw [hag.out, arg_yes (by rw [← hwh.out]; exact hhas) (by rw [← hnn.out]; omega), ← hwh.out, ← hx3.out]
          go_upto_region 10 with (fail)
          obtain ⟨i2, hi2⟩ : ∃ i, i = idxv (argsL wh) x3 := ⟨_, rfl⟩
          have hidx2 := idx_f (argsL wh) x3 (argsL_len12 wh)
          rw [← hi2] at hidx2 e3
          replace hi2 := Lib.hid hi2
          replace hidx2 := Lib.hid hidx2
          replace e3 := Lib.hid e3
          have hBZ := below_drew (Below.refl wp.heap.size wp)
          have k1 := cell_of_heap (j := 1) hpn rfl
          refine start_ (n := 10) (S := fun w' => w'.cell? ⟨bn, 1, none⟩ = some (.int .i64 wh) ∧ w'.cell? ⟨b, 3, none⟩ = some (.string x3)) (ds := [9]) #[false, false, false, false, false, false, false, false, false, false] (by kernel_rfl) rfl rfl ⟨(cell_keep2 hBZ k1), (cell_keep2 hBZ c2p)⟩ (fun hHeld => ?_)
          refine pure_ (i := 0) (N := some 47) (v := ?_) (a' := ?_) #[true, false, false, false, false, false, false, false, false, false] rfl rfl (by kernel_rfl) (fun _ _ _ h => h) (Or.inl ⟨by rfl, ?_⟩) ?_ ?_
          rotate_left
          · intro w'
            go_simp
            with_reducible rfl
          rotate_left
          · simp only [Act.put, List.setIfInBounds_toArray, List.set_cons_zero, List.set_cons_succ, i64_w, i32_w]
            rfl
          refine pure_ (i := 3) (N := some 50) (v := ?_) (a' := ?_) #[true, false, false, true, false, false, false, false, false, false] rfl rfl (by kernel_rfl) (fun _ _ _ h => h) (Or.inl ⟨by rfl, ?_⟩) ?_ ?_
          rotate_left
          · intro w'
            go_simp
            with_reducible rfl
          rotate_left
          · simp only [Act.put, List.setIfInBounds_toArray, List.set_cons_zero, List.set_cons_succ, i64_w, i32_w]
            rfl
          refine pure_ (i := 4) (N := some 51) (v := ?_) (a' := ?_) #[true, false, false, true, true, false, false, false, false, false] rfl rfl (by kernel_rfl) (fun _ _ _ h => h) (Or.inl ⟨by rfl, ?_⟩) ?_ ?_
          rotate_left
          · intro w'
            go_simp
            with_reducible rfl
          rotate_left
          · simp only [Act.put, List.setIfInBounds_toArray, List.set_cons_zero, List.set_cons_succ, i64_w, i32_w]
            rfl
          refine take_ (i := 1) (N := some 48) (v := ?_) (a' := ?_) #[true, true, false, true, true, false, false, false, false, false] rfl rfl (by kernel_rfl) (fun _ _ _ h => h) (Or.inl ⟨by rfl, ?_⟩) hHeld ?_ ?_
          rotate_left
          · rintro w' ⟨s0, s1⟩
            go_simp
            with_reducible rfl
          rotate_left
          · simp only [Act.put, List.setIfInBounds_toArray, List.set_cons_zero, List.set_cons_succ, i64_w, i32_w]
            rfl
          refine take_ (i := 5) (N := some 52) (v := ?_) (a' := ?_) #[true, true, false, true, true, true, false, false, false, false] rfl rfl (by kernel_rfl) (fun _ _ _ h => h) (Or.inl ⟨by rfl, ?_⟩) hHeld ?_ ?_
          rotate_left
          · rintro w' ⟨s0, s1⟩
            go_simp
            with_reducible rfl
          rotate_left
          · simp only [Act.put, List.setIfInBounds_toArray, List.set_cons_zero, List.set_cons_succ, i64_w, i32_w]
            rfl
          refine one_ (i := 2) (N := some 49) #[true, true, true, true, true, true, false, false, false, false] rfl rfl (by kernel_rfl) (by decide) (fun K hK => ?_)
          refine goes_ Tryd.func64 (by kernel_rfl) rfl #[.int .i64 wh] (by rfl) rfl rfl (by simp only [List.map_toArray, List.map_cons, List.map_nil]; rfl) ?_
          with_reducible refine (note_args.calls wh (argsL wh) _ (args_f wh)).mono ?_
          rintro e wc ⟨vg, rfl, hRg, hbc⟩
          refine ⟨_, rfl, ?_⟩
          obtain ⟨Ag, cg, rfl, hmg, hCg⟩ := Kd.R_reads hRg
          have hBc := below_then hBZ hBZ.size hbc
          refine hK.out _ _ ⟨(cell_keep2 hBc k1), (cell_keep2 hBc c2p)⟩ (fun hHeld => ?_)
          clear hK K
          refine norm_ (a' := ?_) ?_ ?_
          rotate_left
          · show Act.put _ (some 49) _ = _
            simp only [Act.put, List.setIfInBounds_toArray, List.set_cons_zero, List.set_cons_succ, i64_w, i32_w]
            rfl
          refine one_ (i := 6) (N := some 53) #[true, true, true, true, true, true, true, false, false, false] rfl rfl (by kernel_rfl) (by decide) (fun K hK => ?_)
          refine goes_ Tryd.func77 (by kernel_rfl) rfl #[.slice Ag (argsL wh).length cg, .string x3] (by rfl) rfl rfl (by simp only [List.map_toArray, List.map_cons, List.map_nil]; rfl) ?_
          with_reducible refine (slices_Index_string_string.calls 20 Ag cg (argsL wh) x3 i2 _ hCg hmg hidx2.out).mono ?_
          rintro e wd ⟨rfl, hdd⟩
          refine ⟨_, rfl, ?_⟩
          have hbd := hdd.below
          have hBd := below_then hBc hBc.size hbd
          have hbn3 := blk_below hpn hBd
          have hq3 := cell_of_heap (j := 3) hbn3 rfl
          have hf3 := blk_frozen hbn3 3
          refine hK.out _ _ ⟨(cell_keep2 hBd k1), (cell_keep2 hBd c2p)⟩ (fun hHeld => ?_)
          clear hK K
          refine norm_ (a' := ?_) ?_ ?_
          rotate_left
          · show Act.put _ (some 53) _ = _
            simp only [Act.put, List.setIfInBounds_toArray, List.set_cons_zero, List.set_cons_succ, i64_w, i32_w]
            rfl
          refine pure_ (i := 7) (N := some 54) (v := ?_) (a' := ?_) #[true, true, true, true, true, true, true, true, false, false] rfl rfl (by kernel_rfl) (fun _ _ _ h => h) (Or.inl ⟨by rfl, ?_⟩) ?_ ?_
          rotate_left
          · intro w'
            go_simp
            with_reducible rfl
          rotate_left
          · simp only [Act.put, List.setIfInBounds_toArray, List.set_cons_zero, List.set_cons_succ, i64_w, i32_w]
            rfl
          refine pure_ (i := 8) (N := some 55) (v := ?_) (a' := ?_) #[true, true, true, true, true, true, true, true, true, false] rfl rfl (by kernel_rfl) (fun _ _ _ h => h) (Or.inl ⟨by rfl, ?_⟩) ?_ ?_
          rotate_left
          · intro w'
            go_simp
            with_reducible rfl
          rotate_left
          · simp only [Act.put, List.setIfInBounds_toArray, List.set_cons_zero, List.set_cons_succ, i64_w, i32_w]
            rfl
          refine last_ (i := 9) (N := none) #[true, true, true, true, true, true, true, true, true, true] rfl rfl (by kernel_rfl) (by decide) (fun K hK => ?_)
          refine skip_ (w1 := ?_) (by rfl) rfl ?_ ?_
          rotate_left
          · go_simp
            rfl
          refine hK.out _ _ ?_
          clear hK K
          refine done_ (by kernel_rfl) ?_
          have e3' : max i2 0 = ag := by rw [← e3.out]; unfold mx; (first | rfl | omega | (split <;> omega))
          rw [e3']
          replace e3' := Lib.hid e3'
          obtain ⟨wq, hwq⟩ : ∃ x, x = wd.setCell ⟨bn, 3, none⟩ (.int .i64 ag) := ⟨_, rfl⟩
          have hqn : wq.heap[bn]? = some (.cells #[.int .i64 tk, .int .i64 wh, .int .i64 op, .int .i64 ag] 35 (0, 0)) := by rw [hwq]; exact blk_set hbn3 3 _
          have hBq : Below wx.heap.size wx wq := by rw [hwq]; exact (below_then hBp hBp.size hBd).setCell (p := ⟨bn, 3, none⟩) hbnx _
          have hq2 := (hBq.block b2 hb2x).trans hx.out
          rw [← hwq]
          replace hwq := Lib.hid hwq
          clear hBd hdd hbd hBc hbc hbn3 hq3 hf3 hBZ k1
          have hbq2 : b2 < wq.heap.size := (Array.getElem?_eq_some_iff.1 hq2).1
          have hbqn : bn < wq.heap.size := (Array.getElem?_eq_some_iff.1 hqn).1
          have p0 := cell_of_heap (j := 0) hqn rfl
          have p1 := cell_of_heap (j := 1) hqn rfl
          have p2 := cell_of_heap (j := 2) hqn rfl
          have p3 := cell_of_heap (j := 3) hqn rfl
          have hqn' := Lib.hid hqn
          have hq2' := Lib.hid hq2
          by_cases hR : Right tk wh op ag
          · have hr := Lib.hid (fun W => right_yes hR W)
            by_cases hT : textB tk wh op ag = s
            · have out1 := Lib.hid (hyes.out ⟨hR, hT⟩)
              have htw := Lib.hid (fun W => text_walk tk wh op ag W)
              rw [hT] at htw
              replace hR := Lib.hid hR
              replace hT := Lib.hid hT
              go_wp2_with (first
                | (go_at_call 25; refine (hr.out _).mono ?_; rintro e w8 ⟨rfl, hb8⟩; have h8 := (hb8.block bn hbqn).trans hqn'.out; have h82 := (hb8.block b2 hbq2).trans hq2'.out; have r0 := cell_of_heap (j := 0) h8 rfl; have r1 := cell_of_heap (j := 1) h8 rfl; have r2 := cell_of_heap (j := 2) h8 rfl; have r3 := cell_of_heap (j := 3) h8 rfl; replace h8 := Lib.hid h8; replace h82 := Lib.hid h82)
                | (go_at_call 24; refine (htw.out _).mono ?_; rintro e w9 ⟨rfl, hb9⟩; have hb9' := below_then hb8 hb8.size hb9; have h9 := (hb9'.block bn hbqn).trans hqn'.out; have h92 := (hb9'.block b2 hbq2).trans hq2'.out; have r0 := cell_of_heap (j := 0) h9 rfl; have r1 := cell_of_heap (j := 1) h9 rfl; have r2 := cell_of_heap (j := 2) h9 rfl; have r3 := cell_of_heap (j := 3) h9 rfl; have s0 := cell_of_heap (j := 0) h92 rfl; have s1 := cell_of_heap (j := 1) h92 rfl; have s2 := cell_of_heap (j := 2) h92 rfl; have s3 := cell_of_heap (j := 3) h92 rfl; have f0 := blk_frozen h92 0; have f1 := blk_frozen h92 1; have f2 := blk_frozen h92 2; have f3 := blk_frozen h92 3))
              obtain ⟨wr, hwr⟩ : ∃ x, x = ((((w9.setCell ⟨b2, 0, none⟩ (.int .i64 tk)).setCell ⟨b2, 1, none⟩ (.int .i64 wh)).setCell ⟨b2, 2, none⟩ (.int .i64 op)).setCell ⟨b2, 3, none⟩ (.int .i64 ag)) := ⟨_, rfl⟩
              have hrr : wr.heap[b2]? = some (.cells #[.int .i64 tk, .int .i64 wh, .int .i64 op, .int .i64 ag] 35 (0, 0)) := by rw [hwr]; exact blk_set (blk_set (blk_set (blk_set h92 0 _) 1 _) 2 _) 3 _
              have hBr : Below w.heap.size w wr := by rw [hwr]; exact ((((hfin.out _ (below_then hBq hBq.size hb9')).setCell (p := ⟨b2, 0, none⟩) hb2g _).setCell (p := ⟨b2, 1, none⟩) hb2g _).setCell (p := ⟨b2, 2, none⟩) hb2g _).setCell (p := ⟨b2, 3, none⟩) hb2g _
              rw [← hwr]
              replace hwr := Lib.hid hwr
              clear s0 s1 s2 s3 f0 f1 f2 f3 h92 h9
              have v0 := cell_of_heap (j := 0) hrr rfl
              have v1 := cell_of_heap (j := 1) hrr rfl
              have v2 := cell_of_heap (j := 2) hrr rfl
              have v3 := cell_of_heap (j := 3) hrr rfl
              refine bodyPost_ret (results_ct rfl _ _ b2 35 #[.int .i64 tk, .int .i64 wh, .int .i64 op, .int .i64 ag] (0, 0) _ rfl hrr Tryd.underlying35 rfl (by kernel_rfl)) rfl ?_
              exact ⟨by rw [out1.out]; rfl, hBr⟩
            · have out1 := Lib.hid (hno.out (fun h => hT h.2))
              have hne : ((textB tk wh op ag).toList == s.toList) = false := by
                rw [beq_eq_false_iff_ne]
                exact fun h => hT (bytes_eq h)
              have htw := Lib.hid (fun W => text_walk tk wh op ag W)
              replace hR := Lib.hid hR
              replace hT := Lib.hid hT
              go_wp2_with (first
                | (go_at_call 25; refine (hr.out _).mono ?_; rintro e w8 ⟨rfl, hb8⟩; have h8 := (hb8.block bn hbqn).trans hqn'.out; have h82 := (hb8.block b2 hbq2).trans hq2'.out; have r0 := cell_of_heap (j := 0) h8 rfl; have r1 := cell_of_heap (j := 1) h8 rfl; have r2 := cell_of_heap (j := 2) h8 rfl; have r3 := cell_of_heap (j := 3) h8 rfl; replace h8 := Lib.hid h8; replace h82 := Lib.hid h82)
                | (go_at_call 24; refine (htw.out _).mono ?_; rintro e w9 ⟨rfl, hb9⟩; have hb9' := below_then hb8 hb8.size hb9; have h92 := (hb9'.block b2 hbq2).trans hq2'.out; have s0 := cell_of_heap (j := 0) h92 rfl; have s1 := cell_of_heap (j := 1) h92 rfl; have s2 := cell_of_heap (j := 2) h92 rfl; have s3 := cell_of_heap (j := 3) h92 rfl; have f0 := blk_frozen h92 0; have f1 := blk_frozen h92 1; have f2 := blk_frozen h92 2; have f3 := blk_frozen h92 3))
              obtain ⟨wr, hwr⟩ : ∃ x, x = ((((w9.setCell ⟨b2, 0, none⟩ (.int .i64 0)).setCell ⟨b2, 1, none⟩ (.int .i64 0)).setCell ⟨b2, 2, none⟩ (.int .i64 0)).setCell ⟨b2, 3, none⟩ (.int .i64 0)) := ⟨_, rfl⟩
              have hrr : wr.heap[b2]? = some (.cells #[.int .i64 0, .int .i64 0, .int .i64 0, .int .i64 0] 35 (0, 0)) := by rw [hwr]; exact blk_set (blk_set (blk_set (blk_set h92 0 _) 1 _) 2 _) 3 _
              have hBr : Below w.heap.size w wr := by rw [hwr]; exact ((((hfin.out _ (below_then hBq hBq.size hb9')).setCell (p := ⟨b2, 0, none⟩) hb2g _).setCell (p := ⟨b2, 1, none⟩) hb2g _).setCell (p := ⟨b2, 2, none⟩) hb2g _).setCell (p := ⟨b2, 3, none⟩) hb2g _
              rw [← hwr]
              replace hwr := Lib.hid hwr
              clear s0 s1 s2 s3 f0 f1 f2 f3 h92
              have v0 := cell_of_heap (j := 0) hrr rfl
              have v1 := cell_of_heap (j := 1) hrr rfl
              have v2 := cell_of_heap (j := 2) hrr rfl
              have v3 := cell_of_heap (j := 3) hrr rfl
              refine bodyPost_ret (results_ct rfl _ _ b2 35 #[.int .i64 0, .int .i64 0, .int .i64 0, .int .i64 0] (0, 0) _ rfl hrr Tryd.underlying35 rfl (by kernel_rfl)) rfl ?_
              exact ⟨by rw [out1.out]; rfl, hBr⟩
          · have out1 := Lib.hid (hno.out (fun h => hR h.1))
            have hr := Lib.hid (fun W => right_no hR W)
            replace hR := Lib.hid hR
            go_wp2_with (go_at_call 25; refine (hr.out _).mono ?_; rintro e w9 ⟨rfl, hb9'⟩; have h92 := (hb9'.block b2 hbq2).trans hq2'.out; have s0 := cell_of_heap (j := 0) h92 rfl; have s1 := cell_of_heap (j := 1) h92 rfl; have s2 := cell_of_heap (j := 2) h92 rfl; have s3 := cell_of_heap (j := 3) h92 rfl; have f0 := blk_frozen h92 0; have f1 := blk_frozen h92 1; have f2 := blk_frozen h92 2; have f3 := blk_frozen h92 3)
            obtain ⟨wr, hwr⟩ : ∃ x, x = ((((w9.setCell ⟨b2, 0, none⟩ (.int .i64 0)).setCell ⟨b2, 1, none⟩ (.int .i64 0)).setCell ⟨b2, 2, none⟩ (.int .i64 0)).setCell ⟨b2, 3, none⟩ (.int .i64 0)) := ⟨_, rfl⟩
            have hrr : wr.heap[b2]? = some (.cells #[.int .i64 0, .int .i64 0, .int .i64 0, .int .i64 0] 35 (0, 0)) := by rw [hwr]; exact blk_set (blk_set (blk_set (blk_set h92 0 _) 1 _) 2 _) 3 _
            have hBr : Below w.heap.size w wr := by rw [hwr]; exact ((((hfin.out _ (below_then hBq hBq.size hb9')).setCell (p := ⟨b2, 0, none⟩) hb2g _).setCell (p := ⟨b2, 1, none⟩) hb2g _).setCell (p := ⟨b2, 2, none⟩) hb2g _).setCell (p := ⟨b2, 3, none⟩) hb2g _
            rw [← hwr]
            replace hwr := Lib.hid hwr
            clear s0 s1 s2 s3 f0 f1 f2 f3 h92
            have v0 := cell_of_heap (j := 0) hrr rfl
            have v1 := cell_of_heap (j := 1) hrr rfl
            have v2 := cell_of_heap (j := 2) hrr rfl
            have v3 := cell_of_heap (j := 3) hrr rfl
            refine bodyPost_ret (results_ct rfl _ _ b2 35 #[.int .i64 0, .int .i64 0, .int .i64 0, .int .i64 0] (0, 0) _ rfl hrr Tryd.underlying35 rfl (by kernel_rfl)) rfl ?_
            exact ⟨by rw [out1.out]; rfl, hBr⟩

end Go.Proofs.YtejmbmhehbcflaaDoor.Note
