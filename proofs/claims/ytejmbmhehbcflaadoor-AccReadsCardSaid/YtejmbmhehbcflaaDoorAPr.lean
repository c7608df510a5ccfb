/- acc.Parse: the walk, against a plain guess. -/
import Derived.Test.YtejmbmhehbcflaaDoorPu
namespace Go.Proofs.YtejmbmhehbcflaaDoor.Acc
open Go.RowKit Go.Shelf Go.Proofs.YtejmbmhehbcflaaDoorW.PrintWords Go.Proofs.YtejmbmhehbcflaaDoorW.PrintMore Go.Proofs.YtejmbmhehbcflaaDoorW.PrintLast Go.Proofs.YtejmbmhehbcflaaDoor.Pr Go.Proofs.YtejmbmhehbcflaaDoor.Jn Go.Proofs.YtejmbmhehbcflaaDoor.Fu
set_option linter.unusedSimpArgs false
set_option linter.unusedVariables false
set_option maxRecDepth 100000

/-! plain -/
/-- The kind of a word, as it is looked for. -/
def kf (x : ByteArray) : Nat → Int
  | 0 => 0
  | i + 1 => if i ≠ 0 ∧ wordA (i : Int) = x then (i : Int) else kf x i
def lastS (l : List ByteArray) : ByteArray := l.getD (l.length - 1) ByteArray.empty
def kG (l : List ByteArray) : Int := kf (l.getD 0 ByteArray.empty) 6
def cG (l : List ByteArray) : Int := if 3 < l.length then Note.atoiV (l.getD 1 ByteArray.empty) else 0
def xG (l : List ByteArray) : Int := if 3 < l.length then ux (kG l) (numV (l.getD 2 ByteArray.empty)) else 0
def yG (l : List ByteArray) : Int := if 3 < l.length then uy (kG l) (numV (l.getD 3 ByteArray.empty)) else 0
def oG (l : List ByteArray) : Int := if 3 < l.length then (numV (lastS l) : Int) else 0
def aggV (k c x y o : Int) : Value := .agg #[.int .i64 k, .int .i64 c, .int .u32 x, .int .u32 y, .int .u32 o]
open Classical in
noncomputable def outG (s : ByteArray) : Value :=
  if kG (Note.cut s) ≠ 0 ∧ textB (kG (Note.cut s)) (cG (Note.cut s)) (xG (Note.cut s)) (yG (Note.cut s)) (oG (Note.cut s)) = s then .tuple #[aggV (kG (Note.cut s)) (cG (Note.cut s)) (xG (Note.cut s)) (yG (Note.cut s)) (oG (Note.cut s)), .int .i64 0]
  else .tuple #[aggV 0 0 0 0 0, .int .i64 4]
theorem numV_le (s : ByteArray) : 0 ≤ ((numV s : Nat) : Int) ∧ ((numV s : Nat) : Int) < 4294967296 := by
  have := (puS_le s.data.toList).1
  unfold numV
  split <;> omega
theorem ux_le (k : Int) {x : Int} (h : 0 ≤ x ∧ x < 4294967296) : 0 ≤ ux k x ∧ ux k x < 4294967296 := by
  unfold ux
  split <;> omega
theorem uy_le (k : Int) {x : Int} (h : 0 ≤ x ∧ x < 4294967296) : 0 ≤ uy k x ∧ uy k x < 4294967296 := by
  unfold uy
  split <;> omega

/-! walk -/
theorem index_words (k : Nat) (h5 : k ≤ 5) (w : World) : (Instr.index 97 wordsV (.int .i64 (k : Int))).run Tryd.prog w = .ok (.string (wordA (k : Int))) w := by
  have : k = 0 ∨ k = 1 ∨ k = 2 ∨ k = 3 ∨ k = 4 ∨ k = 5 := by omega
  rcases this with rfl | rfl | rfl | rfl | rfl | rfl <;> simp [Instr.index, asIntOf, run_underlying Tryd.underlying97, part, wordA]
theorem word_full : ∀ k : Fin 6, (wordA (k.val : Int)).toList.isEmpty = decide (k.val = 0) := by decide +kernel
/-- How things lie while a text is read. -/
structure St (w0 w : World) (b bn b2 : Nat) (l : List ByteArray) (cs : Array Value) : Prop where
  lst : w.heap[b]? = some (.cells (l.map Value.string).toArray 9 (0, 0))
  box : w.heap[bn]? = some (.cells cs 48 (0, 0))
  res : w.heap[b2]? = some (.cells #[.int .i64 (0), .int .i64 (0), .int .u32 (0), .int .u32 (0), .int .u32 (0)] 48 (0, 0))
  be : Below w0.heap.size w0 w
  nb : w0.heap.size ≤ bn
  n1 : bn ≠ b
  n2 : bn ≠ b2
  vars : Note.Vars w
  tabs : Tabs w
namespace St
variable {w0 w : World} {b bn b2 : Nat} {l : List ByteArray} {cs : Array Value}
theorem call (h : St w0 w b bn b2 l cs) {w1 : World} (hb : Below w.heap.size w w1) : St w0 w1 b bn b2 l cs :=
  ⟨blk_below h.lst hb, blk_below h.box hb, blk_below h.res hb, below_then h.be h.be.size hb, h.nb, h.n1, h.n2, h.vars.below hb, h.tabs.below hb⟩
theorem set (h : St w0 w b bn b2 l cs) (h0 : Note.Vars w0) (t0 : Tabs w0) (j : Nat) (v : Value) : St w0 (w.setCell ⟨bn, j, none⟩ v) b bn b2 l (cs.setIfInBounds j v) := by
  have hb := h.be.setCell (p := ⟨bn, j, none⟩) h.nb v
  exact ⟨blk_far h.lst (fun e => h.n1 e.symm) v, blk_set h.box j v, blk_far h.res (fun e => h.n2 e.symm) v, hb, h.nb, h.n1, h.n2, h0.below hb, t0.below hb⟩
theorem cell (h : St w0 w b bn b2 l cs) (j : Nat) {v : Value} (hv : cs[j]? = some v) : w.cell? ⟨bn, j, none⟩ = some v := cell_of_heap h.box hv
theorem frozen (h : St w0 w b bn b2 l cs) (j : Nat) : w.frozen? ⟨bn, j, none⟩ = false := blk_frozen h.box j
theorem res_cell (h : St w0 w b bn b2 l cs) (j : Nat) {v : Value} (hv : (#[.int .i64 (0), .int .i64 (0), .int .u32 (0), .int .u32 (0), .int .u32 (0)] : Array Value)[j]? = some v) : w.cell? ⟨b2, j, none⟩ = some v := cell_of_heap h.res hv
theorem str (h : St w0 w b bn b2 l cs) (j : Nat) (hj : j < l.length) : w.cell? ⟨b, j, none⟩ = some (.string (l.getD j ByteArray.empty)) := cell_of_heap h.lst (Note.str_at hj)
end St
set_option maxHeartbeats 8000000 in
theorem parse_walk (s : ByteArray) (hs : s.size ≤ 1000) (w : World) (hV : Note.Vars w) (hTb : Tabs w) (hc : ∀ x ∈ Note.cut s, x.size ≤ 1000) :
    Calls Tryd.prog 46 #[.string s] w fun e w' => e = .returned (outG s) ∧ Below w.heap.size w w' := by
  obtain ⟨l, hl⟩ : ∃ l, l = Note.cut s := ⟨_, rfl⟩
  have hl1 : 1 ≤ l.length := by rw [hl, Note.cut_len]; omega
  have hsp := Lib.hid (Note.split_walk s hs)
  obtain ⟨out, hout⟩ : ∃ o, o = outG s := ⟨_, rfl⟩
  rw [← hout]
  have hyes0 : kG l ≠ 0 ∧ textB (kG l) (cG l) (xG l) (yG l) (oG l) = s → out = .tuple #[aggV (kG l) (cG l) (xG l) (yG l) (oG l), .int .i64 0] := by
    intro h
    rw [hout]
    unfold outG
    rw [← hl, if_pos h]
  have hno0 : ¬ (kG l ≠ 0 ∧ textB (kG l) (cG l) (xG l) (yG l) (oG l) = s) → out = .tuple #[aggV 0 0 0 0 0, .int .i64 4] := by
    intro h
    rw [hout]
    unfold outG
    rw [← hl, if_neg h]
  rw [← hl] at hc hsp
  clear hout
  replace hl := Lib.hid hl
  obtain ⟨nn, hnn⟩ : ∃ nn, nn = l.length := ⟨_, rfl⟩
  have hn1 : 0 < nn := by omega
  have hnl : nn ≤ 1001 := by
    rw [hnn, hl.out, Note.cut_len]
    have := Lib.countB_le ⟨#[32]⟩ (by decide) _ s (Nat.le_refl _)
    omega
  rw [← hnn] at hsp
  obtain ⟨wx, hwx⟩ : ∃ wx, wx = w.alloc (.cells #[.int .i64 (0), .int .i64 (0), .int .u32 (0), .int .u32 (0), .int .u32 (0)] 48) := ⟨_, rfl⟩
  have hBx : Below w.heap.size w wx := by rw [hwx]; exact below_alloc (Below.refl _ _) _
  have hx := heap_alloc_new w (.cells #[.int .i64 (0), .int .i64 (0), .int .u32 (0), .int .u32 (0), .int .u32 (0)] 48)
  rw [← hwx] at hx
  obtain ⟨b2, hb2e⟩ : ∃ b, b = w.heap.size := ⟨_, rfl⟩
  rw [← hb2e] at hx
  have hb2 : w.heap.size ≤ b2 := by omega
  have hVx := hV.below hBx
  obtain ⟨kk, hkk⟩ : ∃ k, k = kG l := ⟨_, rfl⟩
  obtain ⟨x0, hx0⟩ : ∃ x, x = l.getD 0 ByteArray.empty := ⟨_, rfl⟩
  have hV' := Lib.hid hV
  have hTb' := Lib.hid hTb
  have hsplit : Calls Tryd.prog 78 #[.string s, .string ⟨#[32]⟩] wx fun e w' => ∃ b, e = .returned (.slice (some ⟨b, 0, none⟩) nn nn) ∧ ∀ (bn : Nat) (w2 : World), bn = w'.heap.size → w2 = w'.alloc (.cells #[.int .i64 (0), .int .i64 (0), .int .u32 (0), .int .u32 (0), .int .u32 (0)] 48) → St w w2 b bn b2 l #[.int .i64 (0), .int .i64 (0), .int .u32 (0), .int .u32 (0), .int .u32 (0)] := by
    refine (hsp.out wx hVx).mono ?_
    rintro e w' ⟨b, rfl, hb0, hbl, hb1⟩
    refine ⟨b, rfl, fun bn w2 hbn hw2 => ?_⟩
    have hbox : w2.heap[bn]? = some (.cells #[.int .i64 (0), .int .i64 (0), .int .u32 (0), .int .u32 (0), .int .u32 (0)] 48 (0, 0)) := by rw [hw2, hbn]; exact heap_alloc_new w' _
    have hblt := blk_lt hbl
    have hbig : Below w'.heap.size w' w2 := by rw [hw2]; exact below_alloc (Below.refl _ _) _
    have hb2lt : b2 < wx.heap.size := blk_lt hx
    have be : Below w.heap.size w w2 := below_then (below_then hBx hBx.size hb1) (below_then hBx hBx.size hb1).size hbig
    refine ⟨blk_below hbl hbig, hbox, blk_below (blk_below hx hb1) hbig, be, ?_, by omega, ?_, hV.below be, hTb.below be⟩
    · have := hBx.size
      have := hb1.size
      omega
    · have := hb1.size
      omega
  replace hsplit := Lib.hid hsplit
  clear hV hTb hsp hVx
  replace hwx := Lib.hid hwx
  replace hnn := Lib.hid hnn
  replace hx0 := Lib.hid hx0
  replace hkk := Lib.hid hkk
  replace hyes0 := Lib.hid hyes0
  replace hno0 := Lib.hid hno0
  replace hc := Lib.hid hc
  replace hx := Lib.hid hx
  clear hBx
  replace hb2e := Lib.hid hb2e
  go_enter Tryd.func46, Tryd.ntmps46
  go_upto_region 2 with (go_at_call 78; rw [← hwx.out, ← hb2e.out]; refine hsplit.out.mono ?_; rintro e w1 ⟨b, rfl, hst⟩)
  obtain ⟨bn, hbn⟩ : ∃ b, b = w1.heap.size := ⟨_, rfl⟩
  replace hst := Lib.hid hst
  go_upto_region 3 with (fail)
  obtain ⟨w2, hw2⟩ : ∃ x, x = w1.alloc (.cells #[.int .i64 (0), .int .i64 (0), .int .u32 (0), .int .u32 (0), .int .u32 (0)] 48) := ⟨_, rfl⟩
  have hS2 : St w w2 b bn b2 l #[.int .i64 (0), .int .i64 (0), .int .u32 (0), .int .u32 (0), .int .u32 (0)] := hst.out bn w2 hbn hw2
  rw [← hw2, ← hbn]
  replace hw2 := Lib.hid hw2
  replace hbn := Lib.hid hbn
  replace hS2 := Lib.hid hS2
  clear hst
  go_wp2_with (go_at_call 72; refine (words_walk _).mono ?_; rintro e w3 ⟨rfl, hb3⟩; have hS3 := Lib.hid (hS2.out.call hb3); clear hb3)
  replace hS3 := Lib.hid hS3.out
  clear hS2
  go_loopw [11] (fun i wr => ∃ k : Nat, k ≤ 6 ∧ i = .int .i64 k ∧ Hid (St w wr b bn b2 l #[.int .i64 (kf x0 k), .int .i64 0, .int .u32 0, .int .u32 0, .int .u32 0])) (fun i _ => 6 - (intOf i).toNat)
  case atStart => exact ⟨0, Nat.zero_le _, rfl, hS3⟩
  case round =>
    clear hS3
    obtain ⟨k, hk, rfl, hS⟩ := hrel
    by_cases hlt : k < 6
    · have hix := fun W => index_words k (by omega) W
      have hfull := word_full ⟨k, hlt⟩
      simp only at hfull
      have c0 := hS.out.str 0 (by have := hnn.out; omega)
      rw [← hx0.out] at c0
      by_cases hz : k = 0
      · rw [decide_eq_true hz] at hfull
        have hS' : Hid (St w wr b bn b2 l #[.int .i64 (kf x0 (k + 1)), .int .i64 0, .int .u32 0, .int .u32 0, .int .u32 0]) := by
          subst hz
          exact hS
        replace hz := Lib.hid hz
        clear hS
        go_wp2
        go_roundw
        case rel => exact ⟨k + 1, by omega, by go_num, hS'⟩
        case measure => simp [intOf]; omega
      · rw [decide_eq_false hz] at hfull
        by_cases he : wordA (k : Int) = x0
        · have heq : ((wordA (k : Int)).toList == x0.toList) = true := by rw [he]; exact beq_self_eq_true _
          have ek : kf x0 (k + 1) = (k : Int) := by
            show (if k ≠ 0 ∧ wordA (k : Int) = x0 then (k : Int) else kf x0 k) = _
            rw [if_pos ⟨hz, he⟩]
          have f0 := hS.out.frozen 0
          have r0 := hS.out.cell 0 rfl
          replace he := Lib.hid he
          have hS' : Hid (St w (wr.setCell ⟨bn, 0, none⟩ (.int .i64 (k : Int))) b bn b2 l #[.int .i64 (kf x0 (k + 1)), .int .i64 0, .int .u32 0, .int .u32 0, .int .u32 0]) := by
            have := hS.out.set hV'.out hTb'.out 0 (.int .i64 (k : Int))
            rw [ek]
            exact Lib.hid this
          clear ek
          go_wp2
          go_roundw
          case rel => exact ⟨k + 1, by omega, by go_num, hS'⟩
          case measure => simp [intOf]; omega
        · have heq : ((wordA (k : Int)).toList == x0.toList) = false := by
            rw [beq_eq_false_iff_ne]
            exact fun h => he (Note.bytes_eq h)
          have ek : kf x0 (k + 1) = kf x0 k := by
            show (if k ≠ 0 ∧ wordA (k : Int) = x0 then (k : Int) else kf x0 k) = _
            rw [if_neg (fun h => he h.2)]
          replace he := Lib.hid he
          have hS' : Hid (St w wr b bn b2 l #[.int .i64 (kf x0 (k + 1)), .int .i64 0, .int .u32 0, .int .u32 0, .int .u32 0]) := by rw [ek]; exact hS
          clear ek hS
          go_wp2
          go_roundw
          case rel => exact ⟨k + 1, by omega, by go_num, hS'⟩
          case measure => simp [intOf]; omega
    · obtain rfl : k = 6 := by omega
      have hS6 : Hid (St w wr b bn b2 l #[.int .i64 kk, .int .i64 0, .int .u32 0, .int .u32 0, .int .u32 0]) := by
        have : kf x0 6 = kk := by rw [hkk.out, hx0.out]; rfl
        rw [← this]
        exact hS
      clear hS
      by_cases hn3 : 3 < nn
      · obtain ⟨x1, hx1⟩ : ∃ x, x = l.getD 1 ByteArray.empty := ⟨_, rfl⟩
        obtain ⟨x2, hx2⟩ : ∃ x, x = l.getD 2 ByteArray.empty := ⟨_, rfl⟩
        obtain ⟨x3, hx3⟩ : ∃ x, x = l.getD 3 ByteArray.empty := ⟨_, rfl⟩
        obtain ⟨x4, hx4⟩ : ∃ x, x = l.getD (nn - 1) ByteArray.empty := ⟨_, rfl⟩
        have z1 : x1.size ≤ 1000 := by rw [hx1]; exact Note.size_at hc.out
        have z2 : x2.size ≤ 1000 := by rw [hx2]; exact Note.size_at hc.out
        have z3 : x3.size ≤ 1000 := by rw [hx3]; exact Note.size_at hc.out
        have z4 : x4.size ≤ 1000 := by rw [hx4]; exact Note.size_at hc.out
        have ha1 := Lib.hid (fun W hW => Note.atoi_walk x1 (by omega) W hW)
        have ha2 := Lib.hid (fun W hW => number_walk x2 z2 W hW)
        have ha3 := Lib.hid (fun W hW => number_walk x3 z3 W hW)
        have ha4 := Lib.hid (fun W hW => number_walk x4 z4 W hW)
        have m2 := numV_le x2
        have m3 := numV_le x3
        have m4 := numV_le x4
        have q1 : cG l = Note.atoiV x1 := by rw [hx1]; exact if_pos (by rw [← hnn.out]; exact hn3)
        have q2 : xG l = ux kk (numV x2) := by rw [hx2, hkk.out]; exact if_pos (by rw [← hnn.out]; exact hn3)
        have q3 : yG l = uy kk (numV x3) := by rw [hx3, hkk.out]; exact if_pos (by rw [← hnn.out]; exact hn3)
        have q4 : oG l = numV x4 := by rw [hx4, hnn.out]; exact if_pos (by rw [← hnn.out]; exact hn3)
        have hyes := hyes0.out
        have hno := hno0.out
        rw [q1, q2, q3, q4, ← hkk.out] at hyes hno
        clear q1 q2 q3 q4 hyes0 hno0
        obtain ⟨cc, hcc⟩ : ∃ x, x = Note.atoiV x1 := ⟨_, rfl⟩
        obtain ⟨n2, hn2⟩ : ∃ x : Int, x = (numV x2 : Int) := ⟨_, rfl⟩
        obtain ⟨n3', hn3'⟩ : ∃ x : Int, x = (numV x3 : Int) := ⟨_, rfl⟩
        obtain ⟨n4, hn4⟩ : ∃ x : Int, x = (numV x4 : Int) := ⟨_, rfl⟩
        rw [← hcc] at ha1 hyes hno
        rw [← hn2] at ha2 hyes hno m2
        rw [← hn3'] at ha3 hyes hno m3
        rw [← hn4] at ha4 hyes hno m4
        have hx8 := ux_le kk m2
        have hy8 := uy_le kk m3
        have ho8 := m4
        replace hcc := Lib.hid hcc
        replace hn2 := Lib.hid hn2
        replace hn3' := Lib.hid hn3'
        replace hn4 := Lib.hid hn4
        replace hx1 := Lib.hid hx1
        replace hx2 := Lib.hid hx2
        replace hx3 := Lib.hid hx3
        replace hx4 := Lib.hid hx4
        have hus := Lib.hid (fun W => used_walk kk cc n2 n3' n4 W)
        obtain ⟨xx, hxx⟩ : ∃ x, x = ux kk n2 := ⟨_, rfl⟩
        obtain ⟨yy, hyy⟩ : ∃ x, x = uy kk n3' := ⟨_, rfl⟩
        rw [← hxx] at hus hyes hno hx8
        rw [← hyy] at hus hyes hno hy8
        replace hxx := Lib.hid hxx
        replace hyy := Lib.hid hyy
        replace hyes := Lib.hid hyes
        replace hno := Lib.hid hno
        clear z1 z2 z3 z4 m2 m3 m4
        have hd3 : decide ((nn : Int) > 3) = true := by simp; omega
        have d1 := hS6.out.str 1 (by have := hnn.out; omega)
        rw [← hx1.out] at d1
        go_upto_region 11 with (go_at_call 79; refine (ha1.out _ hS6.out.vars).mono ?_; rintro e v1 ⟨y, rfl, hb1⟩; have hT1 := Lib.hid (hS6.out.call hb1); have p1 := hT1.out.cell 1 rfl; have f1 := hT1.out.frozen 1)
        obtain ⟨w1, hw1⟩ : ∃ x, x = v1.setCell ⟨bn, 1, none⟩ (.int .i64 cc) := ⟨_, rfl⟩
        have hU1 : Hid (St w w1 b bn b2 l #[.int .i64 (kk), .int .i64 (cc), .int .u32 (0), .int .u32 (0), .int .u32 (0)]) := by
          have := hT1.out.set hV'.out hTb'.out 1 (.int .i64 cc)
          rw [hw1]
          exact Lib.hid this
        rw [← hw1]
        clear p1 f1 hT1 hb1 d1
        replace hw1 := Lib.hid hw1
        have d2 := hU1.out.str 2 (by have := hnn.out; omega)
        rw [← hx2.out] at d2
        go_upto_region 12 with (go_at_call 82; refine (ha2.out _ hU1.out.vars).mono ?_; rintro e v2 ⟨rfl, hb2⟩; have hT2 := Lib.hid (hU1.out.call hb2); have p2 := hT2.out.cell 2 rfl; have f2 := hT2.out.frozen 2)
        obtain ⟨w2, hw2⟩ : ∃ x, x = v2.setCell ⟨bn, 2, none⟩ (.int .u32 n2) := ⟨_, rfl⟩
        have hU2 : Hid (St w w2 b bn b2 l #[.int .i64 (kk), .int .i64 (cc), .int .u32 (n2), .int .u32 (0), .int .u32 (0)]) := by
          have := hT2.out.set hV'.out hTb'.out 2 (.int .u32 n2)
          rw [hw2]
          exact Lib.hid this
        rw [← hw2]
        clear p2 f2 hT2 hb2 d2
        replace hw2 := Lib.hid hw2
        have d3 := hU2.out.str 3 (by have := hnn.out; omega)
        rw [← hx3.out] at d3
        go_upto_region 13 with (go_at_call 82; refine (ha3.out _ hU2.out.vars).mono ?_; rintro e v3 ⟨rfl, hb3⟩; have hT3 := Lib.hid (hU2.out.call hb3); have p3 := hT3.out.cell 3 rfl; have f3 := hT3.out.frozen 3)
        obtain ⟨w3, hw3⟩ : ∃ x, x = v3.setCell ⟨bn, 3, none⟩ (.int .u32 n3') := ⟨_, rfl⟩
        have hU3 : Hid (St w w3 b bn b2 l #[.int .i64 (kk), .int .i64 (cc), .int .u32 (n2), .int .u32 (n3'), .int .u32 (0)]) := by
          have := hT3.out.set hV'.out hTb'.out 3 (.int .u32 n3')
          rw [hw3]
          exact Lib.hid this
        rw [← hw3]
        clear p3 f3 hT3 hb3 d3
        replace hw3 := Lib.hid hw3
        have d4 := hU3.out.str (nn - 1) (by have := hnn.out; omega)
        rw [← hx4.out] at d4
        go_upto_region 14 with (go_at_call 82; refine (ha4.out _ hU3.out.vars).mono ?_; rintro e v4 ⟨rfl, hb4⟩; have hT4 := Lib.hid (hU3.out.call hb4); have p4 := hT4.out.cell 4 rfl; have f4 := hT4.out.frozen 4)
        obtain ⟨w4, hw4⟩ : ∃ x, x = v4.setCell ⟨bn, 4, none⟩ (.int .u32 n4) := ⟨_, rfl⟩
        have hU4 : Hid (St w w4 b bn b2 l #[.int .i64 (kk), .int .i64 (cc), .int .u32 (n2), .int .u32 (n3'), .int .u32 (n4)]) := by
          have := hT4.out.set hV'.out hTb'.out 4 (.int .u32 n4)
          rw [hw4]
          exact Lib.hid this
        rw [← hw4]
        clear p4 f4 hT4 hb4 d4
        replace hw4 := Lib.hid hw4
        have p0 := hU4.out.cell 0 rfl
        have p1 := hU4.out.cell 1 rfl
        have p2 := hU4.out.cell 2 rfl
        have p3 := hU4.out.cell 3 rfl
        have p4 := hU4.out.cell 4 rfl
        go_upto_region 15 with (go_at_call 74; refine (hus.out _).mono ?_; rintro e v5 ⟨rfl, hb5⟩; have hT5 := Lib.hid (hU4.out.call hb5); clear p0 p1 p2 p3 p4; have p0 := hT5.out.cell 0 rfl; have p1 := hT5.out.cell 1 rfl; have p2 := hT5.out.cell 2 rfl; have p3 := hT5.out.cell 3 rfl; have p4 := hT5.out.cell 4 rfl; have f0 := hT5.out.frozen 0; have f1 := hT5.out.frozen 1; have f2 := hT5.out.frozen 2; have f3 := hT5.out.frozen 3; have f4 := hT5.out.frozen 4)
        obtain ⟨w5, hw5⟩ : ∃ x, x = ((((v5.setCell ⟨bn, 0, none⟩ (.int .i64 kk)).setCell ⟨bn, 1, none⟩ (.int .i64 cc)).setCell ⟨bn, 2, none⟩ (.int .u32 xx)).setCell ⟨bn, 3, none⟩ (.int .u32 yy)).setCell ⟨bn, 4, none⟩ (.int .u32 n4) := ⟨_, rfl⟩
        have hU5 : Hid (St w w5 b bn b2 l #[.int .i64 kk, .int .i64 cc, .int .u32 xx, .int .u32 yy, .int .u32 n4]) := by
          have := ((((hT5.out.set hV'.out hTb'.out 0 (.int .i64 kk)).set hV'.out hTb'.out 1 (.int .i64 cc)).set hV'.out hTb'.out 2 (.int .u32 xx)).set hV'.out hTb'.out 3 (.int .u32 yy)).set hV'.out hTb'.out 4 (.int .u32 n4)
          rw [hw5]
          exact Lib.hid this
        rw [← hw5]
        clear p0 p1 p2 p3 p4 f0 f1 f2 f3 f4 hT5 hb5
        replace hw5 := Lib.hid hw5
        have p0 := hU5.out.cell 0 rfl
        have p1 := hU5.out.cell 1 rfl
        have p2 := hU5.out.cell 2 rfl
        have p3 := hU5.out.cell 3 rfl
        have p4 := hU5.out.cell 4 rfl
        by_cases hk0 : kk = 0
        · have hout := hno.out (fun h => h.1 hk0)
          have hd : ((kk : Int) == 0) = true := by rw [beq_iff_eq]; exact hk0
          replace hk0 := Lib.hid hk0
          replace hout := Lib.hid hout
          have hq9 := hU5.out
          have s0 := hq9.res_cell 0 rfl
          have s1 := hq9.res_cell 1 rfl
          have s2 := hq9.res_cell 2 rfl
          have s3 := hq9.res_cell 3 rfl
          have s4 := hq9.res_cell 4 rfl
          have f0 := blk_frozen hq9.res 0
          have f1 := blk_frozen hq9.res 1
          have f2 := blk_frozen hq9.res 2
          have f3 := blk_frozen hq9.res 3
          have f4 := blk_frozen hq9.res 4
          replace hq9 := Lib.hid hq9
          go_wp2
          have hw2 := hq9.out.res
          obtain ⟨wr, hwr⟩ : ∃ x, x = (((((w5.setCell ⟨b2, 0, none⟩ (.int .i64 (0))).setCell ⟨b2, 1, none⟩ (.int .i64 (0))).setCell ⟨b2, 2, none⟩ (.int .u32 (0))).setCell ⟨b2, 3, none⟩ (.int .u32 (0))).setCell ⟨b2, 4, none⟩ (.int .u32 (0))) := ⟨_, rfl⟩
          have hrr : wr.heap[b2]? = some (.cells #[.int .i64 (0), .int .i64 (0), .int .u32 (0), .int .u32 (0), .int .u32 (0)] 48 (0, 0)) := by rw [hwr]; exact (blk_set (blk_set (blk_set (blk_set (blk_set hw2 0 _) 1 _) 2 _) 3 _) 4 _)
          have hBr : Below w.heap.size w wr := by rw [hwr]; exact (((((hq9.out.be.setCell (p := ⟨b2, 0, none⟩) hb2 _).setCell (p := ⟨b2, 1, none⟩) hb2 _).setCell (p := ⟨b2, 2, none⟩) hb2 _).setCell (p := ⟨b2, 3, none⟩) hb2 _).setCell (p := ⟨b2, 4, none⟩) hb2 _)
          rw [← hwr]
          replace hwr := Lib.hid hwr
          clear s0 s1 s2 s3 s4 f0 f1 f2 f3 f4 hw2
          have v0 := cell_of_heap (j := 0) hrr rfl
          have v1 := cell_of_heap (j := 1) hrr rfl
          have v2 := cell_of_heap (j := 2) hrr rfl
          have v3 := cell_of_heap (j := 3) hrr rfl
          have v4 := cell_of_heap (j := 4) hrr rfl
          refine bodyPost_ret (results_ct rfl _ _ b2 48 #[.int .i64 (0), .int .i64 (0), .int .u32 (0), .int .u32 (0), .int .u32 (0)] (0, 0) _ rfl hrr Tryd.underlying48 rfl (by kernel_rfl)) rfl ?_
          exact ⟨by rw [hout.out]; rfl, hBr⟩
        · have hd : ((kk : Int) == 0) = false := by rw [beq_eq_false_iff_ne]; exact hk0
          have htw := Lib.hid (fun W hT => text_walk (kk) (cc) (xx) (yy) (n4) W hT hx8 hy8 ho8)
          by_cases hT : textB (kk) (cc) (xx) (yy) (n4) = s
          · have hout := hyes.out ⟨hk0, hT⟩
            rw [hT] at htw
            replace hT := Lib.hid hT
            replace hk0 := Lib.hid hk0
            replace hout := Lib.hid hout
            go_wp2_with (go_at_call 32; refine (htw.out _ hU5.out.tabs).mono ?_; rintro e w9 ⟨rfl, hb9⟩; have hq9 := hU5.out.call hb9; clear p0 p1 p2 p3 p4; have r0 := hq9.cell 0 rfl; have r1 := hq9.cell 1 rfl; have r2 := hq9.cell 2 rfl; have r3 := hq9.cell 3 rfl; have r4 := hq9.cell 4 rfl; have s0 := hq9.res_cell 0 rfl; have s1 := hq9.res_cell 1 rfl; have s2 := hq9.res_cell 2 rfl; have s3 := hq9.res_cell 3 rfl; have s4 := hq9.res_cell 4 rfl; have f0 := blk_frozen hq9.res 0; have f1 := blk_frozen hq9.res 1; have f2 := blk_frozen hq9.res 2; have f3 := blk_frozen hq9.res 3; have f4 := blk_frozen hq9.res 4; replace hq9 := Lib.hid hq9)
            have hw2 := hq9.out.res
            obtain ⟨wr, hwr⟩ : ∃ x, x = (((((w9.setCell ⟨b2, 0, none⟩ (.int .i64 (kk))).setCell ⟨b2, 1, none⟩ (.int .i64 (cc))).setCell ⟨b2, 2, none⟩ (.int .u32 (xx))).setCell ⟨b2, 3, none⟩ (.int .u32 (yy))).setCell ⟨b2, 4, none⟩ (.int .u32 (n4))) := ⟨_, rfl⟩
            have hrr : wr.heap[b2]? = some (.cells #[.int .i64 (kk), .int .i64 (cc), .int .u32 (xx), .int .u32 (yy), .int .u32 (n4)] 48 (0, 0)) := by rw [hwr]; exact (blk_set (blk_set (blk_set (blk_set (blk_set hw2 0 _) 1 _) 2 _) 3 _) 4 _)
            have hBr : Below w.heap.size w wr := by rw [hwr]; exact (((((hq9.out.be.setCell (p := ⟨b2, 0, none⟩) hb2 _).setCell (p := ⟨b2, 1, none⟩) hb2 _).setCell (p := ⟨b2, 2, none⟩) hb2 _).setCell (p := ⟨b2, 3, none⟩) hb2 _).setCell (p := ⟨b2, 4, none⟩) hb2 _)
            rw [← hwr]
            replace hwr := Lib.hid hwr
            clear s0 s1 s2 s3 s4 f0 f1 f2 f3 f4 hw2
            have v0 := cell_of_heap (j := 0) hrr rfl
            have v1 := cell_of_heap (j := 1) hrr rfl
            have v2 := cell_of_heap (j := 2) hrr rfl
            have v3 := cell_of_heap (j := 3) hrr rfl
            have v4 := cell_of_heap (j := 4) hrr rfl
            refine bodyPost_ret (results_ct rfl _ _ b2 48 #[.int .i64 (kk), .int .i64 (cc), .int .u32 (xx), .int .u32 (yy), .int .u32 (n4)] (0, 0) _ rfl hrr Tryd.underlying48 rfl (by kernel_rfl)) rfl ?_
            exact ⟨by rw [hout.out]; rfl, hBr⟩
          · have hout := hno.out (fun h => hT h.2)
            have hne : ((textB (kk) (cc) (xx) (yy) (n4)).toList == s.toList) = false := by
              rw [beq_eq_false_iff_ne]
              exact fun h => hT (Note.bytes_eq h)
            replace hT := Lib.hid hT
            replace hk0 := Lib.hid hk0
            replace hout := Lib.hid hout
            go_wp2_with (go_at_call 32; refine (htw.out _ hU5.out.tabs).mono ?_; rintro e w9 ⟨rfl, hb9⟩; have hq9 := hU5.out.call hb9; clear p0 p1 p2 p3 p4; have r0 := hq9.cell 0 rfl; have r1 := hq9.cell 1 rfl; have r2 := hq9.cell 2 rfl; have r3 := hq9.cell 3 rfl; have r4 := hq9.cell 4 rfl; have s0 := hq9.res_cell 0 rfl; have s1 := hq9.res_cell 1 rfl; have s2 := hq9.res_cell 2 rfl; have s3 := hq9.res_cell 3 rfl; have s4 := hq9.res_cell 4 rfl; have f0 := blk_frozen hq9.res 0; have f1 := blk_frozen hq9.res 1; have f2 := blk_frozen hq9.res 2; have f3 := blk_frozen hq9.res 3; have f4 := blk_frozen hq9.res 4; replace hq9 := Lib.hid hq9)
            have hw2 := hq9.out.res
            obtain ⟨wr, hwr⟩ : ∃ x, x = (((((w9.setCell ⟨b2, 0, none⟩ (.int .i64 (0))).setCell ⟨b2, 1, none⟩ (.int .i64 (0))).setCell ⟨b2, 2, none⟩ (.int .u32 (0))).setCell ⟨b2, 3, none⟩ (.int .u32 (0))).setCell ⟨b2, 4, none⟩ (.int .u32 (0))) := ⟨_, rfl⟩
            have hrr : wr.heap[b2]? = some (.cells #[.int .i64 (0), .int .i64 (0), .int .u32 (0), .int .u32 (0), .int .u32 (0)] 48 (0, 0)) := by rw [hwr]; exact (blk_set (blk_set (blk_set (blk_set (blk_set hw2 0 _) 1 _) 2 _) 3 _) 4 _)
            have hBr : Below w.heap.size w wr := by rw [hwr]; exact (((((hq9.out.be.setCell (p := ⟨b2, 0, none⟩) hb2 _).setCell (p := ⟨b2, 1, none⟩) hb2 _).setCell (p := ⟨b2, 2, none⟩) hb2 _).setCell (p := ⟨b2, 3, none⟩) hb2 _).setCell (p := ⟨b2, 4, none⟩) hb2 _)
            rw [← hwr]
            replace hwr := Lib.hid hwr
            clear s0 s1 s2 s3 s4 f0 f1 f2 f3 f4 hw2
            have v0 := cell_of_heap (j := 0) hrr rfl
            have v1 := cell_of_heap (j := 1) hrr rfl
            have v2 := cell_of_heap (j := 2) hrr rfl
            have v3 := cell_of_heap (j := 3) hrr rfl
            have v4 := cell_of_heap (j := 4) hrr rfl
            refine bodyPost_ret (results_ct rfl _ _ b2 48 #[.int .i64 (0), .int .i64 (0), .int .u32 (0), .int .u32 (0), .int .u32 (0)] (0, 0) _ rfl hrr Tryd.underlying48 rfl (by kernel_rfl)) rfl ?_
            exact ⟨by rw [hout.out]; rfl, hBr⟩
      · have q1 : cG l = 0 := if_neg (by rw [← hnn.out]; exact hn3)
        have q2 : xG l = 0 := if_neg (by rw [← hnn.out]; exact hn3)
        have q3 : yG l = 0 := if_neg (by rw [← hnn.out]; exact hn3)
        have q4 : oG l = 0 := if_neg (by rw [← hnn.out]; exact hn3)
        have hyes := hyes0.out
        have hno := hno0.out
        rw [q1, q2, q3, q4, ← hkk.out] at hyes hno
        replace hyes := hyes
        clear q1 q2 q3 q4 hyes0 hno0
        have hd3 : decide ((nn : Int) > 3) = false := by simp; omega
        have hx8 : (0 : Int) ≤ 0 ∧ (0 : Int) < 4294967296 := by decide
        have hy8 := hx8
        have ho8 := hx8
        replace hyes := Lib.hid hyes
        replace hno := Lib.hid hno
        have p0 := hS6.out.cell 0 rfl
        have p1 := hS6.out.cell 1 rfl
        have p2 := hS6.out.cell 2 rfl
        have p3 := hS6.out.cell 3 rfl
        have p4 := hS6.out.cell 4 rfl
        by_cases hk0 : kk = 0
        · have hout := hno.out (fun h => h.1 hk0)
          have hd : ((kk : Int) == 0) = true := by rw [beq_iff_eq]; exact hk0
          replace hk0 := Lib.hid hk0
          replace hout := Lib.hid hout
          have hq9 := hS6.out
          have s0 := hq9.res_cell 0 rfl
          have s1 := hq9.res_cell 1 rfl
          have s2 := hq9.res_cell 2 rfl
          have s3 := hq9.res_cell 3 rfl
          have s4 := hq9.res_cell 4 rfl
          have f0 := blk_frozen hq9.res 0
          have f1 := blk_frozen hq9.res 1
          have f2 := blk_frozen hq9.res 2
          have f3 := blk_frozen hq9.res 3
          have f4 := blk_frozen hq9.res 4
          replace hq9 := Lib.hid hq9
          go_wp2
          have hw2 := hq9.out.res
          obtain ⟨wr, hwr⟩ : ∃ x, x = (((((wr.setCell ⟨b2, 0, none⟩ (.int .i64 (0))).setCell ⟨b2, 1, none⟩ (.int .i64 (0))).setCell ⟨b2, 2, none⟩ (.int .u32 (0))).setCell ⟨b2, 3, none⟩ (.int .u32 (0))).setCell ⟨b2, 4, none⟩ (.int .u32 (0))) := ⟨_, rfl⟩
          have hrr : wr.heap[b2]? = some (.cells #[.int .i64 (0), .int .i64 (0), .int .u32 (0), .int .u32 (0), .int .u32 (0)] 48 (0, 0)) := by rw [hwr]; exact (blk_set (blk_set (blk_set (blk_set (blk_set hw2 0 _) 1 _) 2 _) 3 _) 4 _)
          have hBr : Below w.heap.size w wr := by rw [hwr]; exact (((((hq9.out.be.setCell (p := ⟨b2, 0, none⟩) hb2 _).setCell (p := ⟨b2, 1, none⟩) hb2 _).setCell (p := ⟨b2, 2, none⟩) hb2 _).setCell (p := ⟨b2, 3, none⟩) hb2 _).setCell (p := ⟨b2, 4, none⟩) hb2 _)
          rw [← hwr]
          replace hwr := Lib.hid hwr
          clear s0 s1 s2 s3 s4 f0 f1 f2 f3 f4 hw2
          have v0 := cell_of_heap (j := 0) hrr rfl
          have v1 := cell_of_heap (j := 1) hrr rfl
          have v2 := cell_of_heap (j := 2) hrr rfl
          have v3 := cell_of_heap (j := 3) hrr rfl
          have v4 := cell_of_heap (j := 4) hrr rfl
          refine bodyPost_ret (results_ct rfl _ _ b2 48 #[.int .i64 (0), .int .i64 (0), .int .u32 (0), .int .u32 (0), .int .u32 (0)] (0, 0) _ rfl hrr Tryd.underlying48 rfl (by kernel_rfl)) rfl ?_
          exact ⟨by rw [hout.out]; rfl, hBr⟩
        · have hd : ((kk : Int) == 0) = false := by rw [beq_eq_false_iff_ne]; exact hk0
          have htw := Lib.hid (fun W hT => text_walk (kk) (0) (0) (0) (0) W hT hx8 hy8 ho8)
          by_cases hT : textB (kk) (0) (0) (0) (0) = s
          · have hout := hyes.out ⟨hk0, hT⟩
            rw [hT] at htw
            replace hT := Lib.hid hT
            replace hk0 := Lib.hid hk0
            replace hout := Lib.hid hout
            go_wp2_with (go_at_call 32; refine (htw.out _ hS6.out.tabs).mono ?_; rintro e w9 ⟨rfl, hb9⟩; have hq9 := hS6.out.call hb9; clear p0 p1 p2 p3 p4; have r0 := hq9.cell 0 rfl; have r1 := hq9.cell 1 rfl; have r2 := hq9.cell 2 rfl; have r3 := hq9.cell 3 rfl; have r4 := hq9.cell 4 rfl; have s0 := hq9.res_cell 0 rfl; have s1 := hq9.res_cell 1 rfl; have s2 := hq9.res_cell 2 rfl; have s3 := hq9.res_cell 3 rfl; have s4 := hq9.res_cell 4 rfl; have f0 := blk_frozen hq9.res 0; have f1 := blk_frozen hq9.res 1; have f2 := blk_frozen hq9.res 2; have f3 := blk_frozen hq9.res 3; have f4 := blk_frozen hq9.res 4; replace hq9 := Lib.hid hq9)
            have hw2 := hq9.out.res
            obtain ⟨wr, hwr⟩ : ∃ x, x = (((((w9.setCell ⟨b2, 0, none⟩ (.int .i64 (kk))).setCell ⟨b2, 1, none⟩ (.int .i64 (0))).setCell ⟨b2, 2, none⟩ (.int .u32 (0))).setCell ⟨b2, 3, none⟩ (.int .u32 (0))).setCell ⟨b2, 4, none⟩ (.int .u32 (0))) := ⟨_, rfl⟩
            have hrr : wr.heap[b2]? = some (.cells #[.int .i64 (kk), .int .i64 (0), .int .u32 (0), .int .u32 (0), .int .u32 (0)] 48 (0, 0)) := by rw [hwr]; exact (blk_set (blk_set (blk_set (blk_set (blk_set hw2 0 _) 1 _) 2 _) 3 _) 4 _)
            have hBr : Below w.heap.size w wr := by rw [hwr]; exact (((((hq9.out.be.setCell (p := ⟨b2, 0, none⟩) hb2 _).setCell (p := ⟨b2, 1, none⟩) hb2 _).setCell (p := ⟨b2, 2, none⟩) hb2 _).setCell (p := ⟨b2, 3, none⟩) hb2 _).setCell (p := ⟨b2, 4, none⟩) hb2 _)
            rw [← hwr]
            replace hwr := Lib.hid hwr
            clear s0 s1 s2 s3 s4 f0 f1 f2 f3 f4 hw2
            have v0 := cell_of_heap (j := 0) hrr rfl
            have v1 := cell_of_heap (j := 1) hrr rfl
            have v2 := cell_of_heap (j := 2) hrr rfl
            have v3 := cell_of_heap (j := 3) hrr rfl
            have v4 := cell_of_heap (j := 4) hrr rfl
            refine bodyPost_ret (results_ct rfl _ _ b2 48 #[.int .i64 (kk), .int .i64 (0), .int .u32 (0), .int .u32 (0), .int .u32 (0)] (0, 0) _ rfl hrr Tryd.underlying48 rfl (by kernel_rfl)) rfl ?_
            exact ⟨by rw [hout.out]; rfl, hBr⟩
          · have hout := hno.out (fun h => hT h.2)
            have hne : ((textB (kk) (0) (0) (0) (0)).toList == s.toList) = false := by
              rw [beq_eq_false_iff_ne]
              exact fun h => hT (Note.bytes_eq h)
            replace hT := Lib.hid hT
            replace hk0 := Lib.hid hk0
            replace hout := Lib.hid hout
            go_wp2_with (go_at_call 32; refine (htw.out _ hS6.out.tabs).mono ?_; rintro e w9 ⟨rfl, hb9⟩; have hq9 := hS6.out.call hb9; clear p0 p1 p2 p3 p4; have r0 := hq9.cell 0 rfl; have r1 := hq9.cell 1 rfl; have r2 := hq9.cell 2 rfl; have r3 := hq9.cell 3 rfl; have r4 := hq9.cell 4 rfl; have s0 := hq9.res_cell 0 rfl; have s1 := hq9.res_cell 1 rfl; have s2 := hq9.res_cell 2 rfl; have s3 := hq9.res_cell 3 rfl; have s4 := hq9.res_cell 4 rfl; have f0 := blk_frozen hq9.res 0; have f1 := blk_frozen hq9.res 1; have f2 := blk_frozen hq9.res 2; have f3 := blk_frozen hq9.res 3; have f4 := blk_frozen hq9.res 4; replace hq9 := Lib.hid hq9)
            have hw2 := hq9.out.res
            obtain ⟨wr, hwr⟩ : ∃ x, x = (((((w9.setCell ⟨b2, 0, none⟩ (.int .i64 (0))).setCell ⟨b2, 1, none⟩ (.int .i64 (0))).setCell ⟨b2, 2, none⟩ (.int .u32 (0))).setCell ⟨b2, 3, none⟩ (.int .u32 (0))).setCell ⟨b2, 4, none⟩ (.int .u32 (0))) := ⟨_, rfl⟩
            have hrr : wr.heap[b2]? = some (.cells #[.int .i64 (0), .int .i64 (0), .int .u32 (0), .int .u32 (0), .int .u32 (0)] 48 (0, 0)) := by rw [hwr]; exact (blk_set (blk_set (blk_set (blk_set (blk_set hw2 0 _) 1 _) 2 _) 3 _) 4 _)
            have hBr : Below w.heap.size w wr := by rw [hwr]; exact (((((hq9.out.be.setCell (p := ⟨b2, 0, none⟩) hb2 _).setCell (p := ⟨b2, 1, none⟩) hb2 _).setCell (p := ⟨b2, 2, none⟩) hb2 _).setCell (p := ⟨b2, 3, none⟩) hb2 _).setCell (p := ⟨b2, 4, none⟩) hb2 _)
            rw [← hwr]
            replace hwr := Lib.hid hwr
            clear s0 s1 s2 s3 s4 f0 f1 f2 f3 f4 hw2
            have v0 := cell_of_heap (j := 0) hrr rfl
            have v1 := cell_of_heap (j := 1) hrr rfl
            have v2 := cell_of_heap (j := 2) hrr rfl
            have v3 := cell_of_heap (j := 3) hrr rfl
            have v4 := cell_of_heap (j := 4) hrr rfl
            refine bodyPost_ret (results_ct rfl _ _ b2 48 #[.int .i64 (0), .int .i64 (0), .int .u32 (0), .int .u32 (0), .int .u32 (0)] (0, 0) _ rfl hrr Tryd.underlying48 rfl (by kernel_rfl)) rfl ?_
            exact ⟨by rw [hout.out]; rfl, hBr⟩
end Go.Proofs.YtejmbmhehbcflaaDoor.Acc
