/- The law NoteReads: the walk. -/
import Derived.Test.YtejmbmhehbcflaaDoorNRp
namespace Go.Proofs.YtejmbmhehbcflaaDoor.Note
open Go.RowKit Go.Proofs.YtejmbmhehbcflaaDoor.Pr Go.Proofs.YtejmbmhehbcflaaDoorW.PrintWords Go.Proofs.YtejmbmhehbcflaaDoorW.PrintMore Go.Proofs.YtejmbmhehbcflaaDoorW.PrintLast
set_option linter.unusedSimpArgs false
set_option linter.unusedVariables false
set_option maxRecDepth 100000
theorem out_is (s : ByteArray) : ∃ t wh o a c : Int, outG s = .tuple #[.agg #[.int .i64 t, .int .i64 wh, .int .i64 o, .int .i64 a], .int .i64 c] := by
  unfold outG
  split
  · exact ⟨_, _, _, _, _, rfl⟩
  · exact ⟨_, _, _, _, _, rfl⟩
set_option maxHeartbeats 4000000 in
theorem reads_walk (s : ByteArray) (hsz : s.size ≤ maxLen) (w : World) (hV : Vars w) : Calls Tryd.prog 9 #[.string s] w fun e w' => e = .returned (.bool true) ∧ Below w.heap.size w w' := by
  by_cases h1 : s.size ≤ 100
  · have d1 : decide ((s.size : Int) > 100) = false := by simp; omega
    have hpw := Lib.hid (fun W hW => parse_walk s (by omega) W hW (fun x hx => by have := cut_le s x hx; omega))
    have hrw := Lib.hid (fun W => rparse_walk s (by omega) W)
    obtain ⟨t, wh, o, a, c, ho⟩ := out_is s
    rw [ho] at hpw hrw
    clear ho
    have hn := Lib.hid (fun W => note_Number.calls 20 s _ W (number_f s))
    have hr := Lib.hid (fun W => stilemanref05_Number.calls 20 s _ W (rnumber_any s))
    generalize mx (idxv opsL s) 0 = num at hn hr
    have hq := fun w => note_eql w t wh o a t wh o a true (by simp)
    replace hq := Lib.hid hq
    have hV0 := Lib.hid hV
    clear hV
    go_enter Tryd.func9, Tryd.ntmps9
    go_upto_region 3 with (fail)
    go_upto_region 4 with (go_at_call 42; refine (hpw.out _ hV0.out).mono ?_; rintro e w1 ⟨rfl, hB1⟩)
    go_upto_region 5 with (go_at_call 43; refine (hrw.out _).mono ?_; rintro e w2 ⟨rfl, hB2⟩)
    obtain ⟨w5, hw5⟩ : ∃ x, x = w2.alloc (.cells #[.int .i64 t, .int .i64 wh, .int .i64 o, .int .i64 a] 35) := ⟨_, rfl⟩
    obtain ⟨b3, hb3⟩ : ∃ x, x = w1.heap.size := ⟨_, rfl⟩
    obtain ⟨b5, hb5⟩ : ∃ x, x = w2.heap.size := ⟨_, rfl⟩
    have l2 : b3 < w2.heap.size := by have := hB2.size; rw [hb3]; simp at this; omega
    have h3 : w5.heap[b3]? = some (.cells #[.int .i64 t, .int .i64 wh, .int .i64 o, .int .i64 a] 35 (0, 0)) := by
      rw [hw5]
      refine ((below_alloc (Below.refl w2.heap.size w2) _).block b3 l2).trans ?_
      rw [hb3]
      exact (hB2.block _ (by simp)).trans (heap_alloc_new w1 _)
    have h5 : w5.heap[b5]? = some (.cells #[.int .i64 t, .int .i64 wh, .int .i64 o, .int .i64 a] 35 (0, 0)) := by rw [hw5, hb5]; exact heap_alloc_new w2 _
    have hB5 : Below w.heap.size w w5 := by
      rw [hw5]
      exact below_alloc (below_then (below_alloc hB1 _) (below_alloc hB1 _).size hB2) _
    have lt5 : b5 < w5.heap.size := by rw [hw5, hb5]; simp
    have lt3 : b3 < w5.heap.size := by rw [hw5]; simp; omega
    rw [← hw5, ← hb3, ← hb5]
    clear hb3 hb5 hw5 hB2 l2
    replace h3 := Lib.hid h3
    replace h5 := Lib.hid h5
    replace hB5 := Lib.hid hB5
    replace hB1 := Lib.hid hB1
    have p0 := cell_of_heap (j := 0) h3.out rfl
    have p1 := cell_of_heap (j := 1) h3.out rfl
    have p2 := cell_of_heap (j := 2) h3.out rfl
    have p3 := cell_of_heap (j := 3) h3.out rfl
    have q0 := cell_of_heap (j := 0) h5.out rfl
    have q1 := cell_of_heap (j := 1) h5.out rfl
    have q2 := cell_of_heap (j := 2) h5.out rfl
    have q3 := cell_of_heap (j := 3) h5.out rfl
    replace hq := hq.out
    go_wp2_with (first
      | (go_at_call 40; refine (hn.out _).mono ?_; rintro e w6 ⟨rfl, hB6⟩)
      | (go_at_call 41; refine (hr.out _).mono ?_; rintro e w7 ⟨rfl, hB7⟩)
      | (go_at_call 26; refine (awake_walk _).mono ?_; rintro e w8 ⟨rfl, hB8⟩))
    go_ret
    exact ⟨by simp, below_then (below_then (below_then hB5.out hB5.out.size hB6) (below_then hB5.out hB5.out.size hB6).size hB7) (below_then (below_then hB5.out hB5.out.size hB6) (below_then hB5.out hB5.out.size hB6).size hB7).size hB8⟩
  · have d1 : decide ((s.size : Int) > 100) = true := by simp; omega
    go_enter Tryd.func9, Tryd.ntmps9
    go_wp2_with (go_at_call 26; refine (awake_walk _).mono ?_; rintro e w1 ⟨rfl, hb1⟩)
    go_ret
    exact ⟨rfl, hb1⟩
end Go.Proofs.YtejmbmhehbcflaaDoor.Note
