/- The law AccReads: the walk. -/
import Derived.Test.YtejmbmhehbcflaaDoorARq
namespace Go.Proofs.YtejmbmhehbcflaaDoor.Acc
open Go.RowKit Go.Proofs.YtejmbmhehbcflaaDoorW.PrintWords Go.Proofs.YtejmbmhehbcflaaDoorW.PrintMore Go.Proofs.YtejmbmhehbcflaaDoorW.PrintLast Go.Proofs.YtejmbmhehbcflaaDoor.Pr Go.Proofs.YtejmbmhehbcflaaDoor.Jn Go.Proofs.YtejmbmhehbcflaaDoor.Fu Go.Proofs.YtejmbmhehbcflaaDoor.Digs
set_option linter.unusedSimpArgs false
set_option linter.unusedVariables false
set_option maxRecDepth 100000
theorem out_is (s : ByteArray) : ∃ k c x y o e : Int, outG s = .tuple #[.agg #[.int .i64 k, .int .i64 c, .int .u32 x, .int .u32 y, .int .u32 o], .int .i64 e] := by
  unfold outG aggV
  split
  · exact ⟨_, _, _, _, _, _, rfl⟩
  · exact ⟨_, _, _, _, _, _, rfl⟩
set_option maxHeartbeats 4000000 in
theorem reads_walk (s : ByteArray) (hsz : s.size ≤ maxLen) (w : World) (hV : Note.Vars w) (hT : Tabs w) : Calls Tryd.prog 11 #[.string s] w fun e w' => e = .returned (.bool true) ∧ Below w.heap.size w w' := by
  by_cases h1 : s.size ≤ 100
  · have d1 : decide ((s.size : Int) > 100) = false := by simp; omega
    have hpw := Lib.hid (fun W hW hX => parse_walk s (by omega) W hW hX (fun x hx => by have := Note.cut_le s x hx; omega))
    have hrw := Lib.hid (fun W => rparse_walk s (by omega) W)
    obtain ⟨k, c, x, y, o, er, ho⟩ := out_is s
    rw [ho] at hpw hrw
    clear ho
    have hq := fun w => acc_eql w k c x y o k c x y o true (by simp)
    replace hq := Lib.hid hq
    have hV0 := Lib.hid hV
    have hT0 := Lib.hid hT
    clear hV hT
    go_enter Tryd.func11, Tryd.ntmps11
    go_upto_region 3 with (fail)
    go_upto_region 4 with (go_at_call 46; refine (hpw.out _ hV0.out hT0.out).mono ?_; rintro e w1 ⟨rfl, hB1⟩)
    go_upto_region 5 with (go_at_call 47; refine (hrw.out _).mono ?_; rintro e w2 ⟨rfl, hB2⟩)
    obtain ⟨w5, hw5⟩ : ∃ W_, W_ = w2.alloc (.cells #[.int .i64 k, .int .i64 c, .int .u32 x, .int .u32 y, .int .u32 o] 48) := ⟨_, rfl⟩
    obtain ⟨b3, hb3⟩ : ∃ x, x = w1.heap.size := ⟨_, rfl⟩
    obtain ⟨b5, hb5⟩ : ∃ x, x = w2.heap.size := ⟨_, rfl⟩
    have l2 : b3 < w2.heap.size := by have := hB2.size; rw [hb3]; simp at this; omega
    have h3 : w5.heap[b3]? = some (.cells #[.int .i64 k, .int .i64 c, .int .u32 x, .int .u32 y, .int .u32 o] 48 (0, 0)) := by
      rw [hw5]
      refine ((below_alloc (Below.refl w2.heap.size w2) _).block b3 l2).trans ?_
      rw [hb3]
      exact (hB2.block _ (by simp)).trans (heap_alloc_new w1 _)
    have h5 : w5.heap[b5]? = some (.cells #[.int .i64 k, .int .i64 c, .int .u32 x, .int .u32 y, .int .u32 o] 48 (0, 0)) := by rw [hw5, hb5]; exact heap_alloc_new w2 _
    have hB5 : Below w.heap.size w w5 := by
      rw [hw5]
      exact below_alloc (below_then (below_alloc hB1 _) (below_alloc hB1 _).size hB2) _
    rw [← hw5, ← hb3, ← hb5]
    clear hb3 hb5 hw5 hB2 l2 hB1
    have p0 := cell_of_heap (j := 0) h3 rfl
    have p1 := cell_of_heap (j := 1) h3 rfl
    have p2 := cell_of_heap (j := 2) h3 rfl
    have p3 := cell_of_heap (j := 3) h3 rfl
    have p4 := cell_of_heap (j := 4) h3 rfl
    have q0 := cell_of_heap (j := 0) h5 rfl
    have q1 := cell_of_heap (j := 1) h5 rfl
    have q2 := cell_of_heap (j := 2) h5 rfl
    have q3 := cell_of_heap (j := 3) h5 rfl
    have q4 := cell_of_heap (j := 4) h5 rfl
    replace h3 := Lib.hid h3
    replace h5 := Lib.hid h5
    replace hB5 := Lib.hid hB5
    replace hq := hq.out
    go_wp2_with (go_at_call 34; refine (awake_walk _ (hT0.out.below hB5.out)).mono ?_; rintro e w8 ⟨rfl, hB8⟩)
    go_ret
    exact ⟨by simp, below_then hB5.out hB5.out.size hB8⟩
  · have d1 : decide ((s.size : Int) > 100) = true := by simp; omega
    replace hT := Lib.hid hT
    go_enter Tryd.func11, Tryd.ntmps11
    go_wp2_with (go_at_call 34; refine (awake_walk _ hT.out).mono ?_; rintro e w1 ⟨rfl, hb1⟩)
    go_ret
    exact ⟨rfl, hb1⟩
end Go.Proofs.YtejmbmhehbcflaaDoor.Acc
