/- Printed contracts (print.sh), gathered: stilemanref04_Parse. -/
import Derived.Test.YtejmbmhehbcflaaDoorQ0
import Derived.Test.YtejmbmhehbcflaaDoorQ2
import Derived.Test.YtejmbmhehbcflaaDoorQ7
namespace Go.Proofs.YtejmbmhehbcflaaDoor.Pr
open Go.RowKit Go.Proofs.YtejmbmhehbcflaaDoorW.PrintWords Go.Proofs.YtejmbmhehbcflaaDoorW.PrintLast Go.Proofs.YtejmbmhehbcflaaDoorW.PrintMore
attribute [local go_sem] max2_int min2_int max_two min_two max_three min_three max_four min_four   -- for this text's walks alone
set_option linter.unusedVariables false
set_option linter.unusedSimpArgs false

/-! ### stilemanref04_Parse: function 47 -/
mutual
def stilemanref04_Parse.l0 : Nat → List ByteArray → Int → Int → Int → Int → Int → Int → Option (Int × Int × Int × Int × Int × Int)
  | 0, _, _, _, _, _, _, _ => none
  | k + 1, x4, x6, x172000, x172001, x172002, x172003, x172004 => if x6 ≤ 5 then (if 0 < (x4.length : Int) then ((stilemanref04_word.f x6).bind fun t173 => (if (rdOf ByteArray.empty x4 0).toList = t173.toList then (stilemanref04_Parse.l0 k x4 (wrap64 (x6 + 1)) x6 x172001 x172002 x172003 x172004) else (stilemanref04_Parse.l0 k x4 (wrap64 (x6 + 1)) x172000 x172001 x172002 x172003 x172004))) else (none)) else ((some (([0, 4, 5, 5, 5, 6] : List Int) : List Int)).bind fun y174 => (if x172000 = 0 then (stilemanref04_Parse.j1 k x4 true x172000 x172001 x172002 x172003 x172004) else (if 0 ≤ x172000 then (if x172000 < (y174.length : Int) then (if (x4.length : Int) = (rd y174 x172000) then (if 0 ≤ (wrap64 ((x4.length : Int) - 2)) then (if (wrap64 ((x4.length : Int) - 2)) < (x4.length : Int) then (if (rdOf ByteArray.empty x4 (wrap64 ((x4.length : Int) - 2))).toList = ([119, 97, 115] : List UInt8) then (if 1 < (x4.length : Int) then (stilemanref04_Parse.j1 k x4 (decide (((rdOf ByteArray.empty x4 1).size : Int) > 4)) x172000 x172001 x172002 x172003 x172004) else (none)) else (stilemanref04_Parse.j1 k x4 true x172000 x172001 x172002 x172003 x172004)) else (none)) else (none)) else (stilemanref04_Parse.j1 k x4 true x172000 x172001 x172002 x172003 x172004)) else (none)) else (none))))
def stilemanref04_Parse.j1 : Nat → List ByteArray → Bool → Int → Int → Int → Int → Int → Option (Int × Int × Int × Int × Int × Int)
  | 0, _, _, _, _, _, _, _ => none
  | k + 1, x4, x54, x172000, x172001, x172002, x172003, x172004 => if x54 = true then (some (0, 0, 0, 0, 0, 4)) else (stilemanref04_Parse.l1 k x4 0 x172000 x172001 x172002 x172003 x172004)
def stilemanref04_Parse.l1 : Nat → List ByteArray → Int → Int → Int → Int → Int → Int → Option (Int × Int × Int × Int × Int × Int)
  | 0, _, _, _, _, _, _, _ => none
  | k + 1, x4, x8, x172000, x172001, x172002, x172003, x172004 => if 1 < (x4.length : Int) then (if x8 < ((rdOf ByteArray.empty x4 1).size : Int) then (if 0 ≤ x8 then (if (bt (rdOf ByteArray.empty x4 1) x8) < 48 then (some (0, 0, 0, 0, 0, 4)) else (if (bt (rdOf ByteArray.empty x4 1) x8) > 57 then (some (0, 0, 0, 0, 0, 4)) else (stilemanref04_Parse.l1 k x4 (wrap64 (x8 + 1)) x172000 (wrap64 ((wrap64 ((wrap64 (x172001 * 10)) + (wrap64 (bt (rdOf ByteArray.empty x4 1) x8)))) - 48)) x172002 x172003 x172004))) else (none)) else ((stilemanref03_Text.f k x172001).bind fun t184 => (if t184.toList = (rdOf ByteArray.empty x4 1).toList then (stilemanref04_Parse.j3 k x4 (decide (x172001 > 1023)) x172000 x172001 x172002 x172003 x172004) else (stilemanref04_Parse.j3 k x4 true x172000 x172001 x172002 x172003 x172004)))) else (none)
def stilemanref04_Parse.j3 : Nat → List ByteArray → Bool → Int → Int → Int → Int → Int → Option (Int × Int × Int × Int × Int × Int)
  | 0, _, _, _, _, _, _, _ => none
  | k + 1, x4, x102, x172000, x172001, x172002, x172003, x172004 => if x102 = true then (some (0, 0, 0, 0, 0, 4)) else (if 0 ≤ (wrap64 ((x4.length : Int) - 1)) then (if (wrap64 ((x4.length : Int) - 1)) < (x4.length : Int) then ((stilemanref04_hex.f k (rdOf ByteArray.empty x4 (wrap64 ((x4.length : Int) - 1)))).bind fun bt187 => (if bt187.2 = true then (if x172000 = 1 then (stilemanref04_Parse.j4 k x4 x172000 x172001 x172002 x172003 bt187.1) else (if 2 < (x4.length : Int) then ((stilemanref04_hex.f k (rdOf ByteArray.empty x4 2)).bind fun bt190 => (if bt190.2 = true then (stilemanref04_Parse.j4 k x4 x172000 x172001 bt190.1 x172003 bt187.1) else (some (0, 0, 0, 0, 0, 4)))) else (none))) else (some (0, 0, 0, 0, 0, 4)))) else (none)) else (none))
def stilemanref04_Parse.j4 : Nat → List ByteArray → Int → Int → Int → Int → Int → Option (Int × Int × Int × Int × Int × Int)
  | 0, _, _, _, _, _, _ => none
  | k + 1, x4, x172000, x172001, x172002, x172003, x172004 => if x172000 = 5 then (if 3 < (x4.length : Int) then ((stilemanref04_hex.f k (rdOf ByteArray.empty x4 3)).bind fun bt193 => (if bt193.2 = true then (some (x172000, x172001, x172002, bt193.1, x172004, 0)) else (some (0, 0, 0, 0, 0, 4)))) else (none)) else (some (x172000, x172001, x172002, x172003, x172004, 0))
end
def stilemanref04_Parse.f (k : Nat) (a0 : ByteArray) : Option (Int × Int × Int × Int × Int × Int) := (stilemanref04_Words.f k a0).bind fun t168 => (stilemanref04_Parse.l0 k t168 1 0 0 0 0 0)
theorem stilemanref04_Parse.mono_l : ∀ k, (∀ y0 y1 y2 y3 y4 y5 y6, LeO (stilemanref04_Parse.l0 k y0 y1 y2 y3 y4 y5 y6) (stilemanref04_Parse.l0 (k + 1) y0 y1 y2 y3 y4 y5 y6)) ∧ (∀ y0 y1 y2 y3 y4 y5 y6, LeO (stilemanref04_Parse.j1 k y0 y1 y2 y3 y4 y5 y6) (stilemanref04_Parse.j1 (k + 1) y0 y1 y2 y3 y4 y5 y6)) ∧ (∀ y0 y1 y2 y3 y4 y5 y6, LeO (stilemanref04_Parse.l1 k y0 y1 y2 y3 y4 y5 y6) (stilemanref04_Parse.l1 (k + 1) y0 y1 y2 y3 y4 y5 y6)) ∧ (∀ y0 y1 y2 y3 y4 y5 y6, LeO (stilemanref04_Parse.j3 k y0 y1 y2 y3 y4 y5 y6) (stilemanref04_Parse.j3 (k + 1) y0 y1 y2 y3 y4 y5 y6)) ∧ (∀ y0 y1 y2 y3 y4 y5, LeO (stilemanref04_Parse.j4 k y0 y1 y2 y3 y4 y5) (stilemanref04_Parse.j4 (k + 1) y0 y1 y2 y3 y4 y5))
  | 0 => ⟨fun _ _ _ _ _ _ _ r h => by simp [stilemanref04_Parse.l0] at h, fun _ _ _ _ _ _ _ r h => by simp [stilemanref04_Parse.j1] at h, fun _ _ _ _ _ _ _ r h => by simp [stilemanref04_Parse.l1] at h, fun _ _ _ _ _ _ _ r h => by simp [stilemanref04_Parse.j3] at h, fun _ _ _ _ _ _ r h => by simp [stilemanref04_Parse.j4] at h⟩
  | k + 1 => by
    obtain ⟨ih0, ih1, ih2, ih3, ih4⟩ := stilemanref04_Parse.mono_l k
    refine ⟨?_, ?_, ?_, ?_, ?_⟩
    · intro y0 y1 y2 y3 y4 y5 y6
      unfold stilemanref04_Parse.l0
      repeat' first
      | (with_reducible exact ih0 _ _ _ _ _ _ _)
      | (with_reducible exact ih1 _ _ _ _ _ _ _)
      | (with_reducible exact ih2 _ _ _ _ _ _ _)
      | (with_reducible exact ih3 _ _ _ _ _ _ _)
      | (with_reducible exact ih4 _ _ _ _ _ _)
      | (with_reducible exact stilemanref03_Text.mono _ _)
      | (with_reducible exact stilemanref04_Words.mono _ _)
      | (with_reducible exact stilemanref04_hex.mono _ _)
      | (with_reducible exact LeO.refl _)
      | (with_reducible exact LeO.none _)
      | (with_reducible refine LeO.ite ?_ ?_)
      | (with_reducible refine LeO.bind ?_ (fun _ => ?_))
      | exact ih0 _ _ _ _ _ _ _
      | exact ih1 _ _ _ _ _ _ _
      | exact ih2 _ _ _ _ _ _ _
      | exact ih3 _ _ _ _ _ _ _
      | exact ih4 _ _ _ _ _ _
      | exact stilemanref03_Text.mono _ _
      | exact stilemanref04_Words.mono _ _
      | exact stilemanref04_hex.mono _ _
      | exact LeO.none _
      | refine LeO.ite ?_ ?_
      | refine LeO.bind ?_ (fun _ => ?_)
    · intro y0 y1 y2 y3 y4 y5 y6
      unfold stilemanref04_Parse.j1
      repeat' first
      | (with_reducible exact ih0 _ _ _ _ _ _ _)
      | (with_reducible exact ih1 _ _ _ _ _ _ _)
      | (with_reducible exact ih2 _ _ _ _ _ _ _)
      | (with_reducible exact ih3 _ _ _ _ _ _ _)
      | (with_reducible exact ih4 _ _ _ _ _ _)
      | (with_reducible exact stilemanref03_Text.mono _ _)
      | (with_reducible exact stilemanref04_Words.mono _ _)
      | (with_reducible exact stilemanref04_hex.mono _ _)
      | (with_reducible exact LeO.refl _)
      | (with_reducible exact LeO.none _)
      | (with_reducible refine LeO.ite ?_ ?_)
      | (with_reducible refine LeO.bind ?_ (fun _ => ?_))
      | exact ih0 _ _ _ _ _ _ _
      | exact ih1 _ _ _ _ _ _ _
      | exact ih2 _ _ _ _ _ _ _
      | exact ih3 _ _ _ _ _ _ _
      | exact ih4 _ _ _ _ _ _
      | exact stilemanref03_Text.mono _ _
      | exact stilemanref04_Words.mono _ _
      | exact stilemanref04_hex.mono _ _
      | exact LeO.none _
      | refine LeO.ite ?_ ?_
      | refine LeO.bind ?_ (fun _ => ?_)
    · intro y0 y1 y2 y3 y4 y5 y6
      unfold stilemanref04_Parse.l1
      repeat' first
      | (with_reducible exact ih0 _ _ _ _ _ _ _)
      | (with_reducible exact ih1 _ _ _ _ _ _ _)
      | (with_reducible exact ih2 _ _ _ _ _ _ _)
      | (with_reducible exact ih3 _ _ _ _ _ _ _)
      | (with_reducible exact ih4 _ _ _ _ _ _)
      | (with_reducible exact stilemanref03_Text.mono _ _)
      | (with_reducible exact stilemanref04_Words.mono _ _)
      | (with_reducible exact stilemanref04_hex.mono _ _)
      | (with_reducible exact LeO.refl _)
      | (with_reducible exact LeO.none _)
      | (with_reducible refine LeO.ite ?_ ?_)
      | (with_reducible refine LeO.bind ?_ (fun _ => ?_))
      | exact ih0 _ _ _ _ _ _ _
      | exact ih1 _ _ _ _ _ _ _
      | exact ih2 _ _ _ _ _ _ _
      | exact ih3 _ _ _ _ _ _ _
      | exact ih4 _ _ _ _ _ _
      | exact stilemanref03_Text.mono _ _
      | exact stilemanref04_Words.mono _ _
      | exact stilemanref04_hex.mono _ _
      | exact LeO.none _
      | refine LeO.ite ?_ ?_
      | refine LeO.bind ?_ (fun _ => ?_)
    · intro y0 y1 y2 y3 y4 y5 y6
      unfold stilemanref04_Parse.j3
      repeat' first
      | (with_reducible exact ih0 _ _ _ _ _ _ _)
      | (with_reducible exact ih1 _ _ _ _ _ _ _)
      | (with_reducible exact ih2 _ _ _ _ _ _ _)
      | (with_reducible exact ih3 _ _ _ _ _ _ _)
      | (with_reducible exact ih4 _ _ _ _ _ _)
      | (with_reducible exact stilemanref03_Text.mono _ _)
      | (with_reducible exact stilemanref04_Words.mono _ _)
      | (with_reducible exact stilemanref04_hex.mono _ _)
      | (with_reducible exact LeO.refl _)
      | (with_reducible exact LeO.none _)
      | (with_reducible refine LeO.ite ?_ ?_)
      | (with_reducible refine LeO.bind ?_ (fun _ => ?_))
      | exact ih0 _ _ _ _ _ _ _
      | exact ih1 _ _ _ _ _ _ _
      | exact ih2 _ _ _ _ _ _ _
      | exact ih3 _ _ _ _ _ _ _
      | exact ih4 _ _ _ _ _ _
      | exact stilemanref03_Text.mono _ _
      | exact stilemanref04_Words.mono _ _
      | exact stilemanref04_hex.mono _ _
      | exact LeO.none _
      | refine LeO.ite ?_ ?_
      | refine LeO.bind ?_ (fun _ => ?_)
    · intro y0 y1 y2 y3 y4 y5
      unfold stilemanref04_Parse.j4
      repeat' first
      | (with_reducible exact ih0 _ _ _ _ _ _ _)
      | (with_reducible exact ih1 _ _ _ _ _ _ _)
      | (with_reducible exact ih2 _ _ _ _ _ _ _)
      | (with_reducible exact ih3 _ _ _ _ _ _ _)
      | (with_reducible exact ih4 _ _ _ _ _ _)
      | (with_reducible exact stilemanref03_Text.mono _ _)
      | (with_reducible exact stilemanref04_Words.mono _ _)
      | (with_reducible exact stilemanref04_hex.mono _ _)
      | (with_reducible exact LeO.refl _)
      | (with_reducible exact LeO.none _)
      | (with_reducible refine LeO.ite ?_ ?_)
      | (with_reducible refine LeO.bind ?_ (fun _ => ?_))
      | exact ih0 _ _ _ _ _ _ _
      | exact ih1 _ _ _ _ _ _ _
      | exact ih2 _ _ _ _ _ _ _
      | exact ih3 _ _ _ _ _ _ _
      | exact ih4 _ _ _ _ _ _
      | exact stilemanref03_Text.mono _ _
      | exact stilemanref04_Words.mono _ _
      | exact stilemanref04_hex.mono _ _
      | exact LeO.none _
      | refine LeO.ite ?_ ?_
      | refine LeO.bind ?_ (fun _ => ?_)
theorem stilemanref04_Parse.mono : ∀ a0 k, LeO (stilemanref04_Parse.f k a0) (stilemanref04_Parse.f (k + 1) a0) := by
  intro a0 k
  obtain ⟨ih0, ih1, ih2, ih3, ih4⟩ := stilemanref04_Parse.mono_l k
  unfold stilemanref04_Parse.f
  repeat' first
      | (with_reducible exact ih0 _ _ _ _ _ _ _)
      | (with_reducible exact ih1 _ _ _ _ _ _ _)
      | (with_reducible exact ih2 _ _ _ _ _ _ _)
      | (with_reducible exact ih3 _ _ _ _ _ _ _)
      | (with_reducible exact ih4 _ _ _ _ _ _)
      | (with_reducible exact stilemanref03_Text.mono _ _)
      | (with_reducible exact stilemanref04_Words.mono _ _)
      | (with_reducible exact stilemanref04_hex.mono _ _)
      | (with_reducible exact LeO.refl _)
      | (with_reducible exact LeO.none _)
      | (with_reducible refine LeO.ite ?_ ?_)
      | (with_reducible refine LeO.bind ?_ (fun _ => ?_))
      | exact ih0 _ _ _ _ _ _ _
      | exact ih1 _ _ _ _ _ _ _
      | exact ih2 _ _ _ _ _ _ _
      | exact ih3 _ _ _ _ _ _ _
      | exact ih4 _ _ _ _ _ _
      | exact stilemanref03_Text.mono _ _
      | exact stilemanref04_Words.mono _ _
      | exact stilemanref04_hex.mono _ _
      | exact LeO.none _
      | refine LeO.ite ?_ ?_
      | refine LeO.bind ?_ (fun _ => ?_)
def stilemanref04_Parse.T16 : Bool × List (List Nat × List Nat) := (true, [([], []), ([0], [0]), ([1], [1]), ([], []), ([3], [3]), ([4], [4]), ([], []), ([5, 6], [5, 6]), ([7], [7]), ([2, 8], [2, 8]), ([9], [9]), ([0, 1, 2, 3, 4, 5, 6, 7, 8, 9, 10], []), ([11, 10, 0, 1, 2, 3, 4, 5, 6, 7, 8, 9, 10], [10, 11])])
def stilemanref04_Parse.B16 : List Nat := [0, 1, 3, 0, 8, 24, 0, 120, 248, 511, 1023, 2047, 4095]
theorem stilemanref04_Parse.tab16 : rtab .any (opsOf Tryd.f47 16) = stilemanref04_Parse.T16 := by kernel_rfl
theorem stilemanref04_Parse.bits16 : waitsOk stilemanref04_Parse.T16.2 stilemanref04_Parse.B16 = true := by kernel_rfl
def stilemanref04_Parse.T17 : Bool × List (List Nat × List Nat) := (true, [([], []), ([0], [0]), ([1], [1]), ([], []), ([3], [3]), ([4], [4]), ([2, 5], [2, 5]), ([6, 2], [6]), ([7], [7]), ([8, 7], [7, 8]), ([9, 7], [7, 9]), ([7, 10], [7, 10])])
def stilemanref04_Parse.B17 : List Nat := [0, 1, 3, 0, 8, 24, 63, 127, 255, 511, 1023, 2047]
theorem stilemanref04_Parse.tab17 : rtab .any (opsOf Tryd.f47 17) = stilemanref04_Parse.T17 := by kernel_rfl
theorem stilemanref04_Parse.bits17 : waitsOk stilemanref04_Parse.T17.2 stilemanref04_Parse.B17 = true := by kernel_rfl
set_option maxHeartbeats 8000000 in
set_option maxRecDepth 100000 in
theorem stilemanref04_Parse.calls (k : Nat) (a0 : ByteArray) (r1 : Int) (r2 : Int) (r3 : Int) (r4 : Int) (r5 : Int) (r6 : Int) (w : World) (h : stilemanref04_Parse.f k a0 = some (r1, r2, r3, r4, r5, r6)) :
    Calls Tryd.prog 47 #[.string a0] w fun e w' => e = .returned (.tuple #[.agg #[.int .i64 r1, .int .i64 r2, .int .u32 r3, .int .u32 r4, .int .u32 r5], .int .i64 r6]) ∧ Below w.heap.size w w' := by
  have hu48 := Tryd.underlying48
  have HB := Aside0.mk (Below.refl w.heap.size w)
  have H : ((stilemanref04_Words.f k a0).bind fun t168 => (stilemanref04_Parse.l0 k t168 1 0 0 0 0 0)) = some (r1, r2, r3, r4, r5, r6) := h
  clear h
  replace H := Option.bind_eq_some_iff.mp H
  obtain ⟨t168, A20, H⟩ := H
  replace H : (stilemanref04_Parse.l0 k t168 1 0 0 0 0 0) = some (r1, r2, r3, r4, r5, r6) := H
  have A2 := Aside0.mk A20
  clear A20
  have H' := Aside0.mk H
  clear H
  go_enter Tryd.func47, Tryd.ntmps47
  go_wp2_with (first | ((with_reducible refine gate_dst (N := 2) rfl ?_); (try (refine gate_guard (by rfl) ?_; dsimp only)); refine box_event ?hg (N := 2) ?hd (cs := #[.int .i64 0, .int .i64 0, .int .u32 0, .int .u32 0, .int .u32 0]) (t := 48) ?hr ?_; (case hd => rfl); (case hg => rfl); (case hr => first | (go_simp; done) | (go_simp; rfl)); intro gb167 hg w3 hbox hb; have n0_ := Aside0.mk (below_step (by repeat (first | (with_reducible first | exact HB.out | apply below_alloc | apply pw_below_drewN | apply below_drew1) | exact HB.out)) hb); have n1_ := Aside0.mk (hbox); have n2_ := Aside0.mk ((by rw [hg]; exact (below_size (by repeat (first | (with_reducible first | exact HB.out | apply below_alloc | apply pw_below_drewN | apply below_drew1) | exact HB.out))) : w.heap.size ≤ gb167)); have n3_ := Aside0.mk ((by rw [hg]; exact (below_size (by repeat (first | (with_reducible first | exact HB.out | apply below_alloc | apply pw_below_drewN | apply below_drew1) | exact HB.out))) : w.heap.size ≤ gb167)); clear HB; have HB := n0_; have BK167 := n1_; have GW167 := n2_; have GE167 := n3_; clear n0_ n1_ n2_ n3_; clear hb hbox hg) | ((with_reducible refine gate_callee (f := 83) rfl ?_); refine goesL_ (some 11) rfl rfl Tryd.func83 (by kernel_rfl) rfl #[.string a0] rfl (by (try simp only [List.map_toArray, List.map_cons, List.map_nil]); first | done | rfl | (simp only [List.length_drop, List.length_take]; rfl)) ?_; (with_reducible refine (stilemanref04_Words.calls k a0 t168 _ A2.out).mono ?_); rintro e w4 ⟨v169, rfl, ho0, hb⟩; refine ⟨_, rfl, ?_⟩; have n0_ := Aside0.mk (Kd.R_lower ho0 (below_size (by repeat (first | (with_reducible first | exact HB.out | apply below_alloc | apply pw_below_drewN | apply below_drew1 | refine below_set ?_ GE167.out) | exact HB.out)))); have n1_ := Aside0.mk (blk_below (g := gb167) (o := .cells #[.int .i64 0, .int .i64 0, .int .u32 0, .int .u32 0, .int .u32 0] 48 (0, 0)) (by (with_reducible repeat (first | refine blk_drewN ?_ _ | refine blk_drew ?_ | refine blk_alloc ?_ _)); exact BK167.out) hb); have n2_ := Aside0.mk (below_step (by repeat (first | (with_reducible first | exact HB.out | apply below_alloc | apply pw_below_drewN | apply below_drew1 | refine below_set ?_ GE167.out) | exact HB.out)) hb); clear BK167; clear HB; have HO170 := n0_; have BK167 := n1_; have HB := n2_; clear n0_ n1_ n2_; (try clear hb); (try clear hb2); (try clear hk); (try clear hi); (try clear ho0)) | ((with_reducible refine gate_dst (N := 5) rfl ?_); (try (refine gate_guard (by rfl) ?_; dsimp only)); refine box_event ?hg (N := 5) ?hd (cs := #[.int .i64 0, .int .i64 0, .int .u32 0, .int .u32 0, .int .u32 0]) (t := 48) ?hr ?_; (case hd => rfl); (case hg => rfl); (case hr => first | (go_simp; done) | (go_simp; rfl)); intro gb171 hg w5 hbox hb; have n0_ := Aside0.mk (Kd.R_below (by (with_reducible repeat (first | apply Kd.R_alloc | apply Kd.R_drewN | apply Kd.R_drew)); exact HO170.out) hb); have n1_ := Aside0.mk (blk_below (g := gb167) (o := .cells #[.int .i64 0, .int .i64 0, .int .u32 0, .int .u32 0, .int .u32 0] 48 (0, 0)) (by (with_reducible repeat (first | refine blk_drewN ?_ _ | refine blk_drew ?_ | refine blk_alloc ?_ _)); exact BK167.out) hb); have n2_ := Aside0.mk (below_step (by repeat (first | (with_reducible first | exact HB.out | apply below_alloc | apply pw_below_drewN | apply below_drew1 | refine below_set ?_ GE167.out) | exact HB.out)) hb); have n3_ := Aside0.mk (hbox); have n4_ := Aside0.mk ((by rw [hg]; exact (below_size (by repeat (first | (with_reducible first | exact HB.out | apply below_alloc | apply pw_below_drewN | apply below_drew1 | refine below_set ?_ GE167.out) | exact HB.out))) : w.heap.size ≤ gb171)); have n5_ := Aside0.mk ((by rw [hg]; exact (below_size (by repeat (first | (with_reducible first | exact HB.out | apply below_alloc | apply pw_below_drewN | apply below_drew1 | refine below_set ?_ GE167.out) | exact HB.out))) : w.heap.size ≤ gb171)); have n6_ := Aside0.mk ((by rw [hg]; exact Nat.ne_of_lt (blk_lt (g := gb167) (o := .cells #[.int .i64 0, .int .i64 0, .int .u32 0, .int .u32 0, .int .u32 0] 48 (0, 0)) (by (with_reducible repeat (first | refine blk_drewN ?_ _ | refine blk_drew ?_ | refine blk_alloc ?_ _)); exact BK167.out)) : gb167 ≠ gb171)); have n7_ := Aside0.mk ((by rw [hg]; exact Nat.ne_of_gt (blk_lt (g := gb167) (o := .cells #[.int .i64 0, .int .i64 0, .int .u32 0, .int .u32 0, .int .u32 0] 48 (0, 0)) (by (with_reducible repeat (first | refine blk_drewN ?_ _ | refine blk_drew ?_ | refine blk_alloc ?_ _)); exact BK167.out)) : gb171 ≠ gb167)); clear HO170; clear BK167; clear HB; have HO170 := n0_; have BK167 := n1_; have HB := n2_; have BK171 := n3_; have GW171 := n4_; have GE171 := n5_; have NB167_171 := n6_; have NB171_167 := n7_; clear n0_ n1_ n2_ n3_ n4_ n5_ n6_ n7_; clear hb hbox hg; have hnb6 := NB171_167.out; have hnc6 := NB167_171.out; have hcz7_0 : w5.cell? ⟨gb171, 0, none⟩ = some (.int .i64 0) := (blk_cell BK171.out 0).trans rfl; have hcz7_1 : w5.cell? ⟨gb171, 1, none⟩ = some (.int .i64 0) := (blk_cell BK171.out 1).trans rfl; have hcz7_2 : w5.cell? ⟨gb171, 2, none⟩ = some (.int .u32 0) := (blk_cell BK171.out 2).trans rfl; have hcz7_3 : w5.cell? ⟨gb171, 3, none⟩ = some (.int .u32 0) := (blk_cell BK171.out 3).trans rfl; have hcz7_4 : w5.cell? ⟨gb171, 4, none⟩ = some (.int .u32 0) := (blk_cell BK171.out 4).trans rfl; have hfz7_0 := blk_frozen BK171.out 0; have hfz7_1 := blk_frozen BK171.out 1; have hfz7_2 := blk_frozen BK171.out 2; have hfz7_3 := blk_frozen BK171.out 3; have hfz7_4 := blk_frozen BK171.out 4))
  go_loopg [6] k (fun kq v6 w' => ∃ (x6_1 : Int) (x172000_1 : Int), v6 = .int .i64 x6_1 ∧ Aside0 (stilemanref04_Parse.l0 kq t168 x6_1 x172000_1 0 0 0 0 = some (r1, r2, r3, r4, r5, r6)) ∧ Aside0 (kq ≤ k) ∧ Aside0 (Kd.R Kd.string 9 w' w.heap.size (fun _ => True) v169 t168) ∧ Aside0 (w'.heap[gb167]? = some (.cells #[.int .i64 0, .int .i64 0, .int .u32 0, .int .u32 0, .int .u32 0] 48 (0, 0))) ∧ Aside0 (w'.heap[gb171]? = some (.cells #[.int .i64 x172000_1, .int .i64 0, .int .u32 0, .int .u32 0, .int .u32 0] 48 (0, 0))) ∧ Aside0 (Below w.heap.size w w'))
  case atStart => exact ⟨(1), (0), (by first | rfl | (simp; done) | (simp [*]; done)), H', ⟨Nat.le_refl _⟩, ⟨by (with_reducible repeat (first | apply Kd.R_alloc | apply Kd.R_drewN | apply Kd.R_drew)); exact Kd.R_mono (Kd.R_far (p := ⟨gb171, 4, none⟩) (Kd.R_far (p := ⟨gb171, 3, none⟩) (Kd.R_far (p := ⟨gb171, 2, none⟩) (Kd.R_far (p := ⟨gb171, 1, none⟩) (Kd.R_far (p := ⟨gb171, 0, none⟩) (Kd.R_types HO170.out BK171.out (by decide)) (fun _ hk => hk.2) (.int .i64 0)) (fun _ hk => hk.2) (.int .i64 0)) (fun _ hk => hk.2) (.int .u32 0)) (fun _ hk => hk.2) (.int .u32 0)) (fun _ hk => hk.2) (.int .u32 0)) (fun _ hk => trivial)⟩, ⟨by (with_reducible repeat (first | refine blk_drewN ?_ _ | refine blk_drew ?_ | refine blk_alloc ?_ _)); refine blk_far ?_ NB167_171.out _; (with_reducible repeat (first | refine blk_drewN ?_ _ | refine blk_drew ?_ | refine blk_alloc ?_ _)); refine blk_far ?_ NB167_171.out _; (with_reducible repeat (first | refine blk_drewN ?_ _ | refine blk_drew ?_ | refine blk_alloc ?_ _)); refine blk_far ?_ NB167_171.out _; (with_reducible repeat (first | refine blk_drewN ?_ _ | refine blk_drew ?_ | refine blk_alloc ?_ _)); refine blk_far ?_ NB167_171.out _; (with_reducible repeat (first | refine blk_drewN ?_ _ | refine blk_drew ?_ | refine blk_alloc ?_ _)); refine blk_far ?_ NB167_171.out _; (with_reducible repeat (first | refine blk_drewN ?_ _ | refine blk_drew ?_ | refine blk_alloc ?_ _)); exact BK167.out⟩, ⟨by (with_reducible repeat (first | refine blk_drewN ?_ _ | refine blk_drew ?_ | refine blk_alloc ?_ _)); refine blk_put (cs := #[.int .i64 0, .int .i64 0, .int .u32 0, .int .u32 0, .int .u32 0]) ?_ 4 _ rfl; (with_reducible repeat (first | refine blk_drewN ?_ _ | refine blk_drew ?_ | refine blk_alloc ?_ _)); refine blk_put (cs := #[.int .i64 0, .int .i64 0, .int .u32 0, .int .u32 0, .int .u32 0]) ?_ 3 _ rfl; (with_reducible repeat (first | refine blk_drewN ?_ _ | refine blk_drew ?_ | refine blk_alloc ?_ _)); refine blk_put (cs := #[.int .i64 0, .int .i64 0, .int .u32 0, .int .u32 0, .int .u32 0]) ?_ 2 _ rfl; (with_reducible repeat (first | refine blk_drewN ?_ _ | refine blk_drew ?_ | refine blk_alloc ?_ _)); refine blk_put (cs := #[.int .i64 0, .int .i64 0, .int .u32 0, .int .u32 0, .int .u32 0]) ?_ 1 _ rfl; (with_reducible repeat (first | refine blk_drewN ?_ _ | refine blk_drew ?_ | refine blk_alloc ?_ _)); refine blk_put (cs := #[.int .i64 0, .int .i64 0, .int .u32 0, .int .u32 0, .int .u32 0]) ?_ 0 _ rfl; (with_reducible repeat (first | refine blk_drewN ?_ _ | refine blk_drew ?_ | refine blk_alloc ?_ _)); exact BK171.out⟩, ⟨by repeat (first | (with_reducible first | exact HB.out | apply below_alloc | apply pw_below_drewN | apply below_drew1 | refine below_set ?_ GE167.out | refine below_set ?_ GE171.out) | exact HB.out)⟩⟩
  case round =>
    clear H'
    try clear p2
    try clear c4
    try clear c6
    try clear hcz7_0
    try clear hcz7_1
    try clear hcz7_2
    try clear hcz7_3
    try clear hcz7_4
    try clear hfz7_0
    try clear hfz7_1
    try clear hfz7_2
    try clear hfz7_3
    try clear hfz7_4
    obtain ⟨x6_1, x172000_1, rfl, HA, HK1, HO_4, BK167, BK171, HB⟩ := hrel
    cases gk with
    | zero => exact absurd HA.out (by simp [stilemanref04_Parse.l0])
    | succ k1 =>
      have H := HA.out
      clear HA
      simp only [stilemanref04_Parse.l0] at H
      by_cases c8 : x6_1 ≤ 5
      · rw [if_pos c8] at H
        have c8b0 : decide (x6_1 ≤ 5) = true := decide_eq_true c8
        clear c8
        by_cases c9 : 0 < (t168.length : Int)
        · rw [if_pos c9] at H
          have c9b0 : decide (0 < (t168.length : Int)) = true := decide_eq_true c9
          have c9b1 : decide (0 < t168.length) = true := decide_eq_true (by omega)
          clear c9
          replace H := Option.bind_eq_some_iff.mp H
          obtain ⟨t173, A100, H⟩ := H
          replace H : (if (rdOf ByteArray.empty t168 0).toList = t173.toList then (stilemanref04_Parse.l0 k1 t168 (wrap64 (x6_1 + 1)) x6_1 0 0 0 0) else (stilemanref04_Parse.l0 k1 t168 (wrap64 (x6_1 + 1)) x172000_1 0 0 0 0)) = some (r1, r2, r3, r4, r5, r6) := H
          have A10 := Aside0.mk A100
          clear A100
          by_cases c11 : (rdOf ByteArray.empty t168 0).toList = t173.toList
          · rw [if_pos c11] at H
            have c11b0 : ((rdOf ByteArray.empty t168 0).toList == t173.toList) = true := beq_iff_eq.mpr c11
            have c11b1 : ((rdOf ByteArray.empty t168 0).toList != t173.toList) = false := bne_eq_false_iff_eq.mpr c11
            clear c11
            have H' := Aside0.mk H
            clear H
            try go_wp2
            have n0_ := Aside0.mk (Kd.R_drew HO_4.out)
            have n1_ := Aside0.mk (blk_drew BK167.out)
            have n2_ := Aside0.mk (blk_drew BK171.out)
            have n3_ := Aside0.mk (below_drew1 HB.out)
            clear HO_4
            clear BK167
            clear BK171
            clear HB
            have HO_4 := n0_
            have BK167 := n1_
            have BK171 := n2_
            have HB := n3_
            clear n0_ n1_ n2_ n3_
            obtain ⟨Ao13, co13, eo13⟩ := Kd.R_slice HO_4.out
            (first | subst eo13 | (injection eo13 with f1_ f2_ f3_; have f4_ := f1_.symm; have f5_ := f3_.symm; clear f1_ f2_ f3_; subst f4_; subst f5_))
            have p172 : 0 ≤ (0 : Int) := (by omega)
            have q172 : 0 < (t168.length : Int) := of_decide_eq_true (by first | (with_reducible assumption) | assumption)
            obtain ⟨ad172, e172, hx172_0⟩ := Kd.at_string (Kd.R_reads' HO_4.out).2.2 0 p172 q172
            cases e172
            have qi172 : (0 < t168.length) = True := eq_true (by omega)
            (try rw [show ((0 : Int)).toNat = 0 from rfl] at hx172_0)
            (try rw [Addr.add_zero'] at hx172_0)
            replace p172 := eq_true p172
            replace q172 := eq_true q172
            refine start_ (n := 6) (S := fun w' => w'.cell? ad172 = some (.string (rdOf ByteArray.empty t168 0))) (ds := []) #[false, false, false, false, false, false] (by kernel_rfl) rfl rfl (hx172_0) (fun hHeld => ?_)
            generalize wr.drew = w12 at HO_4 BK167 BK171 HB hx172_0 hHeld ⊢
            refine pure_ (i := 0) (N := some 17) (v := ?_) (a' := ?_) #[true, false, false, false, false, false] rfl rfl (by kernel_rfl) (fun _ _ _ h => h) (Or.inl ⟨by rfl, ?_⟩) ?_ ?_
            rotate_left
            · intro w'
              go_simp
              with_reducible rfl
            rotate_left
            · simp only [Act.put, List.setIfInBounds_toArray, List.set_cons_zero, List.set_cons_succ, i64_w, i32_w]
              rfl
            refine pure_ (i := 1) (N := some 18) (v := ?_) (a' := ?_) #[true, true, false, false, false, false] rfl rfl (by kernel_rfl) (fun _ _ _ h => h) (Or.inl ⟨by rfl, ?_⟩) ?_ ?_
            rotate_left
            · intro w'
              go_simp
              with_reducible rfl
            rotate_left
            · simp only [Act.put, List.setIfInBounds_toArray, List.set_cons_zero, List.set_cons_succ, i64_w, i32_w]
              rfl
            refine pure_ (i := 3) (N := some 20) (v := ?_) (a' := ?_) #[true, true, false, true, false, false] rfl rfl (by kernel_rfl) (fun _ _ _ h => h) (Or.inl ⟨by rfl, ?_⟩) ?_ ?_
            rotate_left
            · intro w'
              go_simp
              with_reducible rfl
            rotate_left
            · simp only [Act.put, List.setIfInBounds_toArray, List.set_cons_zero, List.set_cons_succ, i64_w, i32_w]
              rfl
            refine take_ (i := 2) (N := some 19) (v := ?_) (a' := ?_) #[true, true, true, true, false, false] rfl rfl (by kernel_rfl) (fun _ _ _ h => h) (Or.inl ⟨by rfl, ?_⟩) hHeld ?_ ?_
            rotate_left
            · intro w' s0
              go_simp
              with_reducible rfl
            rotate_left
            · simp only [Act.put, List.setIfInBounds_toArray, List.set_cons_zero, List.set_cons_succ, i64_w, i32_w]
              rfl
            refine one_ (i := 4) (N := some 21) #[true, true, true, true, true, false] rfl rfl (by kernel_rfl) (by decide) (fun K hK => ?_)
            refine goes_ Tryd.func80 (by kernel_rfl) rfl #[.int .i64 x6_1] (by rfl) rfl rfl (by (try simp only [List.map_toArray, List.map_cons, List.map_nil]); first | done | rfl | (simp only [List.length_drop, List.length_take]; rfl)) ?_
            with_reducible refine (stilemanref04_word.calls x6_1 t173 _ A10.out).mono ?_
            rintro e w' ⟨rfl, ⟨nd, rfl⟩⟩
            refine ⟨_, rfl, ?_⟩
            refine hK.out _ _ (hHeld) (fun hHeld => ?_)
            clear hK K
            refine norm_ (a' := ?_) ?_ ?_
            rotate_left
            · show Act.put _ (some 21) _ = _
              simp only [Act.put, List.setIfInBounds_toArray, List.set_cons_zero, List.set_cons_succ, i64_w, i32_w]
              rfl
            refine pure_ (i := 5) (N := some 22) (v := ?_) (a' := ?_) #[true, true, true, true, true, true] rfl rfl (by kernel_rfl) (fun _ _ _ h => h) (Or.inl ⟨by rfl, ?_⟩) ?_ ?_
            rotate_left
            · intro w'
              go_simp
              with_reducible rfl
            rotate_left
            · simp only [Act.put, List.setIfInBounds_toArray, List.set_cons_zero, List.set_cons_succ, i64_w, i32_w]
              rfl
            refine done_ (by kernel_rfl) ?_
            have hnb14 := NB171_167.out
            have hnc14 := NB167_171.out
            have hcz15_0 : w12.cell? ⟨gb171, 0, none⟩ = some (.int .i64 x172000_1) := (blk_cell BK171.out 0).trans rfl
            have hcz15_1 : w12.cell? ⟨gb171, 1, none⟩ = some (.int .i64 0) := (blk_cell BK171.out 1).trans rfl
            have hcz15_2 : w12.cell? ⟨gb171, 2, none⟩ = some (.int .u32 0) := (blk_cell BK171.out 2).trans rfl
            have hcz15_3 : w12.cell? ⟨gb171, 3, none⟩ = some (.int .u32 0) := (blk_cell BK171.out 3).trans rfl
            have hcz15_4 : w12.cell? ⟨gb171, 4, none⟩ = some (.int .u32 0) := (blk_cell BK171.out 4).trans rfl
            have hfz15_0 := blk_frozen BK171.out 0
            have hfz15_1 := blk_frozen BK171.out 1
            have hfz15_2 := blk_frozen BK171.out 2
            have hfz15_3 := blk_frozen BK171.out 3
            have hfz15_4 := blk_frozen BK171.out 4
            try go_wp2
            go_roundg k1
            case measure => have := HK1.out; omega
            case rel => exact ⟨(wrap64 (x6_1 + 1)), (x6_1), (by first | rfl | (simp; done) | (simp [*]; done)), H', ⟨by have := HK1.out; omega⟩, ⟨by (with_reducible repeat (first | apply Kd.R_alloc | apply Kd.R_drewN | apply Kd.R_drew)); exact Kd.R_mono (Kd.R_far (p := ⟨gb171, 0, none⟩) (Kd.R_types HO_4.out BK171.out (by decide)) (fun _ hk => hk.2) (.int .i64 x6_1)) (fun _ hk => trivial)⟩, ⟨by (with_reducible repeat (first | refine blk_drewN ?_ _ | refine blk_drew ?_ | refine blk_alloc ?_ _)); refine blk_far ?_ NB167_171.out _; (with_reducible repeat (first | refine blk_drewN ?_ _ | refine blk_drew ?_ | refine blk_alloc ?_ _)); exact BK167.out⟩, ⟨by (with_reducible repeat (first | refine blk_drewN ?_ _ | refine blk_drew ?_ | refine blk_alloc ?_ _)); refine blk_put (cs := #[.int .i64 x172000_1, .int .i64 0, .int .u32 0, .int .u32 0, .int .u32 0]) ?_ 0 _ rfl; (with_reducible repeat (first | refine blk_drewN ?_ _ | refine blk_drew ?_ | refine blk_alloc ?_ _)); exact BK171.out⟩, ⟨by repeat (first | (with_reducible first | exact HB.out | apply below_alloc | apply pw_below_drewN | apply below_drew1 | refine below_set ?_ GE167.out | refine below_set ?_ GE171.out) | exact HB.out)⟩⟩
          · rw [if_neg c11] at H
            have c11b0 : ((rdOf ByteArray.empty t168 0).toList == t173.toList) = false := beq_eq_false_iff_ne.mpr c11
            have c11b1 : ((rdOf ByteArray.empty t168 0).toList != t173.toList) = true := bne_iff_ne.mpr c11
            have H' := Aside0.mk H
            clear H
            try go_wp2
            have n0_ := Aside0.mk (Kd.R_drew HO_4.out)
            have n1_ := Aside0.mk (blk_drew BK167.out)
            have n2_ := Aside0.mk (blk_drew BK171.out)
            have n3_ := Aside0.mk (below_drew1 HB.out)
            clear HO_4
            clear BK167
            clear BK171
            clear HB
            have HO_4 := n0_
            have BK167 := n1_
            have BK171 := n2_
            have HB := n3_
            clear n0_ n1_ n2_ n3_
            obtain ⟨Ao17, co17, eo17⟩ := Kd.R_slice HO_4.out
            (first | subst eo17 | (injection eo17 with f1_ f2_ f3_; have f4_ := f1_.symm; have f5_ := f3_.symm; clear f1_ f2_ f3_; subst f4_; subst f5_))
            have p172 : 0 ≤ (0 : Int) := (by omega)
            have q172 : 0 < (t168.length : Int) := of_decide_eq_true (by first | (with_reducible assumption) | assumption)
            obtain ⟨ad172, e172, hx172_0⟩ := Kd.at_string (Kd.R_reads' HO_4.out).2.2 0 p172 q172
            cases e172
            have qi172 : (0 < t168.length) = True := eq_true (by omega)
            (try rw [show ((0 : Int)).toNat = 0 from rfl] at hx172_0)
            (try rw [Addr.add_zero'] at hx172_0)
            replace p172 := eq_true p172
            replace q172 := eq_true q172
            refine start_ (n := 6) (S := fun w' => w'.cell? ad172 = some (.string (rdOf ByteArray.empty t168 0))) (ds := []) #[false, false, false, false, false, false] (by kernel_rfl) rfl rfl (hx172_0) (fun hHeld => ?_)
            generalize wr.drew = w16 at HO_4 BK167 BK171 HB hx172_0 hHeld ⊢
            refine pure_ (i := 0) (N := some 17) (v := ?_) (a' := ?_) #[true, false, false, false, false, false] rfl rfl (by kernel_rfl) (fun _ _ _ h => h) (Or.inl ⟨by rfl, ?_⟩) ?_ ?_
            rotate_left
            · intro w'
              go_simp
              with_reducible rfl
            rotate_left
            · simp only [Act.put, List.setIfInBounds_toArray, List.set_cons_zero, List.set_cons_succ, i64_w, i32_w]
              rfl
            refine pure_ (i := 1) (N := some 18) (v := ?_) (a' := ?_) #[true, true, false, false, false, false] rfl rfl (by kernel_rfl) (fun _ _ _ h => h) (Or.inl ⟨by rfl, ?_⟩) ?_ ?_
            rotate_left
            · intro w'
              go_simp
              with_reducible rfl
            rotate_left
            · simp only [Act.put, List.setIfInBounds_toArray, List.set_cons_zero, List.set_cons_succ, i64_w, i32_w]
              rfl
            refine pure_ (i := 3) (N := some 20) (v := ?_) (a' := ?_) #[true, true, false, true, false, false] rfl rfl (by kernel_rfl) (fun _ _ _ h => h) (Or.inl ⟨by rfl, ?_⟩) ?_ ?_
            rotate_left
            · intro w'
              go_simp
              with_reducible rfl
            rotate_left
            · simp only [Act.put, List.setIfInBounds_toArray, List.set_cons_zero, List.set_cons_succ, i64_w, i32_w]
              rfl
            refine take_ (i := 2) (N := some 19) (v := ?_) (a' := ?_) #[true, true, true, true, false, false] rfl rfl (by kernel_rfl) (fun _ _ _ h => h) (Or.inl ⟨by rfl, ?_⟩) hHeld ?_ ?_
            rotate_left
            · intro w' s0
              go_simp
              with_reducible rfl
            rotate_left
            · simp only [Act.put, List.setIfInBounds_toArray, List.set_cons_zero, List.set_cons_succ, i64_w, i32_w]
              rfl
            refine one_ (i := 4) (N := some 21) #[true, true, true, true, true, false] rfl rfl (by kernel_rfl) (by decide) (fun K hK => ?_)
            refine goes_ Tryd.func80 (by kernel_rfl) rfl #[.int .i64 x6_1] (by rfl) rfl rfl (by (try simp only [List.map_toArray, List.map_cons, List.map_nil]); first | done | rfl | (simp only [List.length_drop, List.length_take]; rfl)) ?_
            with_reducible refine (stilemanref04_word.calls x6_1 t173 _ A10.out).mono ?_
            rintro e w' ⟨rfl, ⟨nd, rfl⟩⟩
            refine ⟨_, rfl, ?_⟩
            refine hK.out _ _ (hHeld) (fun hHeld => ?_)
            clear hK K
            refine norm_ (a' := ?_) ?_ ?_
            rotate_left
            · show Act.put _ (some 21) _ = _
              simp only [Act.put, List.setIfInBounds_toArray, List.set_cons_zero, List.set_cons_succ, i64_w, i32_w]
              rfl
            refine pure_ (i := 5) (N := some 22) (v := ?_) (a' := ?_) #[true, true, true, true, true, true] rfl rfl (by kernel_rfl) (fun _ _ _ h => h) (Or.inl ⟨by rfl, ?_⟩) ?_ ?_
            rotate_left
            · intro w'
              go_simp
              with_reducible rfl
            rotate_left
            · simp only [Act.put, List.setIfInBounds_toArray, List.set_cons_zero, List.set_cons_succ, i64_w, i32_w]
              rfl
            refine done_ (by kernel_rfl) ?_
            try go_wp2
            go_roundg k1
            case measure => have := HK1.out; omega
            case rel => exact ⟨(wrap64 (x6_1 + 1)), (x172000_1), (by first | rfl | (simp; done) | (simp [*]; done)), H', ⟨by have := HK1.out; omega⟩, ⟨by (with_reducible repeat (first | apply Kd.R_alloc | apply Kd.R_drewN | apply Kd.R_drew)); exact HO_4.out⟩, ⟨by (with_reducible repeat (first | refine blk_drewN ?_ _ | refine blk_drew ?_ | refine blk_alloc ?_ _)); exact BK167.out⟩, ⟨by (with_reducible repeat (first | refine blk_drewN ?_ _ | refine blk_drew ?_ | refine blk_alloc ?_ _)); exact BK171.out⟩, ⟨by repeat (first | (with_reducible first | exact HB.out | apply below_alloc | apply pw_below_drewN | apply below_drew1 | refine below_set ?_ GE167.out | refine below_set ?_ GE171.out) | exact HB.out)⟩⟩
        · rw [if_neg c9] at H
          exact absurd H (by simp)
      · rw [if_neg c8] at H
        have c8b0 : decide (x6_1 ≤ 5) = false := decide_eq_false c8
        clear c8
        obtain ⟨y174, hy174⟩ : ∃ y_ : List Int, y_ = (([0, 4, 5, 5, 5, 6] : List Int)) := ⟨_, rfl⟩
        replace H : (if x172000_1 = 0 then (stilemanref04_Parse.j1 k1 t168 true x172000_1 0 0 0 0) else (if 0 ≤ x172000_1 then (if x172000_1 < (y174.length : Int) then (if (t168.length : Int) = (rd y174 x172000_1) then (if 0 ≤ (wrap64 ((t168.length : Int) - 2)) then (if (wrap64 ((t168.length : Int) - 2)) < (t168.length : Int) then (if (rdOf ByteArray.empty t168 (wrap64 ((t168.length : Int) - 2))).toList = ([119, 97, 115] : List UInt8) then (if 1 < (t168.length : Int) then (stilemanref04_Parse.j1 k1 t168 (decide (((rdOf ByteArray.empty t168 1).size : Int) > 4)) x172000_1 0 0 0 0) else (none)) else (stilemanref04_Parse.j1 k1 t168 true x172000_1 0 0 0 0)) else (none)) else (none)) else (stilemanref04_Parse.j1 k1 t168 true x172000_1 0 0 0 0)) else (none)) else (none))) = some (r1, r2, r3, r4, r5, r6) := by first | (rw [hy174]; with_reducible exact H) | (have H2_ := (Option.bind_some _ _).symm.trans H; rw [hy174]; with_reducible exact H2_) | (have H2_ := (Option.bind_some _ _).symm.trans H; with_reducible exact H2_) | with_reducible exact H | (rw [hy174]; exact H) | exact H
        have Ny174 := Aside0.mk hy174
        clear hy174
        have HC18 := Aside0.mk H
        clear H
        go_upto_region 9 with (first | ((with_reducible refine gate_dst (N := 25) rfl ?_); (try (refine gate_guard (by rfl) ?_; dsimp only)); refine Kd.R_lit (Kd.int .i64) _ 3 ?hg (N := 25) ?hd (xs := ([0, 4, 5, 5, 5, 6] : List Int)) (inner := [.int .i64 0, .int .i64 4, .int .i64 5, .int .i64 5, .int .i64 5, .int .i64 6]) (ok := fun _ => True) (okp := fun _ => True) ?hr ?hp (fun _ hk => hk) trivial (Below.refl _ _) (Nat.le_refl _) (by simp) ?_; (case hd => rfl); (case hg => rfl); (case hr => first | (go_simp; done) | (go_simp; rfl)); (case hp => exact (Reps.one (show Kd.M (Kd.int .i64) _ _ _ 0 [.int .i64 0] from rfl) (Reps.one (show Kd.M (Kd.int .i64) _ _ _ 4 [.int .i64 4] from rfl) (Reps.one (show Kd.M (Kd.int .i64) _ _ _ 5 [.int .i64 5] from rfl) (Reps.one (show Kd.M (Kd.int .i64) _ _ _ 5 [.int .i64 5] from rfl) (Reps.one (show Kd.M (Kd.int .i64) _ _ _ 5 [.int .i64 5] from rfl) (Reps.one (show Kd.M (Kd.int .i64) _ _ _ 6 [.int .i64 6] from rfl) (Reps.none _ _)))))))); intro v175 w19 ho20 hb hg_ hnew_; clear hg_ hnew_; (first | rw [← Ny174.out] at ho20 | (simp only [Int.reduceToNat] at ho20; rw [← Ny174.out] at ho20)); have n0_ := Aside0.mk (Kd.R_below (by (with_reducible repeat (first | apply Kd.R_alloc | apply Kd.R_drewN | apply Kd.R_drew)); exact HO_4.out) hb); have n1_ := Aside0.mk (Kd.R_lower ho20 (below_size (by repeat (first | (with_reducible first | exact HB.out | apply below_alloc | apply pw_below_drewN | apply below_drew1 | refine below_set ?_ GE167.out | refine below_set ?_ GE171.out) | exact HB.out)))); have n2_ := Aside0.mk (blk_below (g := gb167) (o := .cells #[.int .i64 0, .int .i64 0, .int .u32 0, .int .u32 0, .int .u32 0] 48 (0, 0)) (by (with_reducible repeat (first | refine blk_drewN ?_ _ | refine blk_drew ?_ | refine blk_alloc ?_ _)); exact BK167.out) hb); have n3_ := Aside0.mk (blk_below (g := gb171) (o := .cells #[.int .i64 x172000_1, .int .i64 0, .int .u32 0, .int .u32 0, .int .u32 0] 48 (0, 0)) (by (with_reducible repeat (first | refine blk_drewN ?_ _ | refine blk_drew ?_ | refine blk_alloc ?_ _)); exact BK171.out) hb); have n4_ := Aside0.mk (below_step (by repeat (first | (with_reducible first | exact HB.out | apply below_alloc | apply pw_below_drewN | apply below_drew1 | refine below_set ?_ GE167.out | refine below_set ?_ GE171.out) | exact HB.out)) hb); clear HO_4; clear BK167; clear BK171; clear HB; have HO_4 := n0_; have HO176 := n1_; have BK167 := n2_; have BK171 := n3_; have HB := n4_; clear n0_ n1_ n2_ n3_ n4_; clear hb ho20))
        (try simp only [Act.put, List.setIfInBounds_toArray, List.set_cons_zero, List.set_cons_succ])
        go_cut [54] (fun v54 wc => ∃ (kq : Nat) (x54_17 : Bool), v54 = .bool x54_17 ∧ Aside0 (stilemanref04_Parse.j1 kq t168 x54_17 x172000_1 0 0 0 0 = some (r1, r2, r3, r4, r5, r6)) ∧ Aside0 (kq ≤ k1) ∧ Aside0 (Kd.R Kd.string 9 wc w.heap.size (fun _ => True) v169 t168) ∧ Aside0 (wc.heap[gb167]? = some (.cells #[.int .i64 0, .int .i64 0, .int .u32 0, .int .u32 0, .int .u32 0] 48 (0, 0))) ∧ Aside0 (wc.heap[gb171]? = some (.cells #[.int .i64 x172000_1, .int .i64 0, .int .u32 0, .int .u32 0, .int .u32 0] 48 (0, 0))) ∧ Aside0 (Below w.heap.size w wc))
        case first =>
          have H := HC18.out
          clear HC18
          by_cases c21 : x172000_1 = 0
          · rw [if_pos c21] at H
            have c21b0 : (x172000_1 == 0) = true := beq_iff_eq.mpr c21
            have c21b1 : (x172000_1 != 0) = false := bne_eq_false_iff_eq.mpr c21
            clear c21
            (first | rw [c21b0] | (simp only [i64_w, i32_w]; rw [c21b0]) | skip)
            have H' := Aside0.mk H
            clear H
            have hnb22 := NB171_167.out
            have hnc22 := NB167_171.out
            have hcz23_0 : w19.cell? ⟨gb171, 0, none⟩ = some (.int .i64 x172000_1) := (blk_cell BK171.out 0).trans rfl
            have hcz23_1 : w19.cell? ⟨gb171, 1, none⟩ = some (.int .i64 0) := (blk_cell BK171.out 1).trans rfl
            have hcz23_2 : w19.cell? ⟨gb171, 2, none⟩ = some (.int .u32 0) := (blk_cell BK171.out 2).trans rfl
            have hcz23_3 : w19.cell? ⟨gb171, 3, none⟩ = some (.int .u32 0) := (blk_cell BK171.out 3).trans rfl
            have hcz23_4 : w19.cell? ⟨gb171, 4, none⟩ = some (.int .u32 0) := (blk_cell BK171.out 4).trans rfl
            have hfz23_0 := blk_frozen BK171.out 0
            have hfz23_1 := blk_frozen BK171.out 1
            have hfz23_2 := blk_frozen BK171.out 2
            have hfz23_3 := blk_frozen BK171.out 3
            have hfz23_4 := blk_frozen BK171.out 4
            go_wp2
            go_meet
            case rel => exact ⟨_, (true), (by first | rfl | (simp; done) | (simp [*]; done)), H', ⟨by have := HK1.out; first | omega | exact Nat.le_refl _⟩, ⟨by (with_reducible repeat (first | apply Kd.R_alloc | apply Kd.R_drewN | apply Kd.R_drew)); exact HO_4.out⟩, ⟨by (with_reducible repeat (first | refine blk_drewN ?_ _ | refine blk_drew ?_ | refine blk_alloc ?_ _)); exact BK167.out⟩, ⟨by (with_reducible repeat (first | refine blk_drewN ?_ _ | refine blk_drew ?_ | refine blk_alloc ?_ _)); exact BK171.out⟩, ⟨by repeat (first | (with_reducible first | exact HB.out | apply below_alloc | apply pw_below_drewN | apply below_drew1 | refine below_set ?_ GE167.out | refine below_set ?_ GE171.out) | exact HB.out)⟩⟩
          · rw [if_neg c21] at H
            have c21b0 : (x172000_1 == 0) = false := beq_eq_false_iff_ne.mpr c21
            have c21b1 : (x172000_1 != 0) = true := bne_iff_ne.mpr c21
            (first | rw [c21b0] | (simp only [i64_w, i32_w]; rw [c21b0]) | skip)
            by_cases c24 : 0 ≤ x172000_1
            · rw [if_pos c24] at H
              have c24b0 : decide (0 ≤ x172000_1) = true := decide_eq_true c24
              clear c24
              by_cases c25 : x172000_1 < (y174.length : Int)
              · rw [if_pos c25] at H
                have c25b0 : decide (x172000_1 < (y174.length : Int)) = true := decide_eq_true c25
                clear c25
                by_cases c26 : (t168.length : Int) = (rd y174 x172000_1)
                · rw [if_pos c26] at H
                  have c26b0 : ((t168.length : Int) == (rd y174 x172000_1)) = true := beq_iff_eq.mpr c26
                  have c26b1 : ((t168.length : Int) != (rd y174 x172000_1)) = false := bne_eq_false_iff_eq.mpr c26
                  clear c26
                  obtain ⟨ji27, hji27⟩ : ∃ j_ : Int, (wrap64 ((t168.length : Int) - 2)) = j_ := ⟨_, rfl⟩
                  replace H : (if 0 ≤ (ji27) then (if (ji27) < (t168.length : Int) then (if (rdOf ByteArray.empty t168 (ji27)).toList = ([119, 97, 115] : List UInt8) then (if 1 < (t168.length : Int) then (stilemanref04_Parse.j1 k1 t168 (decide (((rdOf ByteArray.empty t168 1).size : Int) > 4)) x172000_1 0 0 0 0) else (none)) else (stilemanref04_Parse.j1 k1 t168 true x172000_1 0 0 0 0)) else (none)) else (none)) = some (r1, r2, r3, r4, r5, r6) := by first | (rw [hji27] at H; exact H) | (simp only [hji27] at H ⊢; exact H)
                  have hji27w : (IntKind.i64.wrap ((t168.length : Int) - 2)) = ji27 := (i64_w _).trans hji27
                  by_cases c28 : 0 ≤ (ji27)
                  · rw [if_pos c28] at H
                    have c28b0 : decide (0 ≤ (ji27)) = true := decide_eq_true c28
                    clear c28
                    by_cases c29 : (ji27) < (t168.length : Int)
                    · rw [if_pos c29] at H
                      have c29b0 : decide ((ji27) < (t168.length : Int)) = true := decide_eq_true c29
                      clear c29
                      by_cases c30 : (rdOf ByteArray.empty t168 (ji27)).toList = ([119, 97, 115] : List UInt8)
                      · rw [if_pos c30] at H
                        have c30b0 : ((rdOf ByteArray.empty t168 (ji27)).toList == ([119, 97, 115] : List UInt8)) = true := beq_iff_eq.mpr c30
                        have c30b1 : ((rdOf ByteArray.empty t168 (ji27)).toList != ([119, 97, 115] : List UInt8)) = false := bne_eq_false_iff_eq.mpr c30
                        clear c30
                        by_cases c31 : 1 < (t168.length : Int)
                        · rw [if_pos c31] at H
                          have c31b0 : decide (1 < (t168.length : Int)) = true := decide_eq_true c31
                          have c31b1 : decide (1 < t168.length) = true := decide_eq_true (by omega)
                          clear c31
                          have H' := Aside0.mk H
                          clear H
                          have hnb32 := NB171_167.out
                          have hnc32 := NB167_171.out
                          have hcz33_0 : w19.cell? ⟨gb171, 0, none⟩ = some (.int .i64 x172000_1) := (blk_cell BK171.out 0).trans rfl
                          have hcz33_1 : w19.cell? ⟨gb171, 1, none⟩ = some (.int .i64 0) := (blk_cell BK171.out 1).trans rfl
                          have hcz33_2 : w19.cell? ⟨gb171, 2, none⟩ = some (.int .u32 0) := (blk_cell BK171.out 2).trans rfl
                          have hcz33_3 : w19.cell? ⟨gb171, 3, none⟩ = some (.int .u32 0) := (blk_cell BK171.out 3).trans rfl
                          have hcz33_4 : w19.cell? ⟨gb171, 4, none⟩ = some (.int .u32 0) := (blk_cell BK171.out 4).trans rfl
                          have hfz33_0 := blk_frozen BK171.out 0
                          have hfz33_1 := blk_frozen BK171.out 1
                          have hfz33_2 := blk_frozen BK171.out 2
                          have hfz33_3 := blk_frozen BK171.out 3
                          have hfz33_4 := blk_frozen BK171.out 4
                          obtain ⟨Ao34, co34, eo34⟩ := Kd.R_slice HO_4.out
                          subst eo34
                          obtain ⟨Ao35, co35, eo35⟩ := Kd.R_slice HO176.out
                          subst eo35
                          have p177 : 0 ≤ (x172000_1 : Int) := of_decide_eq_true (by first | (with_reducible assumption) | assumption)
                          have q177 : x172000_1 < (y174.length : Int) := of_decide_eq_true (by first | (with_reducible assumption) | assumption)
                          obtain ⟨ad177, e177, hx177_0⟩ := Kd.at_int (Kd.R_reads' HO176.out).2.2 x172000_1 p177 q177
                          cases e177
                          replace p177 := eq_true p177
                          replace q177 := eq_true q177
                          have p178 : 0 ≤ ((ji27) : Int) := of_decide_eq_true (by first | (with_reducible assumption) | assumption)
                          have q178 : (ji27) < (t168.length : Int) := of_decide_eq_true (by first | (with_reducible assumption) | assumption)
                          obtain ⟨ad178, e178, hx178_0⟩ := Kd.at_string (Kd.R_reads' HO_4.out).2.2 (ji27) p178 q178
                          cases e178
                          replace p178 := eq_true p178
                          replace q178 := eq_true q178
                          have p179 : 0 ≤ (1 : Int) := (by omega)
                          have q179 : 1 < (t168.length : Int) := of_decide_eq_true (by first | (with_reducible assumption) | assumption)
                          obtain ⟨ad179, e179, hx179_0⟩ := Kd.at_string (Kd.R_reads' HO_4.out).2.2 1 p179 q179
                          obtain rfl : ad178 = ad179 := (by injection e179)
                          (try simp only [show (1 : Int).toNat = 1 from rfl, Nat.reduceMul, Nat.reduceEqDiff, Go.Addr.add, ↓reduceIte] at hx179_0)
                          have qi179 : (1 < t168.length) = True := eq_true (by omega)
                          (try rw [show ((1 : Int)).toNat = 1 from rfl] at hx179_0)
                          replace p179 := eq_true p179
                          replace q179 := eq_true q179
                          go_wp2
                          go_meet
                          case rel => exact ⟨_, (decide (((rdOf ByteArray.empty t168 1).size : Int) > 4)), (by first | rfl | (simp; done) | (simp [*]; done)), H', ⟨by have := HK1.out; first | omega | exact Nat.le_refl _⟩, ⟨by (with_reducible repeat (first | apply Kd.R_alloc | apply Kd.R_drewN | apply Kd.R_drew)); exact HO_4.out⟩, ⟨by (with_reducible repeat (first | refine blk_drewN ?_ _ | refine blk_drew ?_ | refine blk_alloc ?_ _)); exact BK167.out⟩, ⟨by (with_reducible repeat (first | refine blk_drewN ?_ _ | refine blk_drew ?_ | refine blk_alloc ?_ _)); exact BK171.out⟩, ⟨by repeat (first | (with_reducible first | exact HB.out | apply below_alloc | apply pw_below_drewN | apply below_drew1 | refine below_set ?_ GE167.out | refine below_set ?_ GE171.out) | exact HB.out)⟩⟩
                        · rw [if_neg c31] at H
                          exact absurd H (by simp)
                      · rw [if_neg c30] at H
                        have c30b0 : ((rdOf ByteArray.empty t168 (ji27)).toList == ([119, 97, 115] : List UInt8)) = false := beq_eq_false_iff_ne.mpr c30
                        have c30b1 : ((rdOf ByteArray.empty t168 (ji27)).toList != ([119, 97, 115] : List UInt8)) = true := bne_iff_ne.mpr c30
                        have H' := Aside0.mk H
                        clear H
                        have hnb36 := NB171_167.out
                        have hnc36 := NB167_171.out
                        have hcz37_0 : w19.cell? ⟨gb171, 0, none⟩ = some (.int .i64 x172000_1) := (blk_cell BK171.out 0).trans rfl
                        have hcz37_1 : w19.cell? ⟨gb171, 1, none⟩ = some (.int .i64 0) := (blk_cell BK171.out 1).trans rfl
                        have hcz37_2 : w19.cell? ⟨gb171, 2, none⟩ = some (.int .u32 0) := (blk_cell BK171.out 2).trans rfl
                        have hcz37_3 : w19.cell? ⟨gb171, 3, none⟩ = some (.int .u32 0) := (blk_cell BK171.out 3).trans rfl
                        have hcz37_4 : w19.cell? ⟨gb171, 4, none⟩ = some (.int .u32 0) := (blk_cell BK171.out 4).trans rfl
                        have hfz37_0 := blk_frozen BK171.out 0
                        have hfz37_1 := blk_frozen BK171.out 1
                        have hfz37_2 := blk_frozen BK171.out 2
                        have hfz37_3 := blk_frozen BK171.out 3
                        have hfz37_4 := blk_frozen BK171.out 4
                        obtain ⟨Ao38, co38, eo38⟩ := Kd.R_slice HO_4.out
                        subst eo38
                        obtain ⟨Ao39, co39, eo39⟩ := Kd.R_slice HO176.out
                        subst eo39
                        have p177 : 0 ≤ (x172000_1 : Int) := of_decide_eq_true (by first | (with_reducible assumption) | assumption)
                        have q177 : x172000_1 < (y174.length : Int) := of_decide_eq_true (by first | (with_reducible assumption) | assumption)
                        obtain ⟨ad177, e177, hx177_0⟩ := Kd.at_int (Kd.R_reads' HO176.out).2.2 x172000_1 p177 q177
                        cases e177
                        replace p177 := eq_true p177
                        replace q177 := eq_true q177
                        have p178 : 0 ≤ ((ji27) : Int) := of_decide_eq_true (by first | (with_reducible assumption) | assumption)
                        have q178 : (ji27) < (t168.length : Int) := of_decide_eq_true (by first | (with_reducible assumption) | assumption)
                        obtain ⟨ad178, e178, hx178_0⟩ := Kd.at_string (Kd.R_reads' HO_4.out).2.2 (ji27) p178 q178
                        cases e178
                        replace p178 := eq_true p178
                        replace q178 := eq_true q178
                        go_wp2
                        go_meet
                        case rel => exact ⟨_, (true), (by first | rfl | (simp; done) | (simp [*]; done)), H', ⟨by have := HK1.out; first | omega | exact Nat.le_refl _⟩, ⟨by (with_reducible repeat (first | apply Kd.R_alloc | apply Kd.R_drewN | apply Kd.R_drew)); exact HO_4.out⟩, ⟨by (with_reducible repeat (first | refine blk_drewN ?_ _ | refine blk_drew ?_ | refine blk_alloc ?_ _)); exact BK167.out⟩, ⟨by (with_reducible repeat (first | refine blk_drewN ?_ _ | refine blk_drew ?_ | refine blk_alloc ?_ _)); exact BK171.out⟩, ⟨by repeat (first | (with_reducible first | exact HB.out | apply below_alloc | apply pw_below_drewN | apply below_drew1 | refine below_set ?_ GE167.out | refine below_set ?_ GE171.out) | exact HB.out)⟩⟩
                    · rw [if_neg c29] at H
                      exact absurd H (by simp)
                  · rw [if_neg c28] at H
                    exact absurd H (by simp)
                · rw [if_neg c26] at H
                  have c26b0 : ((t168.length : Int) == (rd y174 x172000_1)) = false := beq_eq_false_iff_ne.mpr c26
                  have c26b1 : ((t168.length : Int) != (rd y174 x172000_1)) = true := bne_iff_ne.mpr c26
                  have H' := Aside0.mk H
                  clear H
                  have hnb40 := NB171_167.out
                  have hnc40 := NB167_171.out
                  have hcz41_0 : w19.cell? ⟨gb171, 0, none⟩ = some (.int .i64 x172000_1) := (blk_cell BK171.out 0).trans rfl
                  have hcz41_1 : w19.cell? ⟨gb171, 1, none⟩ = some (.int .i64 0) := (blk_cell BK171.out 1).trans rfl
                  have hcz41_2 : w19.cell? ⟨gb171, 2, none⟩ = some (.int .u32 0) := (blk_cell BK171.out 2).trans rfl
                  have hcz41_3 : w19.cell? ⟨gb171, 3, none⟩ = some (.int .u32 0) := (blk_cell BK171.out 3).trans rfl
                  have hcz41_4 : w19.cell? ⟨gb171, 4, none⟩ = some (.int .u32 0) := (blk_cell BK171.out 4).trans rfl
                  have hfz41_0 := blk_frozen BK171.out 0
                  have hfz41_1 := blk_frozen BK171.out 1
                  have hfz41_2 := blk_frozen BK171.out 2
                  have hfz41_3 := blk_frozen BK171.out 3
                  have hfz41_4 := blk_frozen BK171.out 4
                  obtain ⟨Ao42, co42, eo42⟩ := Kd.R_slice HO_4.out
                  subst eo42
                  obtain ⟨Ao43, co43, eo43⟩ := Kd.R_slice HO176.out
                  subst eo43
                  have p177 : 0 ≤ (x172000_1 : Int) := of_decide_eq_true (by first | (with_reducible assumption) | assumption)
                  have q177 : x172000_1 < (y174.length : Int) := of_decide_eq_true (by first | (with_reducible assumption) | assumption)
                  obtain ⟨ad177, e177, hx177_0⟩ := Kd.at_int (Kd.R_reads' HO176.out).2.2 x172000_1 p177 q177
                  cases e177
                  replace p177 := eq_true p177
                  replace q177 := eq_true q177
                  go_wp2
                  go_meet
                  case rel => exact ⟨_, (true), (by first | rfl | (simp; done) | (simp [*]; done)), H', ⟨by have := HK1.out; first | omega | exact Nat.le_refl _⟩, ⟨by (with_reducible repeat (first | apply Kd.R_alloc | apply Kd.R_drewN | apply Kd.R_drew)); exact HO_4.out⟩, ⟨by (with_reducible repeat (first | refine blk_drewN ?_ _ | refine blk_drew ?_ | refine blk_alloc ?_ _)); exact BK167.out⟩, ⟨by (with_reducible repeat (first | refine blk_drewN ?_ _ | refine blk_drew ?_ | refine blk_alloc ?_ _)); exact BK171.out⟩, ⟨by repeat (first | (with_reducible first | exact HB.out | apply below_alloc | apply pw_below_drewN | apply below_drew1 | refine below_set ?_ GE167.out | refine below_set ?_ GE171.out) | exact HB.out)⟩⟩
              · rw [if_neg c25] at H
                exact absurd H (by simp)
            · rw [if_neg c24] at H
              exact absurd H (by simp)
        case rest =>
          clear HC18
          try clear c1
          try clear p1
          try clear q1
          try clear hx1
          try clear qi1
          try clear c2
          try clear p2
          try clear c3
          try clear c4
          try clear c6
          try clear p6
          try clear c8
          try clear c8b0
          try clear c9
          try clear c9b0
          try clear c9b1
          try clear c11
          try clear c11b0
          try clear c11b1
          try clear c14
          try clear p17
          try clear q17
          try clear hx17
          try clear qi17
          try clear c21
          try clear c21b0
          try clear c21b1
          try clear c22
          try clear c24
          try clear c24b0
          try clear c25
          try clear c25b0
          try clear c26
          try clear c26b0
          try clear c26b1
          try clear c28
          try clear c28b0
          try clear c29
          try clear c29b0
          try clear c30
          try clear c30b0
          try clear c30b1
          try clear c31
          try clear c31b0
          try clear c31b1
          try clear c32
          try clear c36
          try clear c40
          try clear hcz15_0
          try clear hcz15_1
          try clear hcz15_2
          try clear hcz15_3
          try clear hcz15_4
          try clear hcz23_0
          try clear hcz23_1
          try clear hcz23_2
          try clear hcz23_3
          try clear hcz23_4
          try clear hcz33_0
          try clear hcz33_1
          try clear hcz33_2
          try clear hcz33_3
          try clear hcz33_4
          try clear hcz37_0
          try clear hcz37_1
          try clear hcz37_2
          try clear hcz37_3
          try clear hcz37_4
          try clear hcz41_0
          try clear hcz41_1
          try clear hcz41_2
          try clear hcz41_3
          try clear hcz41_4
          try clear hcz7_0
          try clear hcz7_1
          try clear hcz7_2
          try clear hcz7_3
          try clear hcz7_4
          try clear hfz15_0
          try clear hfz15_1
          try clear hfz15_2
          try clear hfz15_3
          try clear hfz15_4
          try clear hfz23_0
          try clear hfz23_1
          try clear hfz23_2
          try clear hfz23_3
          try clear hfz23_4
          try clear hfz33_0
          try clear hfz33_1
          try clear hfz33_2
          try clear hfz33_3
          try clear hfz33_4
          try clear hfz37_0
          try clear hfz37_1
          try clear hfz37_2
          try clear hfz37_3
          try clear hfz37_4
          try clear hfz41_0
          try clear hfz41_1
          try clear hfz41_2
          try clear hfz41_3
          try clear hfz41_4
          try clear hfz7_0
          try clear hfz7_1
          try clear hfz7_2
          try clear hfz7_3
          try clear hfz7_4
          try clear hx172_0
          try clear hx177_0
          try clear hx178_0
          try clear hx179_0
          try clear p172
          try clear p177
          try clear p178
          try clear p179
          try clear p2
          try clear q172
          try clear q177
          try clear q178
          try clear q179
          obtain ⟨kq, x54_17, rfl, HA, HJ17, HO_4, BK167, BK171, HB⟩ := hcut
          cases kq with
          | zero => exact absurd HA.out (by simp [stilemanref04_Parse.j1])
          | succ kj17 =>
            have H := HA.out
            clear HA
            simp only [stilemanref04_Parse.j1] at H
            by_cases c44 : x54_17 = true
            · subst c44
              have H1 : (some (0, 0, 0, 0, 0, 4)) = some (r1, r2, r3, r4, r5, r6) := by rw [if_pos rfl] at H; exact H
              clear H
              have H := H1
              clear H1
              simp only [Option.some.injEq, Prod.mk.injEq] at H
              obtain ⟨rfl, rfl, rfl, rfl, rfl, rfl⟩ := H
              have hnb45 := NB167_171.out
              have hnc45 := NB171_167.out
              have hcz46_0 : wc.cell? ⟨gb167, 0, none⟩ = some (.int .i64 0) := (blk_cell BK167.out 0).trans rfl
              have hcz46_1 : wc.cell? ⟨gb167, 1, none⟩ = some (.int .i64 0) := (blk_cell BK167.out 1).trans rfl
              have hcz46_2 : wc.cell? ⟨gb167, 2, none⟩ = some (.int .u32 0) := (blk_cell BK167.out 2).trans rfl
              have hcz46_3 : wc.cell? ⟨gb167, 3, none⟩ = some (.int .u32 0) := (blk_cell BK167.out 3).trans rfl
              have hcz46_4 : wc.cell? ⟨gb167, 4, none⟩ = some (.int .u32 0) := (blk_cell BK167.out 4).trans rfl
              have hfz46_0 := blk_frozen BK167.out 0
              have hfz46_1 := blk_frozen BK167.out 1
              have hfz46_2 := blk_frozen BK167.out 2
              have hfz46_3 := blk_frozen BK167.out 3
              have hfz46_4 := blk_frozen BK167.out 4
              go_wp2
              refine bodyPost_ret (results_ct rfl _ _ gb167 48 #[.int .i64 0, .int .i64 0, .int .u32 0, .int .u32 0, .int .u32 0] (0, 0) _ rfl (by (with_reducible repeat (first | refine blk_drewN ?_ _ | refine blk_drew ?_ | refine blk_alloc ?_ _)); refine blk_put (cs := #[.int .i64 0, .int .i64 0, .int .u32 0, .int .u32 0, .int .u32 0]) ?_ 4 _ rfl; (with_reducible repeat (first | refine blk_drewN ?_ _ | refine blk_drew ?_ | refine blk_alloc ?_ _)); refine blk_put (cs := #[.int .i64 0, .int .i64 0, .int .u32 0, .int .u32 0, .int .u32 0]) ?_ 3 _ rfl; (with_reducible repeat (first | refine blk_drewN ?_ _ | refine blk_drew ?_ | refine blk_alloc ?_ _)); refine blk_put (cs := #[.int .i64 0, .int .i64 0, .int .u32 0, .int .u32 0, .int .u32 0]) ?_ 2 _ rfl; (with_reducible repeat (first | refine blk_drewN ?_ _ | refine blk_drew ?_ | refine blk_alloc ?_ _)); refine blk_put (cs := #[.int .i64 0, .int .i64 0, .int .u32 0, .int .u32 0, .int .u32 0]) ?_ 1 _ rfl; (with_reducible repeat (first | refine blk_drewN ?_ _ | refine blk_drew ?_ | refine blk_alloc ?_ _)); refine blk_put (cs := #[.int .i64 0, .int .i64 0, .int .u32 0, .int .u32 0, .int .u32 0]) ?_ 0 _ rfl; (with_reducible repeat (first | refine blk_drewN ?_ _ | refine blk_drew ?_ | refine blk_alloc ?_ _)); exact BK167.out) Tryd.underlying48 rfl (by kernel_rfl)) rfl ?_
              exact ⟨by first | rfl | (simp [errW_none, errW_some] <;> rfl) | (simp [*, errW_none, errW_some] <;> rfl), by repeat (first | (with_reducible first | exact HB.out | apply below_alloc | apply pw_below_drewN | apply below_drew1 | refine below_set ?_ GE167.out | refine below_set ?_ GE171.out) | exact HB.out)⟩
            · replace c44 := Bool.eq_false_iff.mpr c44
              subst c44
              have H1 : (stilemanref04_Parse.l1 kj17 t168 0 x172000_1 0 0 0 0) = some (r1, r2, r3, r4, r5, r6) := by rw [if_neg (show ¬ (false = true) by decide)] at H; exact H
              clear H
              have H := H1
              clear H1
              have H' := Aside0.mk H
              clear H
              go_wp2
              go_loopg [8] kj17 (fun kq v8 w' => ∃ (x8_3 : Int) (x168000_3 : Int) (x168001_3 : Int) (x168002_3 : Int) (x168003_3 : Int) (x168004_3 : Int) (x172001_3 : Int), v8 = .int .i64 x8_3 ∧ Aside0 (stilemanref04_Parse.l1 kq t168 x8_3 x172000_1 x172001_3 0 0 0 = some (r1, r2, r3, r4, r5, r6)) ∧ Aside0 (kq ≤ kj17) ∧ Aside0 (Kd.R Kd.string 9 w' w.heap.size (fun _ => True) v169 t168) ∧ Aside0 (w'.heap[gb167]? = some (.cells #[.int .i64 x168000_3, .int .i64 x168001_3, .int .u32 x168002_3, .int .u32 x168003_3, .int .u32 x168004_3] 48 (0, 0))) ∧ Aside0 (w'.heap[gb171]? = some (.cells #[.int .i64 x172000_1, .int .i64 x172001_3, .int .u32 0, .int .u32 0, .int .u32 0] 48 (0, 0))) ∧ Aside0 (Below w.heap.size w w'))
              case atStart => exact ⟨(0), (0), (0), (0), (0), (0), (0), (by first | rfl | (simp; done) | (simp [*]; done)), H', ⟨Nat.le_refl _⟩, ⟨by (with_reducible repeat (first | apply Kd.R_alloc | apply Kd.R_drewN | apply Kd.R_drew)); exact HO_4.out⟩, ⟨by (with_reducible repeat (first | refine blk_drewN ?_ _ | refine blk_drew ?_ | refine blk_alloc ?_ _)); exact BK167.out⟩, ⟨by (with_reducible repeat (first | refine blk_drewN ?_ _ | refine blk_drew ?_ | refine blk_alloc ?_ _)); exact BK171.out⟩, ⟨by repeat (first | (with_reducible first | exact HB.out | apply below_alloc | apply pw_below_drewN | apply below_drew1 | refine below_set ?_ GE167.out | refine below_set ?_ GE171.out) | exact HB.out)⟩⟩
              case round =>
                clear H'
                try clear c1
                try clear p1
                try clear q1
                try clear hx1
                try clear qi1
                try clear c2
                try clear p2
                try clear c3
                try clear c4
                try clear c6
                try clear p6
                try clear c8
                try clear c8b0
                try clear c9
                try clear c9b0
                try clear c9b1
                try clear c11
                try clear c11b0
                try clear c11b1
                try clear c14
                try clear p17
                try clear q17
                try clear hx17
                try clear qi17
                try clear c21
                try clear c21b0
                try clear c21b1
                try clear c22
                try clear c24
                try clear c24b0
                try clear c25
                try clear c25b0
                try clear c26
                try clear c26b0
                try clear c26b1
                try clear c28
                try clear c28b0
                try clear c29
                try clear c29b0
                try clear c30
                try clear c30b0
                try clear c30b1
                try clear c31
                try clear c31b0
                try clear c31b1
                try clear c32
                try clear c36
                try clear c40
                try clear c44
                try clear c45
                try clear hcz15_0
                try clear hcz15_1
                try clear hcz15_2
                try clear hcz15_3
                try clear hcz15_4
                try clear hcz23_0
                try clear hcz23_1
                try clear hcz23_2
                try clear hcz23_3
                try clear hcz23_4
                try clear hcz33_0
                try clear hcz33_1
                try clear hcz33_2
                try clear hcz33_3
                try clear hcz33_4
                try clear hcz37_0
                try clear hcz37_1
                try clear hcz37_2
                try clear hcz37_3
                try clear hcz37_4
                try clear hcz41_0
                try clear hcz41_1
                try clear hcz41_2
                try clear hcz41_3
                try clear hcz41_4
                try clear hcz46_0
                try clear hcz46_1
                try clear hcz46_2
                try clear hcz46_3
                try clear hcz46_4
                try clear hcz7_0
                try clear hcz7_1
                try clear hcz7_2
                try clear hcz7_3
                try clear hcz7_4
                try clear hfz15_0
                try clear hfz15_1
                try clear hfz15_2
                try clear hfz15_3
                try clear hfz15_4
                try clear hfz23_0
                try clear hfz23_1
                try clear hfz23_2
                try clear hfz23_3
                try clear hfz23_4
                try clear hfz33_0
                try clear hfz33_1
                try clear hfz33_2
                try clear hfz33_3
                try clear hfz33_4
                try clear hfz37_0
                try clear hfz37_1
                try clear hfz37_2
                try clear hfz37_3
                try clear hfz37_4
                try clear hfz41_0
                try clear hfz41_1
                try clear hfz41_2
                try clear hfz41_3
                try clear hfz41_4
                try clear hfz46_0
                try clear hfz46_1
                try clear hfz46_2
                try clear hfz46_3
                try clear hfz46_4
                try clear hfz7_0
                try clear hfz7_1
                try clear hfz7_2
                try clear hfz7_3
                try clear hfz7_4
                try clear hx172_0
                try clear hx177_0
                try clear hx178_0
                try clear hx179_0
                try clear p1
                try clear p17
                try clear p172
                try clear p177
                try clear p178
                try clear p179
                try clear p2
                try clear p6
                try clear q1
                try clear q17
                try clear q172
                try clear q177
                try clear q178
                try clear q179
                obtain ⟨x8_3, x168000_3, x168001_3, x168002_3, x168003_3, x168004_3, x172001_3, rfl, HA, HK3, HO_4, BK167, BK171, HB⟩ := hrel
                cases gk with
                | zero => exact absurd HA.out (by simp [stilemanref04_Parse.l1])
                | succ k3 =>
                  have H := HA.out
                  clear HA
                  simp only [stilemanref04_Parse.l1] at H
                  by_cases c47 : 1 < (t168.length : Int)
                  · rw [if_pos c47] at H
                    have c47b0 : decide (1 < (t168.length : Int)) = true := decide_eq_true c47
                    have c47b1 : decide (1 < t168.length) = true := decide_eq_true (by omega)
                    clear c47
                    by_cases c48 : x8_3 < ((rdOf ByteArray.empty t168 1).size : Int)
                    · rw [if_pos c48] at H
                      have c48b0 : decide (x8_3 < ((rdOf ByteArray.empty t168 1).size : Int)) = true := decide_eq_true c48
                      clear c48
                      by_cases c49 : 0 ≤ x8_3
                      · rw [if_pos c49] at H
                        have c49b0 : decide (0 ≤ x8_3) = true := decide_eq_true c49
                        clear c49
                        by_cases c51 : (bt (rdOf ByteArray.empty t168 1) x8_3) < 48
                        · rw [if_pos c51] at H
                          have c51b0 : decide ((bt (rdOf ByteArray.empty t168 1) x8_3) < 48) = true := decide_eq_true c51
                          clear c51
                          simp only [Option.some.injEq, Prod.mk.injEq] at H
                          obtain ⟨rfl, rfl, rfl, rfl, rfl, rfl⟩ := H
                          obtain ⟨Ao52, co52, eo52⟩ := Kd.R_slice HO_4.out
                          subst eo52
                          have p180 : 0 ≤ (1 : Int) := (by omega)
                          have q180 : 1 < (t168.length : Int) := of_decide_eq_true (by first | (with_reducible assumption) | assumption)
                          obtain ⟨ad180, e180, hx180_0⟩ := Kd.at_string (Kd.R_reads' HO_4.out).2.2 1 p180 q180
                          cases e180
                          (try simp only [show (1 : Int).toNat = 1 from rfl, Nat.reduceMul, Nat.reduceEqDiff, Go.Addr.add, ↓reduceIte] at hx180_0)
                          have qi180 : (1 < t168.length) = True := eq_true (by omega)
                          (try rw [show ((1 : Int)).toNat = 1 from rfl] at hx180_0)
                          replace p180 := eq_true p180
                          replace q180 := eq_true q180
                          have p181 : 0 ≤ (1 : Int) := (by omega)
                          have q181 : 1 < (t168.length : Int) := of_decide_eq_true (by first | (with_reducible assumption) | assumption)
                          obtain ⟨ad181, e181, hx181_0⟩ := Kd.at_string (Kd.R_reads' HO_4.out).2.2 1 p181 q181
                          obtain rfl : ad180 = ad181 := (by injection e181)
                          (try simp only [show (1 : Int).toNat = 1 from rfl, Nat.reduceMul, Nat.reduceEqDiff, Go.Addr.add, ↓reduceIte] at hx181_0)
                          have qi181 : (1 < t168.length) = True := eq_true (by omega)
                          (try rw [show ((1 : Int)).toNat = 1 from rfl] at hx181_0)
                          replace p181 := eq_true p181
                          replace q181 := eq_true q181
                          have p50 : 0 ≤ (x8_3 : Int) := of_decide_eq_true (by first | (with_reducible assumption) | assumption)
                          have q50 : x8_3 < ((rdOf ByteArray.empty t168 1).size : Int) := of_decide_eq_true (by first | (with_reducible assumption) | assumption)
                          have hx50 := bt_at (rdOf ByteArray.empty t168 1) x8_3
                          replace p50 := eq_true p50
                          replace q50 := eq_true q50
                          have hnb53 := NB167_171.out
                          have hnc53 := NB171_167.out
                          have hcz54_0 : wr.cell? ⟨gb167, 0, none⟩ = some (.int .i64 x168000_3) := (blk_cell BK167.out 0).trans rfl
                          have hcz54_1 : wr.cell? ⟨gb167, 1, none⟩ = some (.int .i64 x168001_3) := (blk_cell BK167.out 1).trans rfl
                          have hcz54_2 : wr.cell? ⟨gb167, 2, none⟩ = some (.int .u32 x168002_3) := (blk_cell BK167.out 2).trans rfl
                          have hcz54_3 : wr.cell? ⟨gb167, 3, none⟩ = some (.int .u32 x168003_3) := (blk_cell BK167.out 3).trans rfl
                          have hcz54_4 : wr.cell? ⟨gb167, 4, none⟩ = some (.int .u32 x168004_3) := (blk_cell BK167.out 4).trans rfl
                          have hfz54_0 := blk_frozen BK167.out 0
                          have hfz54_1 := blk_frozen BK167.out 1
                          have hfz54_2 := blk_frozen BK167.out 2
                          have hfz54_3 := blk_frozen BK167.out 3
                          have hfz54_4 := blk_frozen BK167.out 4
                          go_wp2
                          refine bodyPost_ret (results_ct rfl _ _ gb167 48 #[.int .i64 0, .int .i64 0, .int .u32 0, .int .u32 0, .int .u32 0] (0, 0) _ rfl (by (with_reducible repeat (first | refine blk_drewN ?_ _ | refine blk_drew ?_ | refine blk_alloc ?_ _)); refine blk_put (cs := #[.int .i64 0, .int .i64 0, .int .u32 0, .int .u32 0, .int .u32 x168004_3]) ?_ 4 _ rfl; (with_reducible repeat (first | refine blk_drewN ?_ _ | refine blk_drew ?_ | refine blk_alloc ?_ _)); refine blk_put (cs := #[.int .i64 0, .int .i64 0, .int .u32 0, .int .u32 x168003_3, .int .u32 x168004_3]) ?_ 3 _ rfl; (with_reducible repeat (first | refine blk_drewN ?_ _ | refine blk_drew ?_ | refine blk_alloc ?_ _)); refine blk_put (cs := #[.int .i64 0, .int .i64 0, .int .u32 x168002_3, .int .u32 x168003_3, .int .u32 x168004_3]) ?_ 2 _ rfl; (with_reducible repeat (first | refine blk_drewN ?_ _ | refine blk_drew ?_ | refine blk_alloc ?_ _)); refine blk_put (cs := #[.int .i64 0, .int .i64 x168001_3, .int .u32 x168002_3, .int .u32 x168003_3, .int .u32 x168004_3]) ?_ 1 _ rfl; (with_reducible repeat (first | refine blk_drewN ?_ _ | refine blk_drew ?_ | refine blk_alloc ?_ _)); refine blk_put (cs := #[.int .i64 x168000_3, .int .i64 x168001_3, .int .u32 x168002_3, .int .u32 x168003_3, .int .u32 x168004_3]) ?_ 0 _ rfl; (with_reducible repeat (first | refine blk_drewN ?_ _ | refine blk_drew ?_ | refine blk_alloc ?_ _)); exact BK167.out) Tryd.underlying48 rfl (by kernel_rfl)) rfl ?_
                          exact ⟨by first | rfl | (simp [errW_none, errW_some] <;> rfl) | (simp [*, errW_none, errW_some] <;> rfl), by repeat (first | (with_reducible first | exact HB.out | apply below_alloc | apply pw_below_drewN | apply below_drew1 | refine below_set ?_ GE167.out | refine below_set ?_ GE171.out) | exact HB.out)⟩
                        · rw [if_neg c51] at H
                          have c51b0 : decide ((bt (rdOf ByteArray.empty t168 1) x8_3) < 48) = false := decide_eq_false c51
                          clear c51
                          by_cases c56 : (bt (rdOf ByteArray.empty t168 1) x8_3) > 57
                          · rw [if_pos c56] at H
                            have c56b0 : decide (57 < (bt (rdOf ByteArray.empty t168 1) x8_3)) = true := decide_eq_true c56
                            clear c56
                            simp only [Option.some.injEq, Prod.mk.injEq] at H
                            obtain ⟨rfl, rfl, rfl, rfl, rfl, rfl⟩ := H
                            obtain ⟨Ao57, co57, eo57⟩ := Kd.R_slice HO_4.out
                            subst eo57
                            have p180 : 0 ≤ (1 : Int) := (by omega)
                            have q180 : 1 < (t168.length : Int) := of_decide_eq_true (by first | (with_reducible assumption) | assumption)
                            obtain ⟨ad180, e180, hx180_0⟩ := Kd.at_string (Kd.R_reads' HO_4.out).2.2 1 p180 q180
                            cases e180
                            (try simp only [show (1 : Int).toNat = 1 from rfl, Nat.reduceMul, Nat.reduceEqDiff, Go.Addr.add, ↓reduceIte] at hx180_0)
                            have qi180 : (1 < t168.length) = True := eq_true (by omega)
                            (try rw [show ((1 : Int)).toNat = 1 from rfl] at hx180_0)
                            replace p180 := eq_true p180
                            replace q180 := eq_true q180
                            have p181 : 0 ≤ (1 : Int) := (by omega)
                            have q181 : 1 < (t168.length : Int) := of_decide_eq_true (by first | (with_reducible assumption) | assumption)
                            obtain ⟨ad181, e181, hx181_0⟩ := Kd.at_string (Kd.R_reads' HO_4.out).2.2 1 p181 q181
                            obtain rfl : ad180 = ad181 := (by injection e181)
                            (try simp only [show (1 : Int).toNat = 1 from rfl, Nat.reduceMul, Nat.reduceEqDiff, Go.Addr.add, ↓reduceIte] at hx181_0)
                            have qi181 : (1 < t168.length) = True := eq_true (by omega)
                            (try rw [show ((1 : Int)).toNat = 1 from rfl] at hx181_0)
                            replace p181 := eq_true p181
                            replace q181 := eq_true q181
                            have p50 : 0 ≤ (x8_3 : Int) := of_decide_eq_true (by first | (with_reducible assumption) | assumption)
                            have q50 : x8_3 < ((rdOf ByteArray.empty t168 1).size : Int) := of_decide_eq_true (by first | (with_reducible assumption) | assumption)
                            have hx50 := bt_at (rdOf ByteArray.empty t168 1) x8_3
                            replace p50 := eq_true p50
                            replace q50 := eq_true q50
                            have p182 : 0 ≤ (1 : Int) := (by omega)
                            have q182 : 1 < (t168.length : Int) := of_decide_eq_true (by first | (with_reducible assumption) | assumption)
                            obtain ⟨ad182, e182, hx182_0⟩ := Kd.at_string (Kd.R_reads' HO_4.out).2.2 1 p182 q182
                            obtain rfl : ad180 = ad182 := (by injection e182)
                            (try simp only [show (1 : Int).toNat = 1 from rfl, Nat.reduceMul, Nat.reduceEqDiff, Go.Addr.add, ↓reduceIte] at hx182_0)
                            have qi182 : (1 < t168.length) = True := eq_true (by omega)
                            (try rw [show ((1 : Int)).toNat = 1 from rfl] at hx182_0)
                            replace p182 := eq_true p182
                            replace q182 := eq_true q182
                            have p55 : 0 ≤ (x8_3 : Int) := of_decide_eq_true (by first | (with_reducible assumption) | assumption)
                            have q55 : x8_3 < ((rdOf ByteArray.empty t168 1).size : Int) := of_decide_eq_true (by first | (with_reducible assumption) | assumption)
                            have hx55 := bt_at (rdOf ByteArray.empty t168 1) x8_3
                            replace p55 := eq_true p55
                            replace q55 := eq_true q55
                            have hnb58 := NB167_171.out
                            have hnc58 := NB171_167.out
                            have hcz59_0 : wr.cell? ⟨gb167, 0, none⟩ = some (.int .i64 x168000_3) := (blk_cell BK167.out 0).trans rfl
                            have hcz59_1 : wr.cell? ⟨gb167, 1, none⟩ = some (.int .i64 x168001_3) := (blk_cell BK167.out 1).trans rfl
                            have hcz59_2 : wr.cell? ⟨gb167, 2, none⟩ = some (.int .u32 x168002_3) := (blk_cell BK167.out 2).trans rfl
                            have hcz59_3 : wr.cell? ⟨gb167, 3, none⟩ = some (.int .u32 x168003_3) := (blk_cell BK167.out 3).trans rfl
                            have hcz59_4 : wr.cell? ⟨gb167, 4, none⟩ = some (.int .u32 x168004_3) := (blk_cell BK167.out 4).trans rfl
                            have hfz59_0 := blk_frozen BK167.out 0
                            have hfz59_1 := blk_frozen BK167.out 1
                            have hfz59_2 := blk_frozen BK167.out 2
                            have hfz59_3 := blk_frozen BK167.out 3
                            have hfz59_4 := blk_frozen BK167.out 4
                            go_wp2
                            refine bodyPost_ret (results_ct rfl _ _ gb167 48 #[.int .i64 0, .int .i64 0, .int .u32 0, .int .u32 0, .int .u32 0] (0, 0) _ rfl (by (with_reducible repeat (first | refine blk_drewN ?_ _ | refine blk_drew ?_ | refine blk_alloc ?_ _)); refine blk_put (cs := #[.int .i64 0, .int .i64 0, .int .u32 0, .int .u32 0, .int .u32 x168004_3]) ?_ 4 _ rfl; (with_reducible repeat (first | refine blk_drewN ?_ _ | refine blk_drew ?_ | refine blk_alloc ?_ _)); refine blk_put (cs := #[.int .i64 0, .int .i64 0, .int .u32 0, .int .u32 x168003_3, .int .u32 x168004_3]) ?_ 3 _ rfl; (with_reducible repeat (first | refine blk_drewN ?_ _ | refine blk_drew ?_ | refine blk_alloc ?_ _)); refine blk_put (cs := #[.int .i64 0, .int .i64 0, .int .u32 x168002_3, .int .u32 x168003_3, .int .u32 x168004_3]) ?_ 2 _ rfl; (with_reducible repeat (first | refine blk_drewN ?_ _ | refine blk_drew ?_ | refine blk_alloc ?_ _)); refine blk_put (cs := #[.int .i64 0, .int .i64 x168001_3, .int .u32 x168002_3, .int .u32 x168003_3, .int .u32 x168004_3]) ?_ 1 _ rfl; (with_reducible repeat (first | refine blk_drewN ?_ _ | refine blk_drew ?_ | refine blk_alloc ?_ _)); refine blk_put (cs := #[.int .i64 x168000_3, .int .i64 x168001_3, .int .u32 x168002_3, .int .u32 x168003_3, .int .u32 x168004_3]) ?_ 0 _ rfl; (with_reducible repeat (first | refine blk_drewN ?_ _ | refine blk_drew ?_ | refine blk_alloc ?_ _)); exact BK167.out) Tryd.underlying48 rfl (by kernel_rfl)) rfl ?_
                            exact ⟨by first | rfl | (simp [errW_none, errW_some] <;> rfl) | (simp [*, errW_none, errW_some] <;> rfl), by repeat (first | (with_reducible first | exact HB.out | apply below_alloc | apply pw_below_drewN | apply below_drew1 | refine below_set ?_ GE167.out | refine below_set ?_ GE171.out) | exact HB.out)⟩
                          · rw [if_neg c56] at H
                            have c56b0 : decide (57 < (bt (rdOf ByteArray.empty t168 1) x8_3)) = false := decide_eq_false c56
                            clear c56
                            have H' := Aside0.mk H
                            clear H
                            obtain ⟨Ao61, co61, eo61⟩ := Kd.R_slice HO_4.out
                            subst eo61
                            have p180 : 0 ≤ (1 : Int) := (by omega)
                            have q180 : 1 < (t168.length : Int) := of_decide_eq_true (by first | (with_reducible assumption) | assumption)
                            obtain ⟨ad180, e180, hx180_0⟩ := Kd.at_string (Kd.R_reads' HO_4.out).2.2 1 p180 q180
                            cases e180
                            (try simp only [show (1 : Int).toNat = 1 from rfl, Nat.reduceMul, Nat.reduceEqDiff, Go.Addr.add, ↓reduceIte] at hx180_0)
                            have qi180 : (1 < t168.length) = True := eq_true (by omega)
                            (try rw [show ((1 : Int)).toNat = 1 from rfl] at hx180_0)
                            replace p180 := eq_true p180
                            replace q180 := eq_true q180
                            have p181 : 0 ≤ (1 : Int) := (by omega)
                            have q181 : 1 < (t168.length : Int) := of_decide_eq_true (by first | (with_reducible assumption) | assumption)
                            obtain ⟨ad181, e181, hx181_0⟩ := Kd.at_string (Kd.R_reads' HO_4.out).2.2 1 p181 q181
                            obtain rfl : ad180 = ad181 := (by injection e181)
                            (try simp only [show (1 : Int).toNat = 1 from rfl, Nat.reduceMul, Nat.reduceEqDiff, Go.Addr.add, ↓reduceIte] at hx181_0)
                            have qi181 : (1 < t168.length) = True := eq_true (by omega)
                            (try rw [show ((1 : Int)).toNat = 1 from rfl] at hx181_0)
                            replace p181 := eq_true p181
                            replace q181 := eq_true q181
                            have p50 : 0 ≤ (x8_3 : Int) := of_decide_eq_true (by first | (with_reducible assumption) | assumption)
                            have q50 : x8_3 < ((rdOf ByteArray.empty t168 1).size : Int) := of_decide_eq_true (by first | (with_reducible assumption) | assumption)
                            have hx50 := bt_at (rdOf ByteArray.empty t168 1) x8_3
                            replace p50 := eq_true p50
                            replace q50 := eq_true q50
                            have p182 : 0 ≤ (1 : Int) := (by omega)
                            have q182 : 1 < (t168.length : Int) := of_decide_eq_true (by first | (with_reducible assumption) | assumption)
                            obtain ⟨ad182, e182, hx182_0⟩ := Kd.at_string (Kd.R_reads' HO_4.out).2.2 1 p182 q182
                            obtain rfl : ad180 = ad182 := (by injection e182)
                            (try simp only [show (1 : Int).toNat = 1 from rfl, Nat.reduceMul, Nat.reduceEqDiff, Go.Addr.add, ↓reduceIte] at hx182_0)
                            have qi182 : (1 < t168.length) = True := eq_true (by omega)
                            (try rw [show ((1 : Int)).toNat = 1 from rfl] at hx182_0)
                            replace p182 := eq_true p182
                            replace q182 := eq_true q182
                            have p55 : 0 ≤ (x8_3 : Int) := of_decide_eq_true (by first | (with_reducible assumption) | assumption)
                            have q55 : x8_3 < ((rdOf ByteArray.empty t168 1).size : Int) := of_decide_eq_true (by first | (with_reducible assumption) | assumption)
                            have hx55 := bt_at (rdOf ByteArray.empty t168 1) x8_3
                            replace p55 := eq_true p55
                            replace q55 := eq_true q55
                            try go_wp2
                            have n0_ := Aside0.mk (Kd.R_drew HO_4.out)
                            have n1_ := Aside0.mk (blk_drew BK167.out)
                            have n2_ := Aside0.mk (blk_drew BK171.out)
                            have n3_ := Aside0.mk (below_drew1 HB.out)
                            clear HO_4
                            clear BK167
                            clear BK171
                            clear HB
                            have HO_4 := n0_
                            have BK167 := n1_
                            have BK171 := n2_
                            have HB := n3_
                            clear n0_ n1_ n2_ n3_
                            have p183 : 0 ≤ (1 : Int) := (by omega)
                            have q183 : 1 < (t168.length : Int) := of_decide_eq_true (by first | (with_reducible assumption) | assumption)
                            obtain ⟨ad183, e183, hx183_0⟩ := Kd.at_string (Kd.R_reads' HO_4.out).2.2 1 p183 q183
                            obtain rfl : ad180 = ad183 := (by injection e183)
                            (try simp only [show (1 : Int).toNat = 1 from rfl, Nat.reduceMul, Nat.reduceEqDiff, Go.Addr.add, ↓reduceIte] at hx183_0)
                            have qi183 : (1 < t168.length) = True := eq_true (by omega)
                            (try rw [show ((1 : Int)).toNat = 1 from rfl] at hx183_0)
                            replace p183 := eq_true p183
                            replace q183 := eq_true q183
                            have p60 : 0 ≤ (x8_3 : Int) := of_decide_eq_true (by first | (with_reducible assumption) | assumption)
                            have q60 : x8_3 < ((rdOf ByteArray.empty t168 1).size : Int) := of_decide_eq_true (by first | (with_reducible assumption) | assumption)
                            have hx60 := bt_at (rdOf ByteArray.empty t168 1) x8_3
                            replace p60 := eq_true p60
                            replace q60 := eq_true q60
                            refine start_ (n := 13) (S := fun w' => w'.cell? ⟨gb171, 0, none⟩ = some (.int .i64 x172000_1) ∧ w'.cell? ⟨gb171, 1, none⟩ = some (.int .i64 x172001_3) ∧ w'.cell? ⟨gb171, 2, none⟩ = some (.int .u32 0) ∧ w'.cell? ⟨gb171, 3, none⟩ = some (.int .u32 0) ∧ w'.cell? ⟨gb171, 4, none⟩ = some (.int .u32 0) ∧ w'.cell? ⟨ad180.block, ad180.off + 1, none⟩ = some (.string (rdOf ByteArray.empty t168 1))) (ds := [12]) #[false, false, false, false, false, false, false, false, false, false, false, false, false] (by kernel_rfl) rfl rfl ⟨(blk_cell BK171.out 0).trans rfl, (blk_cell BK171.out 1).trans rfl, (blk_cell BK171.out 2).trans rfl, (blk_cell BK171.out 3).trans rfl, (blk_cell BK171.out 4).trans rfl, hx183_0⟩ (fun hHeld => ?_); refine with_tabW stilemanref04_Parse.tab16 stilemanref04_Parse.bits16 (fun HT_ HW_ => ?_)
                            generalize wr.drew = w62 at HO_4 BK167 BK171 HB hx183_0 hHeld ⊢
                            refine pure_ (i := 0) (N := some 79) (v := ?_) (a' := ?_) #[true, false, false, false, false, false, false, false, false, false, false, false, false] rfl rfl (any_of HT_.out (by kernel_rfl)) (fun _ _ _ h => h) (Or.inl ⟨by rfl, ?_⟩) ?_ ?_
                            rotate_left
                            · intro w'
                              go_simp
                              with_reducible rfl
                            rotate_left
                            · simp only [Act.put, List.setIfInBounds_toArray, List.set_cons_zero, List.set_cons_succ, i64_w, i32_w]
                              rfl
                            refine pure_ (i := 3) (N := some 82) (v := ?_) (a' := ?_) #[true, false, false, true, false, false, false, false, false, false, false, false, false] rfl rfl (any_of HT_.out (by kernel_rfl)) (fun _ _ _ h => h) (Or.inl ⟨by rfl, ?_⟩) ?_ ?_
                            rotate_left
                            · intro w'
                              go_simp
                              with_reducible rfl
                            rotate_left
                            · simp only [Act.put, List.setIfInBounds_toArray, List.set_cons_zero, List.set_cons_succ, i64_w, i32_w]
                              rfl
                            refine pure_ (i := 4) (N := some 83) (v := ?_) (a' := ?_) #[true, false, false, true, true, false, false, false, false, false, false, false, false] rfl rfl (any_of HT_.out (by kernel_rfl)) (fun _ _ _ h => h) (Or.inl ⟨by rfl, ?_⟩) ?_ ?_
                            rotate_left
                            · intro w'
                              go_simp
                              with_reducible rfl
                            rotate_left
                            · simp only [Act.put, List.setIfInBounds_toArray, List.set_cons_zero, List.set_cons_succ, i64_w, i32_w]
                              rfl
                            refine pure_ (i := 6) (N := some 85) (v := ?_) (a' := ?_) #[true, false, false, true, true, false, true, false, false, false, false, false, false] rfl rfl (any_of HT_.out (by kernel_rfl)) (fun _ _ _ h => h) (Or.inl ⟨by rfl, ?_⟩) ?_ ?_
                            rotate_left
                            · intro w'
                              go_simp
                              with_reducible rfl
                            rotate_left
                            · simp only [Act.put, List.setIfInBounds_toArray, List.set_cons_zero, List.set_cons_succ, i64_w, i32_w]
                              rfl
                            refine take_ (i := 1) (N := some 80) (v := ?_) (a' := ?_) #[true, true, false, true, true, false, true, false, false, false, false, false, false] rfl rfl (take_ofW HT_.out HW_.out (by kernel_rfl)) (fun _ _ _ h => h) (Or.inl ⟨by rfl, ?_⟩) hHeld ?_ ?_
                            rotate_left
                            · rintro w' ⟨s0, s1, s2, s3, s4, s5⟩
                              go_simp
                              with_reducible rfl
                            rotate_left
                            · simp only [Act.put, List.setIfInBounds_toArray, List.set_cons_zero, List.set_cons_succ, i64_w, i32_w]
                              rfl
                            refine pure_ (i := 2) (N := some 81) (v := ?_) (a' := ?_) #[true, true, true, true, true, false, true, false, false, false, false, false, false] rfl rfl (any_of HT_.out (by kernel_rfl)) (fun _ _ _ h => h) (Or.inl ⟨by rfl, ?_⟩) ?_ ?_
                            rotate_left
                            · intro w'
                              go_simp
                              with_reducible rfl
                            rotate_left
                            · simp only [Act.put, List.setIfInBounds_toArray, List.set_cons_zero, List.set_cons_succ, i64_w, i32_w]
                              rfl
                            refine take_ (i := 5) (N := some 84) (v := ?_) (a' := ?_) #[true, true, true, true, true, true, true, false, false, false, false, false, false] rfl rfl (take_ofW HT_.out HW_.out (by kernel_rfl)) (fun _ _ _ h => h) (Or.inl ⟨by rfl, ?_⟩) hHeld ?_ ?_
                            rotate_left
                            · rintro w' ⟨s0, s1, s2, s3, s4, s5⟩
                              go_simp
                              with_reducible rfl
                            rotate_left
                            · simp only [Act.put, List.setIfInBounds_toArray, List.set_cons_zero, List.set_cons_succ, i64_w, i32_w]
                              rfl
                            refine take_ (i := 7) (N := some 86) (v := ?_) (a' := ?_) #[true, true, true, true, true, true, true, true, false, false, false, false, false] rfl rfl (take_ofW HT_.out HW_.out (by kernel_rfl)) (fun _ _ _ h => h) (Or.inl ⟨by rfl, ?_⟩) hHeld ?_ ?_
                            rotate_left
                            · rintro w' ⟨s0, s1, s2, s3, s4, s5⟩
                              go_simp
                              with_reducible rfl
                            rotate_left
                            · simp only [Act.put, List.setIfInBounds_toArray, List.set_cons_zero, List.set_cons_succ, i64_w, i32_w]
                              rfl
                            refine pure_ (i := 8) (N := some 87) (v := ?_) (a' := ?_) #[true, true, true, true, true, true, true, true, true, false, false, false, false] rfl rfl (any_of HT_.out (by kernel_rfl)) (fun _ _ _ h => h) (Or.inl ⟨by rfl, ?_⟩) ?_ ?_
                            rotate_left
                            · intro w'
                              go_simp
                              with_reducible rfl
                            rotate_left
                            · simp only [Act.put, List.setIfInBounds_toArray, List.set_cons_zero, List.set_cons_succ, i64_w, i32_w]
                              rfl
                            refine pure_ (i := 9) (N := some 88) (v := ?_) (a' := ?_) #[true, true, true, true, true, true, true, true, true, true, false, false, false] rfl rfl (any_of HT_.out (by kernel_rfl)) (fun _ _ _ h => h) (Or.inl ⟨by rfl, ?_⟩) ?_ ?_
                            rotate_left
                            · intro w'
                              go_simp
                              with_reducible rfl
                            rotate_left
                            · simp only [Act.put, List.setIfInBounds_toArray, List.set_cons_zero, List.set_cons_succ, i64_w, i32_w]
                              rfl
                            refine pure_ (i := 10) (N := some 89) (v := ?_) (a' := ?_) #[true, true, true, true, true, true, true, true, true, true, true, false, false] rfl rfl (any_of HT_.out (by kernel_rfl)) (fun _ _ _ h => h) (Or.inl ⟨by rfl, ?_⟩) ?_ ?_
                            rotate_left
                            · intro w'
                              go_simp
                              with_reducible rfl
                            rotate_left
                            · simp only [Act.put, List.setIfInBounds_toArray, List.set_cons_zero, List.set_cons_succ, i64_w, i32_w]
                              rfl
                            refine pure_ (i := 11) (N := some 90) (v := ?_) (a' := ?_) #[true, true, true, true, true, true, true, true, true, true, true, true, false] rfl rfl (any_of HT_.out (by kernel_rfl)) (fun _ _ _ h => h) (Or.inl ⟨by rfl, ?_⟩) ?_ ?_
                            rotate_left
                            · intro w'
                              go_simp
                              with_reducible rfl
                            rotate_left
                            · simp only [Act.put, List.setIfInBounds_toArray, List.set_cons_zero, List.set_cons_succ, i64_w, i32_w]
                              rfl
                            refine last_ (i := 12) (N := none) #[true, true, true, true, true, true, true, true, true, true, true, true, true] rfl rfl (one_of HT_.out (by kernel_rfl)) (by decide) (fun K hK => ?_)
                            have hs63 : w62.cell? ⟨gb171, 1, none⟩ = some (.int .i64 x172001_3) := (blk_cell BK171.out 1).trans rfl
                            have hfs63 := blk_frozen BK171.out 1
                            have hns63_0 := NB167_171.out
                            have hms63_0 := NB171_167.out
                            refine skip_ (w1 := ?_) (by rfl) rfl ?_ ?_
                            rotate_left
                            · go_simp
                              rfl
                            refine hK.out _ _ ?_
                            clear hK K
                            refine done_ (done_of HT_.out (by kernel_rfl)) ?_
                            try go_wp2
                            go_roundg k3
                            case measure => have := HK1.out; have := HJ17.out; have := HK3.out; omega
                            case rel => exact ⟨(wrap64 (x8_3 + 1)), (x168000_3), (x168001_3), (x168002_3), (x168003_3), (x168004_3), (wrap64 ((wrap64 ((wrap64 (x172001_3 * 10)) + (wrap64 (bt (rdOf ByteArray.empty t168 1) x8_3)))) - 48)), (by first | rfl | (simp; done) | (simp [*]; done)), H', ⟨by have := HK1.out; have := HJ17.out; have := HK3.out; omega⟩, ⟨by (with_reducible repeat (first | apply Kd.R_alloc | apply Kd.R_drewN | apply Kd.R_drew)); exact Kd.R_mono (Kd.R_far (p := ⟨gb171, 1, none⟩) (Kd.R_types HO_4.out BK171.out (by decide)) (fun _ hk => hk.2) (.int .i64 (wrap64 ((wrap64 ((wrap64 (x172001_3 * 10)) + (wrap64 (bt (rdOf ByteArray.empty t168 1) x8_3)))) - 48)))) (fun _ hk => trivial)⟩, ⟨by (with_reducible repeat (first | refine blk_drewN ?_ _ | refine blk_drew ?_ | refine blk_alloc ?_ _)); refine blk_far ?_ NB167_171.out _; (with_reducible repeat (first | refine blk_drewN ?_ _ | refine blk_drew ?_ | refine blk_alloc ?_ _)); exact BK167.out⟩, ⟨by (with_reducible repeat (first | refine blk_drewN ?_ _ | refine blk_drew ?_ | refine blk_alloc ?_ _)); refine blk_put (cs := #[.int .i64 x172000_1, .int .i64 x172001_3, .int .u32 0, .int .u32 0, .int .u32 0]) ?_ 1 _ rfl; (with_reducible repeat (first | refine blk_drewN ?_ _ | refine blk_drew ?_ | refine blk_alloc ?_ _)); exact BK171.out⟩, ⟨by repeat (first | (with_reducible first | exact HB.out | apply below_alloc | apply pw_below_drewN | apply below_drew1 | refine below_set ?_ GE167.out | refine below_set ?_ GE171.out) | exact HB.out)⟩⟩
                      · rw [if_neg c49] at H
                        exact absurd H (by simp)
                    · rw [if_neg c48] at H
                      have c48b0 : decide (x8_3 < ((rdOf ByteArray.empty t168 1).size : Int)) = false := decide_eq_false c48
                      clear c48
                      have HC64 := Aside0.mk H
                      clear H
                      obtain ⟨Ao65, co65, eo65⟩ := Kd.R_slice HO_4.out
                      subst eo65
                      have p180 : 0 ≤ (1 : Int) := (by omega)
                      have q180 : 1 < (t168.length : Int) := of_decide_eq_true (by first | (with_reducible assumption) | assumption)
                      obtain ⟨ad180, e180, hx180_0⟩ := Kd.at_string (Kd.R_reads' HO_4.out).2.2 1 p180 q180
                      cases e180
                      (try simp only [show (1 : Int).toNat = 1 from rfl, Nat.reduceMul, Nat.reduceEqDiff, Go.Addr.add, ↓reduceIte] at hx180_0)
                      have qi180 : (1 < t168.length) = True := eq_true (by omega)
                      (try rw [show ((1 : Int)).toNat = 1 from rfl] at hx180_0)
                      replace p180 := eq_true p180
                      replace q180 := eq_true q180
                      go_upto_region 17 with (fail)
                      go_cut [102] (fun v102 wc => ∃ (kq : Nat) (x102_63 : Bool), v102 = .bool x102_63 ∧ Aside0 (stilemanref04_Parse.j3 kq t168 x102_63 x172000_1 x172001_3 0 0 0 = some (r1, r2, r3, r4, r5, r6)) ∧ Aside0 (kq ≤ k3) ∧ Aside0 (Kd.R Kd.string 9 wc w.heap.size (fun _ => True) (.slice (some ad180) t168.length co65) t168) ∧ Aside0 (wc.heap[gb167]? = some (.cells #[.int .i64 x168000_3, .int .i64 x168001_3, .int .u32 x168002_3, .int .u32 x168003_3, .int .u32 x168004_3] 48 (0, 0))) ∧ Aside0 (wc.heap[gb171]? = some (.cells #[.int .i64 x172000_1, .int .i64 x172001_3, .int .u32 0, .int .u32 0, .int .u32 0] 48 (0, 0))) ∧ Aside0 (Below w.heap.size w wc))
                      case first =>
                        have H := HC64.out
                        clear HC64
                        replace H := Option.bind_eq_some_iff.mp H
                        obtain ⟨t184, A660, H⟩ := H
                        replace H : (if t184.toList = (rdOf ByteArray.empty t168 1).toList then (stilemanref04_Parse.j3 k3 t168 (decide (x172001_3 > 1023)) x172000_1 x172001_3 0 0 0) else (stilemanref04_Parse.j3 k3 t168 true x172000_1 x172001_3 0 0 0)) = some (r1, r2, r3, r4, r5, r6) := H
                        have A66 := Aside0.mk A660
                        clear A660
                        by_cases c67 : t184.toList = (rdOf ByteArray.empty t168 1).toList
                        · rw [if_pos c67] at H
                          have c67b0 : (t184.toList == (rdOf ByteArray.empty t168 1).toList) = true := beq_iff_eq.mpr c67
                          have c67b1 : (t184.toList != (rdOf ByteArray.empty t168 1).toList) = false := bne_eq_false_iff_eq.mpr c67
                          clear c67
                          (first | rw [c67b0] | (simp only [i64_w, i32_w]; rw [c67b0]) | skip)
                          have H' := Aside0.mk H
                          clear H
                          try go_wp2
                          have n0_ := Aside0.mk (Kd.R_drew HO_4.out)
                          have n1_ := Aside0.mk (blk_drew BK167.out)
                          have n2_ := Aside0.mk (blk_drew BK171.out)
                          have n3_ := Aside0.mk (below_drew1 HB.out)
                          clear HO_4
                          clear BK167
                          clear BK171
                          clear HB
                          have HO_4 := n0_
                          have BK167 := n1_
                          have BK171 := n2_
                          have HB := n3_
                          clear n0_ n1_ n2_ n3_
                          have p185 : 0 ≤ (1 : Int) := (by omega)
                          have q185 : 1 < (t168.length : Int) := of_decide_eq_true (by first | (with_reducible assumption) | assumption)
                          obtain ⟨ad185, e185, hx185_0⟩ := Kd.at_string (Kd.R_reads' HO_4.out).2.2 1 p185 q185
                          obtain rfl : ad180 = ad185 := (by injection e185)
                          (try simp only [show (1 : Int).toNat = 1 from rfl, Nat.reduceMul, Nat.reduceEqDiff, Go.Addr.add, ↓reduceIte] at hx185_0)
                          have qi185 : (1 < t168.length) = True := eq_true (by omega)
                          (try rw [show ((1 : Int)).toNat = 1 from rfl] at hx185_0)
                          replace p185 := eq_true p185
                          replace q185 := eq_true q185
                          refine start_ (n := 12) (S := fun w' => w'.cell? ⟨gb171, 0, none⟩ = some (.int .i64 x172000_1) ∧ w'.cell? ⟨gb171, 1, none⟩ = some (.int .i64 x172001_3) ∧ w'.cell? ⟨gb171, 2, none⟩ = some (.int .u32 0) ∧ w'.cell? ⟨gb171, 3, none⟩ = some (.int .u32 0) ∧ w'.cell? ⟨gb171, 4, none⟩ = some (.int .u32 0) ∧ w'.cell? ⟨ad180.block, ad180.off + 1, none⟩ = some (.string (rdOf ByteArray.empty t168 1))) (ds := []) #[false, false, false, false, false, false, false, false, false, false, false, false] (by kernel_rfl) rfl rfl ⟨(blk_cell BK171.out 0).trans rfl, (blk_cell BK171.out 1).trans rfl, (blk_cell BK171.out 2).trans rfl, (blk_cell BK171.out 3).trans rfl, (blk_cell BK171.out 4).trans rfl, hx185_0⟩ (fun hHeld => ?_); refine with_tabW stilemanref04_Parse.tab17 stilemanref04_Parse.bits17 (fun HT_ HW_ => ?_)
                          generalize wr.drew = w68 at HO_4 BK167 BK171 HB hx185_0 hHeld ⊢
                          refine pure_ (i := 0) (N := some 91) (v := ?_) (a' := ?_) #[true, false, false, false, false, false, false, false, false, false, false, false] rfl rfl (any_of HT_.out (by kernel_rfl)) (fun _ _ _ h => h) (Or.inl ⟨by rfl, ?_⟩) ?_ ?_
                          rotate_left
                          · intro w'
                            go_simp
                            with_reducible rfl
                          rotate_left
                          · simp only [Act.put, List.setIfInBounds_toArray, List.set_cons_zero, List.set_cons_succ, i64_w, i32_w]
                            rfl
                          refine pure_ (i := 3) (N := some 94) (v := ?_) (a' := ?_) #[true, false, false, true, false, false, false, false, false, false, false, false] rfl rfl (any_of HT_.out (by kernel_rfl)) (fun _ _ _ h => h) (Or.inl ⟨by rfl, ?_⟩) ?_ ?_
                          rotate_left
                          · intro w'
                            go_simp
                            with_reducible rfl
                          rotate_left
                          · simp only [Act.put, List.setIfInBounds_toArray, List.set_cons_zero, List.set_cons_succ, i64_w, i32_w]
                            rfl
                          refine pure_ (i := 4) (N := some 95) (v := ?_) (a' := ?_) #[true, false, false, true, true, false, false, false, false, false, false, false] rfl rfl (any_of HT_.out (by kernel_rfl)) (fun _ _ _ h => h) (Or.inl ⟨by rfl, ?_⟩) ?_ ?_
                          rotate_left
                          · intro w'
                            go_simp
                            with_reducible rfl
                          rotate_left
                          · simp only [Act.put, List.setIfInBounds_toArray, List.set_cons_zero, List.set_cons_succ, i64_w, i32_w]
                            rfl
                          refine take_ (i := 1) (N := some 92) (v := ?_) (a' := ?_) #[true, true, false, true, true, false, false, false, false, false, false, false] rfl rfl (take_ofW HT_.out HW_.out (by kernel_rfl)) (fun _ _ _ h => h) (Or.inl ⟨by rfl, ?_⟩) hHeld ?_ ?_
                          rotate_left
                          · rintro w' ⟨s0, s1, s2, s3, s4, s5⟩
                            go_simp
                            with_reducible rfl
                          rotate_left
                          · simp only [Act.put, List.setIfInBounds_toArray, List.set_cons_zero, List.set_cons_succ, i64_w, i32_w]
                            rfl
                          refine take_ (i := 5) (N := some 96) (v := ?_) (a' := ?_) #[true, true, false, true, true, true, false, false, false, false, false, false] rfl rfl (take_ofW HT_.out HW_.out (by kernel_rfl)) (fun _ _ _ h => h) (Or.inl ⟨by rfl, ?_⟩) hHeld ?_ ?_
                          rotate_left
                          · rintro w' ⟨s0, s1, s2, s3, s4, s5⟩
                            go_simp
                            with_reducible rfl
                          rotate_left
                          · simp only [Act.put, List.setIfInBounds_toArray, List.set_cons_zero, List.set_cons_succ, i64_w, i32_w]
                            rfl
                          refine one_ (i := 2) (N := some 93) #[true, true, true, true, true, true, false, false, false, false, false, false] rfl rfl (one_of HT_.out (by kernel_rfl)) (by decide) (fun K hK => ?_)
                          refine goes_ Tryd.func67 (by kernel_rfl) rfl #[.int .i64 x172001_3] (by rfl) rfl rfl (by (try simp only [List.map_toArray, List.map_cons, List.map_nil]); first | done | rfl | (simp only [List.length_drop, List.length_take]; rfl)) ?_
                          with_reducible refine (stilemanref03_Text.calls k3 x172001_3 t184 _ A66.out).mono ?_
                          rintro e w69 ⟨rfl, hb⟩
                          have HS5_ := (hb.cell (World.block_lt_of_cell? _ _ (hHeld.2.2.2.2.2))).trans (hHeld.2.2.2.2.2)
                          refine ⟨_, rfl, ?_⟩
                          have n0_ := Aside0.mk (Kd.R_below (by (with_reducible repeat (first | apply Kd.R_alloc | apply Kd.R_drewN | apply Kd.R_drew)); exact HO_4.out) hb)
                          have n1_ := Aside0.mk (blk_below (g := gb167) (o := .cells #[.int .i64 x168000_3, .int .i64 x168001_3, .int .u32 x168002_3, .int .u32 x168003_3, .int .u32 x168004_3] 48 (0, 0)) (by (with_reducible repeat (first | refine blk_drewN ?_ _ | refine blk_drew ?_ | refine blk_alloc ?_ _)); exact BK167.out) hb)
                          have n2_ := Aside0.mk (blk_below (g := gb171) (o := .cells #[.int .i64 x172000_1, .int .i64 x172001_3, .int .u32 0, .int .u32 0, .int .u32 0] 48 (0, 0)) (by (with_reducible repeat (first | refine blk_drewN ?_ _ | refine blk_drew ?_ | refine blk_alloc ?_ _)); exact BK171.out) hb)
                          have n3_ := Aside0.mk (below_step (by repeat (first | (with_reducible first | exact HB.out | apply below_alloc | apply pw_below_drewN | apply below_drew1 | refine below_set ?_ GE167.out | refine below_set ?_ GE171.out) | exact HB.out)) hb)
                          clear HO_4
                          clear BK167
                          clear BK171
                          clear HB
                          have HO_4 := n0_
                          have BK167 := n1_
                          have BK171 := n2_
                          have HB := n3_
                          clear n0_ n1_ n2_ n3_
                          (try clear hb)
                          (try clear hb2)
                          (try clear hk)
                          (try clear hi)
                          refine hK.out _ _ ⟨(blk_cell BK171.out 0).trans rfl, (blk_cell BK171.out 1).trans rfl, (blk_cell BK171.out 2).trans rfl, (blk_cell BK171.out 3).trans rfl, (blk_cell BK171.out 4).trans rfl, HS5_⟩ (fun hHeld => ?_)
                          clear hK K
                          refine norm_ (a' := ?_) ?_ ?_
                          rotate_left
                          · show Act.put _ (some 93) _ = _
                            simp only [Act.put, List.setIfInBounds_toArray, List.set_cons_zero, List.set_cons_succ, i64_w, i32_w]
                            rfl
                          refine pure_ (i := 6) (N := some 97) (v := ?_) (a' := ?_) #[true, true, true, true, true, true, true, false, false, false, false, false] rfl rfl (any_of HT_.out (by kernel_rfl)) (fun _ _ _ h => h) (Or.inl ⟨by rfl, ?_⟩) ?_ ?_
                          rotate_left
                          · intro w'
                            go_simp
                            with_reducible rfl
                          rotate_left
                          · simp only [Act.put, List.setIfInBounds_toArray, List.set_cons_zero, List.set_cons_succ, i64_w, i32_w]
                            rfl
                          refine pure_ (i := 7) (N := some 98) (v := ?_) (a' := ?_) #[true, true, true, true, true, true, true, true, false, false, false, false] rfl rfl (any_of HT_.out (by kernel_rfl)) (fun _ _ _ h => h) (Or.inl ⟨by rfl, ?_⟩) ?_ ?_
                          rotate_left
                          · intro w'
                            go_simp
                            with_reducible rfl
                          rotate_left
                          · simp only [Act.put, List.setIfInBounds_toArray, List.set_cons_zero, List.set_cons_succ, i64_w, i32_w]
                            rfl
                          refine pure_ (i := 8) (N := some 99) (v := ?_) (a' := ?_) #[true, true, true, true, true, true, true, true, true, false, false, false] rfl rfl (any_of HT_.out (by kernel_rfl)) (fun _ _ _ h => h) (Or.inl ⟨by rfl, ?_⟩) ?_ ?_
                          rotate_left
                          · intro w'
                            go_simp
                            with_reducible rfl
                          rotate_left
                          · simp only [Act.put, List.setIfInBounds_toArray, List.set_cons_zero, List.set_cons_succ, i64_w, i32_w]
                            rfl
                          refine take_ (i := 9) (N := some 100) (v := ?_) (a' := ?_) #[true, true, true, true, true, true, true, true, true, true, false, false] rfl rfl (take_ofW HT_.out HW_.out (by kernel_rfl)) (fun _ _ _ h => h) (Or.inl ⟨by rfl, ?_⟩) hHeld ?_ ?_
                          rotate_left
                          · rintro w' ⟨s0, s1, s2, s3, s4, s5⟩
                            go_simp
                            with_reducible rfl
                          rotate_left
                          · simp only [Act.put, List.setIfInBounds_toArray, List.set_cons_zero, List.set_cons_succ, i64_w, i32_w]
                            rfl
                          refine pure_ (i := 10) (N := some 101) (v := ?_) (a' := ?_) #[true, true, true, true, true, true, true, true, true, true, true, false] rfl rfl (any_of HT_.out (by kernel_rfl)) (fun _ _ _ h => h) (Or.inl ⟨by rfl, ?_⟩) ?_ ?_
                          rotate_left
                          · intro w'
                            go_simp
                            with_reducible rfl
                          rotate_left
                          · simp only [Act.put, List.setIfInBounds_toArray, List.set_cons_zero, List.set_cons_succ, i64_w, i32_w]
                            rfl
                          refine pure_ (i := 11) (N := some 102) (v := ?_) (a' := ?_) #[true, true, true, true, true, true, true, true, true, true, true, true] rfl rfl (any_of HT_.out (by kernel_rfl)) (fun _ _ _ h => h) (Or.inl ⟨by rfl, ?_⟩) ?_ ?_
                          rotate_left
                          · intro w'
                            go_simp
                            with_reducible rfl
                          rotate_left
                          · simp only [Act.put, List.setIfInBounds_toArray, List.set_cons_zero, List.set_cons_succ, i64_w, i32_w]
                            rfl
                          refine done_ (done_of HT_.out (by kernel_rfl)) ?_
                          try go_wp2
                          go_meet
                          case rel => exact ⟨_, (decide (x172001_3 > 1023)), (by first | rfl | (simp; done) | (simp [*]; done)), H', ⟨by have := HK1.out; have := HJ17.out; have := HK3.out; first | omega | exact Nat.le_refl _⟩, ⟨by (with_reducible repeat (first | apply Kd.R_alloc | apply Kd.R_drewN | apply Kd.R_drew)); exact HO_4.out⟩, ⟨by (with_reducible repeat (first | refine blk_drewN ?_ _ | refine blk_drew ?_ | refine blk_alloc ?_ _)); exact BK167.out⟩, ⟨by (with_reducible repeat (first | refine blk_drewN ?_ _ | refine blk_drew ?_ | refine blk_alloc ?_ _)); exact BK171.out⟩, ⟨by repeat (first | (with_reducible first | exact HB.out | apply below_alloc | apply pw_below_drewN | apply below_drew1 | refine below_set ?_ GE167.out | refine below_set ?_ GE171.out) | exact HB.out)⟩⟩
                        · rw [if_neg c67] at H
                          have c67b0 : (t184.toList == (rdOf ByteArray.empty t168 1).toList) = false := beq_eq_false_iff_ne.mpr c67
                          have c67b1 : (t184.toList != (rdOf ByteArray.empty t168 1).toList) = true := bne_iff_ne.mpr c67
                          (first | rw [c67b0] | (simp only [i64_w, i32_w]; rw [c67b0]) | skip)
                          have H' := Aside0.mk H
                          clear H
                          try go_wp2
                          have n0_ := Aside0.mk (Kd.R_drew HO_4.out)
                          have n1_ := Aside0.mk (blk_drew BK167.out)
                          have n2_ := Aside0.mk (blk_drew BK171.out)
                          have n3_ := Aside0.mk (below_drew1 HB.out)
                          clear HO_4
                          clear BK167
                          clear BK171
                          clear HB
                          have HO_4 := n0_
                          have BK167 := n1_
                          have BK171 := n2_
                          have HB := n3_
                          clear n0_ n1_ n2_ n3_
                          have p185 : 0 ≤ (1 : Int) := (by omega)
                          have q185 : 1 < (t168.length : Int) := of_decide_eq_true (by first | (with_reducible assumption) | assumption)
                          obtain ⟨ad185, e185, hx185_0⟩ := Kd.at_string (Kd.R_reads' HO_4.out).2.2 1 p185 q185
                          obtain rfl : ad180 = ad185 := (by injection e185)
                          (try simp only [show (1 : Int).toNat = 1 from rfl, Nat.reduceMul, Nat.reduceEqDiff, Go.Addr.add, ↓reduceIte] at hx185_0)
                          have qi185 : (1 < t168.length) = True := eq_true (by omega)
                          (try rw [show ((1 : Int)).toNat = 1 from rfl] at hx185_0)
                          replace p185 := eq_true p185
                          replace q185 := eq_true q185
                          refine start_ (n := 12) (S := fun w' => w'.cell? ⟨gb171, 0, none⟩ = some (.int .i64 x172000_1) ∧ w'.cell? ⟨gb171, 1, none⟩ = some (.int .i64 x172001_3) ∧ w'.cell? ⟨gb171, 2, none⟩ = some (.int .u32 0) ∧ w'.cell? ⟨gb171, 3, none⟩ = some (.int .u32 0) ∧ w'.cell? ⟨gb171, 4, none⟩ = some (.int .u32 0) ∧ w'.cell? ⟨ad180.block, ad180.off + 1, none⟩ = some (.string (rdOf ByteArray.empty t168 1))) (ds := []) #[false, false, false, false, false, false, false, false, false, false, false, false] (by kernel_rfl) rfl rfl ⟨(blk_cell BK171.out 0).trans rfl, (blk_cell BK171.out 1).trans rfl, (blk_cell BK171.out 2).trans rfl, (blk_cell BK171.out 3).trans rfl, (blk_cell BK171.out 4).trans rfl, hx185_0⟩ (fun hHeld => ?_); refine with_tabW stilemanref04_Parse.tab17 stilemanref04_Parse.bits17 (fun HT_ HW_ => ?_)
                          generalize wr.drew = w70 at HO_4 BK167 BK171 HB hx185_0 hHeld ⊢
                          refine pure_ (i := 0) (N := some 91) (v := ?_) (a' := ?_) #[true, false, false, false, false, false, false, false, false, false, false, false] rfl rfl (any_of HT_.out (by kernel_rfl)) (fun _ _ _ h => h) (Or.inl ⟨by rfl, ?_⟩) ?_ ?_
                          rotate_left
                          · intro w'
                            go_simp
                            with_reducible rfl
                          rotate_left
                          · simp only [Act.put, List.setIfInBounds_toArray, List.set_cons_zero, List.set_cons_succ, i64_w, i32_w]
                            rfl
                          refine pure_ (i := 3) (N := some 94) (v := ?_) (a' := ?_) #[true, false, false, true, false, false, false, false, false, false, false, false] rfl rfl (any_of HT_.out (by kernel_rfl)) (fun _ _ _ h => h) (Or.inl ⟨by rfl, ?_⟩) ?_ ?_
                          rotate_left
                          · intro w'
                            go_simp
                            with_reducible rfl
                          rotate_left
                          · simp only [Act.put, List.setIfInBounds_toArray, List.set_cons_zero, List.set_cons_succ, i64_w, i32_w]
                            rfl
                          refine pure_ (i := 4) (N := some 95) (v := ?_) (a' := ?_) #[true, false, false, true, true, false, false, false, false, false, false, false] rfl rfl (any_of HT_.out (by kernel_rfl)) (fun _ _ _ h => h) (Or.inl ⟨by rfl, ?_⟩) ?_ ?_
                          rotate_left
                          · intro w'
                            go_simp
                            with_reducible rfl
                          rotate_left
                          · simp only [Act.put, List.setIfInBounds_toArray, List.set_cons_zero, List.set_cons_succ, i64_w, i32_w]
                            rfl
                          refine take_ (i := 1) (N := some 92) (v := ?_) (a' := ?_) #[true, true, false, true, true, false, false, false, false, false, false, false] rfl rfl (take_ofW HT_.out HW_.out (by kernel_rfl)) (fun _ _ _ h => h) (Or.inl ⟨by rfl, ?_⟩) hHeld ?_ ?_
                          rotate_left
                          · rintro w' ⟨s0, s1, s2, s3, s4, s5⟩
                            go_simp
                            with_reducible rfl
                          rotate_left
                          · simp only [Act.put, List.setIfInBounds_toArray, List.set_cons_zero, List.set_cons_succ, i64_w, i32_w]
                            rfl
                          refine take_ (i := 5) (N := some 96) (v := ?_) (a' := ?_) #[true, true, false, true, true, true, false, false, false, false, false, false] rfl rfl (take_ofW HT_.out HW_.out (by kernel_rfl)) (fun _ _ _ h => h) (Or.inl ⟨by rfl, ?_⟩) hHeld ?_ ?_
                          rotate_left
                          · rintro w' ⟨s0, s1, s2, s3, s4, s5⟩
                            go_simp
                            with_reducible rfl
                          rotate_left
                          · simp only [Act.put, List.setIfInBounds_toArray, List.set_cons_zero, List.set_cons_succ, i64_w, i32_w]
                            rfl
                          refine one_ (i := 2) (N := some 93) #[true, true, true, true, true, true, false, false, false, false, false, false] rfl rfl (one_of HT_.out (by kernel_rfl)) (by decide) (fun K hK => ?_)
                          refine goes_ Tryd.func67 (by kernel_rfl) rfl #[.int .i64 x172001_3] (by rfl) rfl rfl (by (try simp only [List.map_toArray, List.map_cons, List.map_nil]); first | done | rfl | (simp only [List.length_drop, List.length_take]; rfl)) ?_
                          with_reducible refine (stilemanref03_Text.calls k3 x172001_3 t184 _ A66.out).mono ?_
                          rintro e w71 ⟨rfl, hb⟩
                          have HS5_ := (hb.cell (World.block_lt_of_cell? _ _ (hHeld.2.2.2.2.2))).trans (hHeld.2.2.2.2.2)
                          refine ⟨_, rfl, ?_⟩
                          have n0_ := Aside0.mk (Kd.R_below (by (with_reducible repeat (first | apply Kd.R_alloc | apply Kd.R_drewN | apply Kd.R_drew)); exact HO_4.out) hb)
                          have n1_ := Aside0.mk (blk_below (g := gb167) (o := .cells #[.int .i64 x168000_3, .int .i64 x168001_3, .int .u32 x168002_3, .int .u32 x168003_3, .int .u32 x168004_3] 48 (0, 0)) (by (with_reducible repeat (first | refine blk_drewN ?_ _ | refine blk_drew ?_ | refine blk_alloc ?_ _)); exact BK167.out) hb)
                          have n2_ := Aside0.mk (blk_below (g := gb171) (o := .cells #[.int .i64 x172000_1, .int .i64 x172001_3, .int .u32 0, .int .u32 0, .int .u32 0] 48 (0, 0)) (by (with_reducible repeat (first | refine blk_drewN ?_ _ | refine blk_drew ?_ | refine blk_alloc ?_ _)); exact BK171.out) hb)
                          have n3_ := Aside0.mk (below_step (by repeat (first | (with_reducible first | exact HB.out | apply below_alloc | apply pw_below_drewN | apply below_drew1 | refine below_set ?_ GE167.out | refine below_set ?_ GE171.out) | exact HB.out)) hb)
                          clear HO_4
                          clear BK167
                          clear BK171
                          clear HB
                          have HO_4 := n0_
                          have BK167 := n1_
                          have BK171 := n2_
                          have HB := n3_
                          clear n0_ n1_ n2_ n3_
                          (try clear hb)
                          (try clear hb2)
                          (try clear hk)
                          (try clear hi)
                          refine hK.out _ _ ⟨(blk_cell BK171.out 0).trans rfl, (blk_cell BK171.out 1).trans rfl, (blk_cell BK171.out 2).trans rfl, (blk_cell BK171.out 3).trans rfl, (blk_cell BK171.out 4).trans rfl, HS5_⟩ (fun hHeld => ?_)
                          clear hK K
                          refine norm_ (a' := ?_) ?_ ?_
                          rotate_left
                          · show Act.put _ (some 93) _ = _
                            simp only [Act.put, List.setIfInBounds_toArray, List.set_cons_zero, List.set_cons_succ, i64_w, i32_w]
                            rfl
                          refine pure_ (i := 6) (N := some 97) (v := ?_) (a' := ?_) #[true, true, true, true, true, true, true, false, false, false, false, false] rfl rfl (any_of HT_.out (by kernel_rfl)) (fun _ _ _ h => h) (Or.inl ⟨by rfl, ?_⟩) ?_ ?_
                          rotate_left
                          · intro w'
                            go_simp
                            with_reducible rfl
                          rotate_left
                          · simp only [Act.put, List.setIfInBounds_toArray, List.set_cons_zero, List.set_cons_succ, i64_w, i32_w]
                            rfl
                          refine pure_ (i := 7) (N := some 98) (v := ?_) (a' := ?_) #[true, true, true, true, true, true, true, true, false, false, false, false] rfl rfl (any_of HT_.out (by kernel_rfl)) (fun _ _ _ h => h) (Or.inl ⟨by rfl, ?_⟩) ?_ ?_
                          rotate_left
                          · intro w'
                            go_simp
                            with_reducible rfl
                          rotate_left
                          · simp only [Act.put, List.setIfInBounds_toArray, List.set_cons_zero, List.set_cons_succ, i64_w, i32_w]
                            rfl
                          refine pure_ (i := 8) (N := some 99) (v := undef) (a' := ?_) #[true, true, true, true, true, true, true, true, true, false, false, false] rfl rfl (any_of HT_.out (by kernel_rfl)) (fun _ _ _ h => h) (Or.inr ⟨by rfl, rfl⟩) ?_ ?_
                          rotate_left
                          · simp only [Act.put, List.setIfInBounds_toArray, List.set_cons_zero, List.set_cons_succ, i64_w, i32_w]
                            rfl
                          refine pure_ (i := 9) (N := some 100) (v := undef) (a' := ?_) #[true, true, true, true, true, true, true, true, true, true, false, false] rfl rfl (any_of HT_.out (by kernel_rfl)) (fun _ _ _ h => h) (Or.inr ⟨by rfl, rfl⟩) ?_ ?_
                          rotate_left
                          · simp only [Act.put, List.setIfInBounds_toArray, List.set_cons_zero, List.set_cons_succ, i64_w, i32_w]
                            rfl
                          refine pure_ (i := 10) (N := some 101) (v := undef) (a' := ?_) #[true, true, true, true, true, true, true, true, true, true, true, false] rfl rfl (any_of HT_.out (by kernel_rfl)) (fun _ _ _ h => h) (Or.inr ⟨by rfl, rfl⟩) ?_ ?_
                          rotate_left
                          · simp only [Act.put, List.setIfInBounds_toArray, List.set_cons_zero, List.set_cons_succ, i64_w, i32_w]
                            rfl
                          refine pure_ (i := 11) (N := some 102) (v := ?_) (a' := ?_) #[true, true, true, true, true, true, true, true, true, true, true, true] rfl rfl (any_of HT_.out (by kernel_rfl)) (fun _ _ _ h => h) (Or.inl ⟨by rfl, ?_⟩) ?_ ?_
                          rotate_left
                          · intro w'
                            go_simp
                            with_reducible rfl
                          rotate_left
                          · simp only [Act.put, List.setIfInBounds_toArray, List.set_cons_zero, List.set_cons_succ, i64_w, i32_w]
                            rfl
                          refine done_ (done_of HT_.out (by kernel_rfl)) ?_
                          try go_wp2
                          go_meet
                          case rel => exact ⟨_, (true), (by first | rfl | (simp; done) | (simp [*]; done)), H', ⟨by have := HK1.out; have := HJ17.out; have := HK3.out; first | omega | exact Nat.le_refl _⟩, ⟨by (with_reducible repeat (first | apply Kd.R_alloc | apply Kd.R_drewN | apply Kd.R_drew)); exact HO_4.out⟩, ⟨by (with_reducible repeat (first | refine blk_drewN ?_ _ | refine blk_drew ?_ | refine blk_alloc ?_ _)); exact BK167.out⟩, ⟨by (with_reducible repeat (first | refine blk_drewN ?_ _ | refine blk_drew ?_ | refine blk_alloc ?_ _)); exact BK171.out⟩, ⟨by repeat (first | (with_reducible first | exact HB.out | apply below_alloc | apply pw_below_drewN | apply below_drew1 | refine below_set ?_ GE167.out | refine below_set ?_ GE171.out) | exact HB.out)⟩⟩
                      case rest =>
                        clear HC64
                        try clear p1
                        try clear q1
                        try clear hx1
                        try clear qi1
                        try clear p2
                        try clear c4
                        try clear c5
                        try clear p5
                        try clear q5
                        try clear hx5
                        try clear c6
                        try clear p6
                        try clear q6
                        try clear hx6
                        try clear p18
                        try clear q18
                        try clear hx18
                        try clear qi18
                        try clear c48
                        try clear c48b0
                        try clear c49
                        try clear p50
                        try clear q50
                        try clear hx50
                        try clear c51
                        try clear c51b0
                        try clear c53
                        try clear p55
                        try clear q55
                        try clear hx55
                        try clear c56
                        try clear c56b0
                        try clear c58
                        try clear p60
                        try clear q60
                        try clear hx60
                        try clear p64
                        try clear c67
                        try clear c67b0
                        try clear c67b1
                        try clear hcz54_0
                        try clear hcz54_1
                        try clear hcz54_2
                        try clear hcz54_3
                        try clear hcz54_4
                        try clear hcz59_0
                        try clear hcz59_1
                        try clear hcz59_2
                        try clear hcz59_3
                        try clear hcz59_4
                        try clear hfz54_0
                        try clear hfz54_1
                        try clear hfz54_2
                        try clear hfz54_3
                        try clear hfz54_4
                        try clear hfz59_0
                        try clear hfz59_1
                        try clear hfz59_2
                        try clear hfz59_3
                        try clear hfz59_4
                        try clear hx180_0
                        try clear hx181_0
                        try clear hx182_0
                        try clear hx183_0
                        try clear hx185_0
                        try clear p180
                        try clear p181
                        try clear p182
                        try clear p183
                        try clear p185
                        try clear p50
                        try clear p55
                        try clear p60
                        try clear q180
                        try clear q181
                        try clear q182
                        try clear q183
                        try clear q185
                        try clear q50
                        try clear q55
                        try clear q60
                        obtain ⟨kq, x102_63, rfl, HA, HJ63, HO_4, BK167, BK171, HB⟩ := hcut
                        cases kq with
                        | zero => exact absurd HA.out (by simp [stilemanref04_Parse.j3])
                        | succ kj63 =>
                          have H := HA.out
                          clear HA
                          simp only [stilemanref04_Parse.j3] at H
                          by_cases c72 : x102_63 = true
                          · subst c72
                            have H1 : (some (0, 0, 0, 0, 0, 4)) = some (r1, r2, r3, r4, r5, r6) := by rw [if_pos rfl] at H; exact H
                            clear H
                            have H := H1
                            clear H1
                            simp only [Option.some.injEq, Prod.mk.injEq] at H
                            obtain ⟨rfl, rfl, rfl, rfl, rfl, rfl⟩ := H
                            have hnb73 := NB167_171.out
                            have hnc73 := NB171_167.out
                            have hcz74_0 : wc.cell? ⟨gb167, 0, none⟩ = some (.int .i64 x168000_3) := (blk_cell BK167.out 0).trans rfl
                            have hcz74_1 : wc.cell? ⟨gb167, 1, none⟩ = some (.int .i64 x168001_3) := (blk_cell BK167.out 1).trans rfl
                            have hcz74_2 : wc.cell? ⟨gb167, 2, none⟩ = some (.int .u32 x168002_3) := (blk_cell BK167.out 2).trans rfl
                            have hcz74_3 : wc.cell? ⟨gb167, 3, none⟩ = some (.int .u32 x168003_3) := (blk_cell BK167.out 3).trans rfl
                            have hcz74_4 : wc.cell? ⟨gb167, 4, none⟩ = some (.int .u32 x168004_3) := (blk_cell BK167.out 4).trans rfl
                            have hfz74_0 := blk_frozen BK167.out 0
                            have hfz74_1 := blk_frozen BK167.out 1
                            have hfz74_2 := blk_frozen BK167.out 2
                            have hfz74_3 := blk_frozen BK167.out 3
                            have hfz74_4 := blk_frozen BK167.out 4
                            go_wp2
                            refine bodyPost_ret (results_ct rfl _ _ gb167 48 #[.int .i64 0, .int .i64 0, .int .u32 0, .int .u32 0, .int .u32 0] (0, 0) _ rfl (by (with_reducible repeat (first | refine blk_drewN ?_ _ | refine blk_drew ?_ | refine blk_alloc ?_ _)); refine blk_put (cs := #[.int .i64 0, .int .i64 0, .int .u32 0, .int .u32 0, .int .u32 x168004_3]) ?_ 4 _ rfl; (with_reducible repeat (first | refine blk_drewN ?_ _ | refine blk_drew ?_ | refine blk_alloc ?_ _)); refine blk_put (cs := #[.int .i64 0, .int .i64 0, .int .u32 0, .int .u32 x168003_3, .int .u32 x168004_3]) ?_ 3 _ rfl; (with_reducible repeat (first | refine blk_drewN ?_ _ | refine blk_drew ?_ | refine blk_alloc ?_ _)); refine blk_put (cs := #[.int .i64 0, .int .i64 0, .int .u32 x168002_3, .int .u32 x168003_3, .int .u32 x168004_3]) ?_ 2 _ rfl; (with_reducible repeat (first | refine blk_drewN ?_ _ | refine blk_drew ?_ | refine blk_alloc ?_ _)); refine blk_put (cs := #[.int .i64 0, .int .i64 x168001_3, .int .u32 x168002_3, .int .u32 x168003_3, .int .u32 x168004_3]) ?_ 1 _ rfl; (with_reducible repeat (first | refine blk_drewN ?_ _ | refine blk_drew ?_ | refine blk_alloc ?_ _)); refine blk_put (cs := #[.int .i64 x168000_3, .int .i64 x168001_3, .int .u32 x168002_3, .int .u32 x168003_3, .int .u32 x168004_3]) ?_ 0 _ rfl; (with_reducible repeat (first | refine blk_drewN ?_ _ | refine blk_drew ?_ | refine blk_alloc ?_ _)); exact BK167.out) Tryd.underlying48 rfl (by kernel_rfl)) rfl ?_
                            exact ⟨by first | rfl | (simp [errW_none, errW_some] <;> rfl) | (simp [*, errW_none, errW_some] <;> rfl), by repeat (first | (with_reducible first | exact HB.out | apply below_alloc | apply pw_below_drewN | apply below_drew1 | refine below_set ?_ GE167.out | refine below_set ?_ GE171.out) | exact HB.out)⟩
                          · replace c72 := Bool.eq_false_iff.mpr c72
                            subst c72
                            have H1 : (if 0 ≤ (wrap64 ((t168.length : Int) - 1)) then (if (wrap64 ((t168.length : Int) - 1)) < (t168.length : Int) then ((stilemanref04_hex.f kj63 (rdOf ByteArray.empty t168 (wrap64 ((t168.length : Int) - 1)))).bind fun bt187 => (if bt187.2 = true then (if x172000_1 = 1 then (stilemanref04_Parse.j4 kj63 t168 x172000_1 x172001_3 0 0 bt187.1) else (if 2 < (t168.length : Int) then ((stilemanref04_hex.f kj63 (rdOf ByteArray.empty t168 2)).bind fun bt190 => (if bt190.2 = true then (stilemanref04_Parse.j4 kj63 t168 x172000_1 x172001_3 bt190.1 0 bt187.1) else (some (0, 0, 0, 0, 0, 4)))) else (none))) else (some (0, 0, 0, 0, 0, 4)))) else (none)) else (none)) = some (r1, r2, r3, r4, r5, r6) := by rw [if_neg (show ¬ (false = true) by decide)] at H; exact H
                            clear H
                            have H := H1
                            clear H1
                            obtain ⟨ji75, hji75⟩ : ∃ j_ : Int, (wrap64 ((t168.length : Int) - 1)) = j_ := ⟨_, rfl⟩
                            replace H : (if 0 ≤ (ji75) then (if (ji75) < (t168.length : Int) then ((stilemanref04_hex.f kj63 (rdOf ByteArray.empty t168 (ji75))).bind fun bt187 => (if bt187.2 = true then (if x172000_1 = 1 then (stilemanref04_Parse.j4 kj63 t168 x172000_1 x172001_3 0 0 bt187.1) else (if 2 < (t168.length : Int) then ((stilemanref04_hex.f kj63 (rdOf ByteArray.empty t168 2)).bind fun bt190 => (if bt190.2 = true then (stilemanref04_Parse.j4 kj63 t168 x172000_1 x172001_3 bt190.1 0 bt187.1) else (some (0, 0, 0, 0, 0, 4)))) else (none))) else (some (0, 0, 0, 0, 0, 4)))) else (none)) else (none)) = some (r1, r2, r3, r4, r5, r6) := by first | (rw [hji75] at H; exact H) | (simp only [hji75] at H ⊢; exact H)
                            have hji75w : (IntKind.i64.wrap ((t168.length : Int) - 1)) = ji75 := (i64_w _).trans hji75
                            by_cases c76 : 0 ≤ (ji75)
                            · rw [if_pos c76] at H
                              have c76b0 : decide (0 ≤ (ji75)) = true := decide_eq_true c76
                              clear c76
                              by_cases c77 : (ji75) < (t168.length : Int)
                              · rw [if_pos c77] at H
                                have c77b0 : decide ((ji75) < (t168.length : Int)) = true := decide_eq_true c77
                                clear c77
                                replace H := Option.bind_eq_some_iff.mp H
                                obtain ⟨⟨t187, t188⟩, A780, H⟩ := H
                                replace H : (if t188 = true then (if x172000_1 = 1 then (stilemanref04_Parse.j4 kj63 t168 x172000_1 x172001_3 0 0 t187) else (if 2 < (t168.length : Int) then ((stilemanref04_hex.f kj63 (rdOf ByteArray.empty t168 2)).bind fun bt190 => (if bt190.2 = true then (stilemanref04_Parse.j4 kj63 t168 x172000_1 x172001_3 bt190.1 0 t187) else (some (0, 0, 0, 0, 0, 4)))) else (none))) else (some (0, 0, 0, 0, 0, 4))) = some (r1, r2, r3, r4, r5, r6) := H
                                have A78 := Aside0.mk A780
                                clear A780
                                by_cases c79 : t188 = true
                                · subst c79
                                  have H1 : (if x172000_1 = 1 then (stilemanref04_Parse.j4 kj63 t168 x172000_1 x172001_3 0 0 t187) else (if 2 < (t168.length : Int) then ((stilemanref04_hex.f kj63 (rdOf ByteArray.empty t168 2)).bind fun bt190 => (if bt190.2 = true then (stilemanref04_Parse.j4 kj63 t168 x172000_1 x172001_3 bt190.1 0 t187) else (some (0, 0, 0, 0, 0, 4)))) else (none))) = some (r1, r2, r3, r4, r5, r6) := by rw [if_pos rfl] at H; exact H
                                  clear H
                                  have H := H1
                                  clear H1
                                  have HC80 := Aside0.mk H
                                  clear H
                                  have p186 : 0 ≤ ((ji75) : Int) := of_decide_eq_true (by first | (with_reducible assumption) | assumption)
                                  have q186 : (ji75) < (t168.length : Int) := of_decide_eq_true (by first | (with_reducible assumption) | assumption)
                                  obtain ⟨ad186, e186, hx186_0⟩ := Kd.at_string (Kd.R_reads' HO_4.out).2.2 (ji75) p186 q186
                                  obtain rfl : ad180 = ad186 := (by injection e186)
                                  replace p186 := eq_true p186
                                  replace q186 := eq_true q186
                                  go_upto_if 120 with (first | ((with_reducible refine gate_callee (f := 84) rfl ?_); refine goesL_ (some 111) rfl rfl Tryd.func84 (by kernel_rfl) rfl #[.string (rdOf ByteArray.empty t168 (ji75))] rfl (by (try simp only [List.map_toArray, List.map_cons, List.map_nil]); first | done | (simp only [hji75]; rfl) | rfl | (simp only [List.length_drop, List.length_take]; rfl)) ?_; (with_reducible refine (stilemanref04_hex.calls kj63 (rdOf ByteArray.empty t168 (ji75)) t187 true _ A78.out).mono ?_); rintro e w' ⟨rfl, ⟨nd, rfl⟩⟩; refine ⟨_, rfl, ?_⟩; (try (rw [drewN_self wc]; generalize hq_ : World.drewN wc _ = wc; have n0_ : Aside0 (Kd.R Kd.string 9 wc w.heap.size (fun _ => True) (.slice (some ad180) t168.length co65) t168) := ⟨by rw [← hq_]; exact (by (with_reducible repeat (first | apply Kd.R_alloc | apply Kd.R_drewN | apply Kd.R_drew)); exact HO_4.out)⟩; have n1_ : Aside0 (wc.heap[gb167]? = some (.cells #[.int .i64 x168000_3, .int .i64 x168001_3, .int .u32 x168002_3, .int .u32 x168003_3, .int .u32 x168004_3] 48 (0, 0))) := ⟨by rw [← hq_]; exact (by (with_reducible repeat (first | refine blk_drewN ?_ _ | refine blk_drew ?_ | refine blk_alloc ?_ _)); exact BK167.out)⟩; have n2_ : Aside0 (wc.heap[gb171]? = some (.cells #[.int .i64 x172000_1, .int .i64 x172001_3, .int .u32 0, .int .u32 0, .int .u32 0] 48 (0, 0))) := ⟨by rw [← hq_]; exact (by (with_reducible repeat (first | refine blk_drewN ?_ _ | refine blk_drew ?_ | refine blk_alloc ?_ _)); exact BK171.out)⟩; have n3_ : Aside0 (Below w.heap.size w wc) := ⟨by rw [← hq_]; exact (by repeat (first | (with_reducible first | exact HB.out | apply below_alloc | apply pw_below_drewN | apply below_drew1 | refine below_set ?_ GE167.out | refine below_set ?_ GE171.out) | exact HB.out))⟩; clear HO_4 BK167 BK171 HB hq_; have HO_4 := n0_; have BK167 := n1_; have BK171 := n2_; have HB := n3_; clear n0_ n1_ n2_ n3_)); have hnb81 := NB171_167.out; have hnc81 := NB167_171.out; have hcz82_0 : wc.cell? ⟨gb171, 0, none⟩ = some (.int .i64 x172000_1) := (blk_cell BK171.out 0).trans rfl; have hcz82_1 : wc.cell? ⟨gb171, 1, none⟩ = some (.int .i64 x172001_3) := (blk_cell BK171.out 1).trans rfl; have hcz82_2 : wc.cell? ⟨gb171, 2, none⟩ = some (.int .u32 0) := (blk_cell BK171.out 2).trans rfl; have hcz82_3 : wc.cell? ⟨gb171, 3, none⟩ = some (.int .u32 0) := (blk_cell BK171.out 3).trans rfl; have hcz82_4 : wc.cell? ⟨gb171, 4, none⟩ = some (.int .u32 0) := (blk_cell BK171.out 4).trans rfl; have hfz82_0 := blk_frozen BK171.out 0; have hfz82_1 := blk_frozen BK171.out 1; have hfz82_2 := blk_frozen BK171.out 2; have hfz82_3 := blk_frozen BK171.out 3; have hfz82_4 := blk_frozen BK171.out 4))
                                  (try simp only [Act.put, List.setIfInBounds_toArray, List.set_cons_zero, List.set_cons_succ])
                                  go_cut [] (fun wc => ∃ (kq : Nat) (x168000_79 : Int) (x168001_79 : Int) (x168002_79 : Int) (x168003_79 : Int) (x168004_79 : Int) (x172002_79 : Int), Aside0 (stilemanref04_Parse.j4 kq t168 x172000_1 x172001_3 x172002_79 0 t187 = some (r1, r2, r3, r4, r5, r6)) ∧ Aside0 (kq ≤ kj63) ∧ Aside0 (Kd.R Kd.string 9 wc w.heap.size (fun _ => True) (.slice (some ad180) t168.length co65) t168) ∧ Aside0 (wc.heap[gb167]? = some (.cells #[.int .i64 x168000_79, .int .i64 x168001_79, .int .u32 x168002_79, .int .u32 x168003_79, .int .u32 x168004_79] 48 (0, 0))) ∧ Aside0 (wc.heap[gb171]? = some (.cells #[.int .i64 x172000_1, .int .i64 x172001_3, .int .u32 x172002_79, .int .u32 0, .int .u32 t187] 48 (0, 0))) ∧ Aside0 (Below w.heap.size w wc))
                                  case first =>
                                    have H := HC80.out
                                    clear HC80
                                    by_cases c83 : x172000_1 = 1
                                    · rw [if_pos c83] at H
                                      have c83b0 : (x172000_1 == 1) = true := beq_iff_eq.mpr c83
                                      have c83b1 : (x172000_1 != 1) = false := bne_eq_false_iff_eq.mpr c83
                                      clear c83
                                      (first | rw [c83b0] | (simp only [i64_w, i32_w]; rw [c83b0]) | skip)
                                      have H' := Aside0.mk H
                                      clear H
                                      go_wp2
                                      go_meet
                                      case rel => exact ⟨_, (x168000_3), (x168001_3), (x168002_3), (x168003_3), (x168004_3), (0), H', ⟨by have := HK1.out; have := HJ17.out; have := HK3.out; have := HJ63.out; first | omega | exact Nat.le_refl _⟩, ⟨by (with_reducible repeat (first | apply Kd.R_alloc | apply Kd.R_drewN | apply Kd.R_drew)); exact Kd.R_mono (Kd.R_far (p := ⟨gb171, 4, none⟩) (Kd.R_types HO_4.out BK171.out (by decide)) (fun _ hk => hk.2) (.int .u32 t187)) (fun _ hk => trivial)⟩, ⟨by (with_reducible repeat (first | refine blk_drewN ?_ _ | refine blk_drew ?_ | refine blk_alloc ?_ _)); refine blk_far ?_ NB167_171.out _; (with_reducible repeat (first | refine blk_drewN ?_ _ | refine blk_drew ?_ | refine blk_alloc ?_ _)); exact BK167.out⟩, ⟨by (with_reducible repeat (first | refine blk_drewN ?_ _ | refine blk_drew ?_ | refine blk_alloc ?_ _)); refine blk_put (cs := #[.int .i64 x172000_1, .int .i64 x172001_3, .int .u32 0, .int .u32 0, .int .u32 0]) ?_ 4 _ rfl; (with_reducible repeat (first | refine blk_drewN ?_ _ | refine blk_drew ?_ | refine blk_alloc ?_ _)); exact BK171.out⟩, ⟨by repeat (first | (with_reducible first | exact HB.out | apply below_alloc | apply pw_below_drewN | apply below_drew1 | refine below_set ?_ GE167.out | refine below_set ?_ GE171.out) | exact HB.out)⟩⟩
                                    · rw [if_neg c83] at H
                                      have c83b0 : (x172000_1 == 1) = false := beq_eq_false_iff_ne.mpr c83
                                      have c83b1 : (x172000_1 != 1) = true := bne_iff_ne.mpr c83
                                      (first | rw [c83b0] | (simp only [i64_w, i32_w]; rw [c83b0]) | skip)
                                      by_cases c84 : 2 < (t168.length : Int)
                                      · rw [if_pos c84] at H
                                        have c84b0 : decide (2 < (t168.length : Int)) = true := decide_eq_true c84
                                        have c84b1 : decide (2 < t168.length) = true := decide_eq_true (by omega)
                                        clear c84
                                        replace H := Option.bind_eq_some_iff.mp H
                                        obtain ⟨⟨t190, t191⟩, A850, H⟩ := H
                                        replace H : (if t191 = true then (stilemanref04_Parse.j4 kj63 t168 x172000_1 x172001_3 t190 0 t187) else (some (0, 0, 0, 0, 0, 4))) = some (r1, r2, r3, r4, r5, r6) := H
                                        have A85 := Aside0.mk A850
                                        clear A850
                                        by_cases c86 : t191 = true
                                        · subst c86
                                          have H1 : (stilemanref04_Parse.j4 kj63 t168 x172000_1 x172001_3 t190 0 t187) = some (r1, r2, r3, r4, r5, r6) := by rw [if_pos rfl] at H; exact H
                                          clear H
                                          have H := H1
                                          clear H1
                                          have H' := Aside0.mk H
                                          clear H
                                          have p189 : 0 ≤ (2 : Int) := (by omega)
                                          have q189 : 2 < (t168.length : Int) := of_decide_eq_true (by first | (with_reducible assumption) | assumption)
                                          obtain ⟨ad189, e189, hx189_0⟩ := Kd.at_string (Kd.R_reads' HO_4.out).2.2 2 p189 q189
                                          obtain rfl : ad180 = ad189 := (by injection e189)
                                          (try simp only [show (2 : Int).toNat = 2 from rfl, Nat.reduceMul, Nat.reduceEqDiff, Go.Addr.add, ↓reduceIte] at hx189_0)
                                          have qi189 : (2 < t168.length) = True := eq_true (by omega)
                                          (try rw [show ((2 : Int)).toNat = 2 from rfl] at hx189_0)
                                          have hn189_0 : ad180.block ≠ gb171 := Kd.own_blk (Kd.R_ne HO_4.out BK171.out (by decide))
                                          replace hx189_0 := (cell_far (p := ⟨gb171, 4, none⟩) (by first | (rw [add_block]; exact hn189_0) | (show (Addr.add _ _).block ≠ _; rw [add_block]; exact hn189_0) | exact hn189_0) (.int .u32 t187)).trans hx189_0
                                          clear hn189_0
                                          replace p189 := eq_true p189
                                          replace q189 := eq_true q189
                                          go_wp2_with (first | ((with_reducible refine gate_callee (f := 84) rfl ?_); refine goesL_ (some 125) rfl rfl Tryd.func84 (by kernel_rfl) rfl #[.string (rdOf ByteArray.empty t168 2)] rfl (by (try simp only [List.map_toArray, List.map_cons, List.map_nil]); first | done | rfl | (simp only [List.length_drop, List.length_take]; rfl)) ?_; (with_reducible refine (stilemanref04_hex.calls kj63 (rdOf ByteArray.empty t168 2) t190 true _ A85.out).mono ?_); rintro e w' ⟨rfl, ⟨nd, rfl⟩⟩; refine ⟨_, rfl, ?_⟩; have hnb87 := NB171_167.out; have hnc87 := NB167_171.out; have hcz88_0 : wc.cell? ⟨gb171, 0, none⟩ = some (.int .i64 x172000_1) := (blk_cell BK171.out 0).trans rfl; have hcz88_1 : wc.cell? ⟨gb171, 1, none⟩ = some (.int .i64 x172001_3) := (blk_cell BK171.out 1).trans rfl; have hcz88_2 : wc.cell? ⟨gb171, 2, none⟩ = some (.int .u32 0) := (blk_cell BK171.out 2).trans rfl; have hcz88_3 : wc.cell? ⟨gb171, 3, none⟩ = some (.int .u32 0) := (blk_cell BK171.out 3).trans rfl; have hcz88_4 : wc.cell? ⟨gb171, 4, none⟩ = some (.int .u32 0) := (blk_cell BK171.out 4).trans rfl; have hfz88_0 := blk_frozen BK171.out 0; have hfz88_1 := blk_frozen BK171.out 1; have hfz88_2 := blk_frozen BK171.out 2; have hfz88_3 := blk_frozen BK171.out 3; have hfz88_4 := blk_frozen BK171.out 4))
                                          go_meet
                                          case rel => exact ⟨_, (x168000_3), (x168001_3), (x168002_3), (x168003_3), (x168004_3), (t190), H', ⟨by have := HK1.out; have := HJ17.out; have := HK3.out; have := HJ63.out; first | omega | exact Nat.le_refl _⟩, ⟨by (with_reducible repeat (first | apply Kd.R_alloc | apply Kd.R_drewN | apply Kd.R_drew)); exact Kd.R_mono (Kd.R_far (p := ⟨gb171, 2, none⟩) (Kd.R_far (p := ⟨gb171, 4, none⟩) (Kd.R_types HO_4.out BK171.out (by decide)) (fun _ hk => hk.2) (.int .u32 t187)) (fun _ hk => hk.2) (.int .u32 t190)) (fun _ hk => trivial)⟩, ⟨by (with_reducible repeat (first | refine blk_drewN ?_ _ | refine blk_drew ?_ | refine blk_alloc ?_ _)); refine blk_far ?_ NB167_171.out _; (with_reducible repeat (first | refine blk_drewN ?_ _ | refine blk_drew ?_ | refine blk_alloc ?_ _)); refine blk_far ?_ NB167_171.out _; (with_reducible repeat (first | refine blk_drewN ?_ _ | refine blk_drew ?_ | refine blk_alloc ?_ _)); exact BK167.out⟩, ⟨by (with_reducible repeat (first | refine blk_drewN ?_ _ | refine blk_drew ?_ | refine blk_alloc ?_ _)); refine blk_put (cs := #[.int .i64 x172000_1, .int .i64 x172001_3, .int .u32 0, .int .u32 0, .int .u32 t187]) ?_ 2 _ rfl; (with_reducible repeat (first | refine blk_drewN ?_ _ | refine blk_drew ?_ | refine blk_alloc ?_ _)); refine blk_put (cs := #[.int .i64 x172000_1, .int .i64 x172001_3, .int .u32 0, .int .u32 0, .int .u32 0]) ?_ 4 _ rfl; (with_reducible repeat (first | refine blk_drewN ?_ _ | refine blk_drew ?_ | refine blk_alloc ?_ _)); exact BK171.out⟩, ⟨by repeat (first | (with_reducible first | exact HB.out | apply below_alloc | apply pw_below_drewN | apply below_drew1 | refine below_set ?_ GE167.out | refine below_set ?_ GE171.out) | exact HB.out)⟩⟩
                                        · replace c86 := Bool.eq_false_iff.mpr c86
                                          subst c86
                                          have H1 : (some (0, 0, 0, 0, 0, 4)) = some (r1, r2, r3, r4, r5, r6) := by rw [if_neg (show ¬ (false = true) by decide)] at H; exact H
                                          clear H
                                          have H := H1
                                          clear H1
                                          simp only [Option.some.injEq, Prod.mk.injEq] at H
                                          obtain ⟨rfl, rfl, rfl, rfl, rfl, rfl⟩ := H
                                          have p189 : 0 ≤ (2 : Int) := (by omega)
                                          have q189 : 2 < (t168.length : Int) := of_decide_eq_true (by first | (with_reducible assumption) | assumption)
                                          obtain ⟨ad189, e189, hx189_0⟩ := Kd.at_string (Kd.R_reads' HO_4.out).2.2 2 p189 q189
                                          obtain rfl : ad180 = ad189 := (by injection e189)
                                          (try simp only [show (2 : Int).toNat = 2 from rfl, Nat.reduceMul, Nat.reduceEqDiff, Go.Addr.add, ↓reduceIte] at hx189_0)
                                          have qi189 : (2 < t168.length) = True := eq_true (by omega)
                                          (try rw [show ((2 : Int)).toNat = 2 from rfl] at hx189_0)
                                          have hn189_0 : ad180.block ≠ gb171 := Kd.own_blk (Kd.R_ne HO_4.out BK171.out (by decide))
                                          replace hx189_0 := (cell_far (p := ⟨gb171, 4, none⟩) (by first | (rw [add_block]; exact hn189_0) | (show (Addr.add _ _).block ≠ _; rw [add_block]; exact hn189_0) | exact hn189_0) (.int .u32 t187)).trans hx189_0
                                          clear hn189_0
                                          replace p189 := eq_true p189
                                          replace q189 := eq_true q189
                                          go_wp2_with (first | ((with_reducible refine gate_callee (f := 84) rfl ?_); refine goesL_ (some 125) rfl rfl Tryd.func84 (by kernel_rfl) rfl #[.string (rdOf ByteArray.empty t168 2)] rfl (by (try simp only [List.map_toArray, List.map_cons, List.map_nil]); first | done | rfl | (simp only [List.length_drop, List.length_take]; rfl)) ?_; (with_reducible refine (stilemanref04_hex.calls kj63 (rdOf ByteArray.empty t168 2) t190 false _ A85.out).mono ?_); rintro e w' ⟨rfl, ⟨nd, rfl⟩⟩; refine ⟨_, rfl, ?_⟩; have hnb89 := NB171_167.out; have hnc89 := NB167_171.out; have hcz90_0 : wc.cell? ⟨gb171, 0, none⟩ = some (.int .i64 x172000_1) := (blk_cell BK171.out 0).trans rfl; have hcz90_1 : wc.cell? ⟨gb171, 1, none⟩ = some (.int .i64 x172001_3) := (blk_cell BK171.out 1).trans rfl; have hcz90_2 : wc.cell? ⟨gb171, 2, none⟩ = some (.int .u32 0) := (blk_cell BK171.out 2).trans rfl; have hcz90_3 : wc.cell? ⟨gb171, 3, none⟩ = some (.int .u32 0) := (blk_cell BK171.out 3).trans rfl; have hcz90_4 : wc.cell? ⟨gb171, 4, none⟩ = some (.int .u32 0) := (blk_cell BK171.out 4).trans rfl; have hfz90_0 := blk_frozen BK171.out 0; have hfz90_1 := blk_frozen BK171.out 1; have hfz90_2 := blk_frozen BK171.out 2; have hfz90_3 := blk_frozen BK171.out 3; have hfz90_4 := blk_frozen BK171.out 4; have hcz91_0 : wc.cell? ⟨gb167, 0, none⟩ = some (.int .i64 x168000_3) := (blk_cell BK167.out 0).trans rfl; have hcz91_1 : wc.cell? ⟨gb167, 1, none⟩ = some (.int .i64 x168001_3) := (blk_cell BK167.out 1).trans rfl; have hcz91_2 : wc.cell? ⟨gb167, 2, none⟩ = some (.int .u32 x168002_3) := (blk_cell BK167.out 2).trans rfl; have hcz91_3 : wc.cell? ⟨gb167, 3, none⟩ = some (.int .u32 x168003_3) := (blk_cell BK167.out 3).trans rfl; have hcz91_4 : wc.cell? ⟨gb167, 4, none⟩ = some (.int .u32 x168004_3) := (blk_cell BK167.out 4).trans rfl; have hfz91_0 := blk_frozen BK167.out 0; have hfz91_1 := blk_frozen BK167.out 1; have hfz91_2 := blk_frozen BK167.out 2; have hfz91_3 := blk_frozen BK167.out 3; have hfz91_4 := blk_frozen BK167.out 4))
                                          refine bodyPost_ret (results_ct rfl _ _ gb167 48 #[.int .i64 0, .int .i64 0, .int .u32 0, .int .u32 0, .int .u32 0] (0, 0) _ rfl (by (with_reducible repeat (first | refine blk_drewN ?_ _ | refine blk_drew ?_ | refine blk_alloc ?_ _)); refine blk_put (cs := #[.int .i64 0, .int .i64 0, .int .u32 0, .int .u32 0, .int .u32 x168004_3]) ?_ 4 _ rfl; (with_reducible repeat (first | refine blk_drewN ?_ _ | refine blk_drew ?_ | refine blk_alloc ?_ _)); refine blk_put (cs := #[.int .i64 0, .int .i64 0, .int .u32 0, .int .u32 x168003_3, .int .u32 x168004_3]) ?_ 3 _ rfl; (with_reducible repeat (first | refine blk_drewN ?_ _ | refine blk_drew ?_ | refine blk_alloc ?_ _)); refine blk_put (cs := #[.int .i64 0, .int .i64 0, .int .u32 x168002_3, .int .u32 x168003_3, .int .u32 x168004_3]) ?_ 2 _ rfl; (with_reducible repeat (first | refine blk_drewN ?_ _ | refine blk_drew ?_ | refine blk_alloc ?_ _)); refine blk_put (cs := #[.int .i64 0, .int .i64 x168001_3, .int .u32 x168002_3, .int .u32 x168003_3, .int .u32 x168004_3]) ?_ 1 _ rfl; (with_reducible repeat (first | refine blk_drewN ?_ _ | refine blk_drew ?_ | refine blk_alloc ?_ _)); refine blk_put (cs := #[.int .i64 x168000_3, .int .i64 x168001_3, .int .u32 x168002_3, .int .u32 x168003_3, .int .u32 x168004_3]) ?_ 0 _ rfl; (with_reducible repeat (first | refine blk_drewN ?_ _ | refine blk_drew ?_ | refine blk_alloc ?_ _)); refine blk_far ?_ NB167_171.out _; (with_reducible repeat (first | refine blk_drewN ?_ _ | refine blk_drew ?_ | refine blk_alloc ?_ _)); refine blk_far ?_ NB167_171.out _; (with_reducible repeat (first | refine blk_drewN ?_ _ | refine blk_drew ?_ | refine blk_alloc ?_ _)); exact BK167.out) Tryd.underlying48 rfl (by kernel_rfl)) rfl ?_
                                          exact ⟨by first | rfl | (simp [errW_none, errW_some] <;> rfl) | (simp only [← hji75]; first | rfl | (simp [errW_none, errW_some] <;> rfl)) | (simp [*, errW_none, errW_some] <;> rfl), by repeat (first | (with_reducible first | exact HB.out | apply below_alloc | apply pw_below_drewN | apply below_drew1 | refine below_set ?_ GE167.out | refine below_set ?_ GE171.out) | exact HB.out)⟩
                                      · rw [if_neg c84] at H
                                        exact absurd H (by simp)
                                  case rest =>
                                    clear HC80
                                    try clear p1
                                    try clear q1
                                    try clear hx1
                                    try clear qi1
                                    try clear p2
                                    try clear c4
                                    try clear c5
                                    try clear p5
                                    try clear q5
                                    try clear hx5
                                    try clear c6
                                    try clear p6
                                    try clear q6
                                    try clear hx6
                                    try clear c7
                                    try clear c8
                                    try clear p18
                                    try clear q18
                                    try clear hx18
                                    try clear qi18
                                    try clear c48
                                    try clear c48b0
                                    try clear c49
                                    try clear p50
                                    try clear q50
                                    try clear hx50
                                    try clear c51
                                    try clear c51b0
                                    try clear c53
                                    try clear p55
                                    try clear q55
                                    try clear hx55
                                    try clear c56
                                    try clear c56b0
                                    try clear c58
                                    try clear p60
                                    try clear q60
                                    try clear hx60
                                    try clear p64
                                    try clear c67
                                    try clear c67b0
                                    try clear c67b1
                                    try clear c72
                                    try clear c73
                                    try clear c76
                                    try clear c76b0
                                    try clear c77
                                    try clear c77b0
                                    try clear c79
                                    try clear c81
                                    try clear c83
                                    try clear c83b0
                                    try clear c83b1
                                    try clear c84
                                    try clear c84b0
                                    try clear c84b1
                                    try clear c86
                                    try clear c87
                                    try clear c89
                                    try clear hcz54_0
                                    try clear hcz54_1
                                    try clear hcz54_2
                                    try clear hcz54_3
                                    try clear hcz54_4
                                    try clear hcz59_0
                                    try clear hcz59_1
                                    try clear hcz59_2
                                    try clear hcz59_3
                                    try clear hcz59_4
                                    try clear hcz74_0
                                    try clear hcz74_1
                                    try clear hcz74_2
                                    try clear hcz74_3
                                    try clear hcz74_4
                                    try clear hcz82_0
                                    try clear hcz82_1
                                    try clear hcz82_2
                                    try clear hcz82_3
                                    try clear hcz82_4
                                    try clear hcz88_0
                                    try clear hcz88_1
                                    try clear hcz88_2
                                    try clear hcz88_3
                                    try clear hcz88_4
                                    try clear hcz90_0
                                    try clear hcz90_1
                                    try clear hcz90_2
                                    try clear hcz90_3
                                    try clear hcz90_4
                                    try clear hcz91_0
                                    try clear hcz91_1
                                    try clear hcz91_2
                                    try clear hcz91_3
                                    try clear hcz91_4
                                    try clear hfz54_0
                                    try clear hfz54_1
                                    try clear hfz54_2
                                    try clear hfz54_3
                                    try clear hfz54_4
                                    try clear hfz59_0
                                    try clear hfz59_1
                                    try clear hfz59_2
                                    try clear hfz59_3
                                    try clear hfz59_4
                                    try clear hfz74_0
                                    try clear hfz74_1
                                    try clear hfz74_2
                                    try clear hfz74_3
                                    try clear hfz74_4
                                    try clear hfz82_0
                                    try clear hfz82_1
                                    try clear hfz82_2
                                    try clear hfz82_3
                                    try clear hfz82_4
                                    try clear hfz88_0
                                    try clear hfz88_1
                                    try clear hfz88_2
                                    try clear hfz88_3
                                    try clear hfz88_4
                                    try clear hfz90_0
                                    try clear hfz90_1
                                    try clear hfz90_2
                                    try clear hfz90_3
                                    try clear hfz90_4
                                    try clear hfz91_0
                                    try clear hfz91_1
                                    try clear hfz91_2
                                    try clear hfz91_3
                                    try clear hfz91_4
                                    try clear hx180_0
                                    try clear hx181_0
                                    try clear hx182_0
                                    try clear hx183_0
                                    try clear hx185_0
                                    try clear hx186_0
                                    try clear hx189_0
                                    try clear p1
                                    try clear p18
                                    try clear p180
                                    try clear p181
                                    try clear p182
                                    try clear p183
                                    try clear p185
                                    try clear p186
                                    try clear p189
                                    try clear p2
                                    try clear p5
                                    try clear p50
                                    try clear p55
                                    try clear p6
                                    try clear p60
                                    try clear p64
                                    try clear q1
                                    try clear q18
                                    try clear q180
                                    try clear q181
                                    try clear q182
                                    try clear q183
                                    try clear q185
                                    try clear q186
                                    try clear q189
                                    try clear q5
                                    try clear q50
                                    try clear q55
                                    try clear q6
                                    try clear q60
                                    obtain ⟨kq, x168000_79, x168001_79, x168002_79, x168003_79, x168004_79, x172002_79, HA, HJ79, HO_4, BK167, BK171, HB⟩ := hcut
                                    cases kq with
                                    | zero => exact absurd HA.out (by simp [stilemanref04_Parse.j4])
                                    | succ kj79 =>
                                      have H := HA.out
                                      clear HA
                                      simp only [stilemanref04_Parse.j4] at H
                                      by_cases c92 : x172000_1 = 5
                                      · rw [if_pos c92] at H
                                        have c92b0 : (x172000_1 == 5) = true := beq_iff_eq.mpr c92
                                        have c92b1 : (x172000_1 != 5) = false := bne_eq_false_iff_eq.mpr c92
                                        clear c92
                                        by_cases c93 : 3 < (t168.length : Int)
                                        · rw [if_pos c93] at H
                                          have c93b0 : decide (3 < (t168.length : Int)) = true := decide_eq_true c93
                                          have c93b1 : decide (3 < t168.length) = true := decide_eq_true (by omega)
                                          clear c93
                                          replace H := Option.bind_eq_some_iff.mp H
                                          obtain ⟨⟨t193, t194⟩, A940, H⟩ := H
                                          replace H : (if t194 = true then (some (x172000_1, x172001_3, x172002_79, t193, t187, 0)) else (some (0, 0, 0, 0, 0, 4))) = some (r1, r2, r3, r4, r5, r6) := H
                                          have A94 := Aside0.mk A940
                                          clear A940
                                          by_cases c95 : t194 = true
                                          · subst c95
                                            have H1 : (some (x172000_1, x172001_3, x172002_79, t193, t187, 0)) = some (r1, r2, r3, r4, r5, r6) := by rw [if_pos rfl] at H; exact H
                                            clear H
                                            have H := H1
                                            clear H1
                                            simp only [Option.some.injEq, Prod.mk.injEq] at H
                                            obtain ⟨rfl, rfl, rfl, rfl, rfl, rfl⟩ := H
                                            have hnb96 := NB171_167.out
                                            have hnc96 := NB167_171.out
                                            have hcz97_0 : wc.cell? ⟨gb171, 0, none⟩ = some (.int .i64 x172000_1) := (blk_cell BK171.out 0).trans rfl
                                            have hcz97_1 : wc.cell? ⟨gb171, 1, none⟩ = some (.int .i64 x172001_3) := (blk_cell BK171.out 1).trans rfl
                                            have hcz97_2 : wc.cell? ⟨gb171, 2, none⟩ = some (.int .u32 x172002_79) := (blk_cell BK171.out 2).trans rfl
                                            have hcz97_3 : wc.cell? ⟨gb171, 3, none⟩ = some (.int .u32 0) := (blk_cell BK171.out 3).trans rfl
                                            have hcz97_4 : wc.cell? ⟨gb171, 4, none⟩ = some (.int .u32 t187) := (blk_cell BK171.out 4).trans rfl
                                            have hfz97_0 := blk_frozen BK171.out 0
                                            have hfz97_1 := blk_frozen BK171.out 1
                                            have hfz97_2 := blk_frozen BK171.out 2
                                            have hfz97_3 := blk_frozen BK171.out 3
                                            have hfz97_4 := blk_frozen BK171.out 4
                                            have p192 : 0 ≤ (3 : Int) := (by omega)
                                            have q192 : 3 < (t168.length : Int) := of_decide_eq_true (by first | (with_reducible assumption) | assumption)
                                            obtain ⟨ad192, e192, hx192_0⟩ := Kd.at_string (Kd.R_reads' HO_4.out).2.2 3 p192 q192
                                            obtain rfl : ad180 = ad192 := (by injection e192)
                                            (try simp only [show (3 : Int).toNat = 3 from rfl, Nat.reduceMul, Nat.reduceEqDiff, Go.Addr.add, ↓reduceIte] at hx192_0)
                                            have qi192 : (3 < t168.length) = True := eq_true (by omega)
                                            (try rw [show ((3 : Int)).toNat = 3 from rfl] at hx192_0)
                                            replace p192 := eq_true p192
                                            replace q192 := eq_true q192
                                            go_wp2_with (first | ((with_reducible refine gate_callee (f := 84) rfl ?_); refine goesL_ (some 139) rfl rfl Tryd.func84 (by kernel_rfl) rfl #[.string (rdOf ByteArray.empty t168 3)] rfl (by (try simp only [List.map_toArray, List.map_cons, List.map_nil]); first | done | rfl | (simp only [List.length_drop, List.length_take]; rfl)) ?_; (with_reducible refine (stilemanref04_hex.calls kj79 (rdOf ByteArray.empty t168 3) t193 true _ A94.out).mono ?_); rintro e w' ⟨rfl, ⟨nd, rfl⟩⟩; refine ⟨_, rfl, ?_⟩; (try (rw [drewN_self wc]; generalize hq_ : World.drewN wc _ = wc; have n0_ : Aside0 (Kd.R Kd.string 9 wc w.heap.size (fun _ => True) (.slice (some ad180) t168.length co65) t168) := ⟨by rw [← hq_]; exact (by (with_reducible repeat (first | apply Kd.R_alloc | apply Kd.R_drewN | apply Kd.R_drew)); exact HO_4.out)⟩; have n1_ : Aside0 (wc.heap[gb167]? = some (.cells #[.int .i64 x168000_79, .int .i64 x168001_79, .int .u32 x168002_79, .int .u32 x168003_79, .int .u32 x168004_79] 48 (0, 0))) := ⟨by rw [← hq_]; exact (by (with_reducible repeat (first | refine blk_drewN ?_ _ | refine blk_drew ?_ | refine blk_alloc ?_ _)); exact BK167.out)⟩; have n2_ : Aside0 (wc.heap[gb171]? = some (.cells #[.int .i64 x172000_1, .int .i64 x172001_3, .int .u32 x172002_79, .int .u32 0, .int .u32 t187] 48 (0, 0))) := ⟨by rw [← hq_]; exact (by (with_reducible repeat (first | refine blk_drewN ?_ _ | refine blk_drew ?_ | refine blk_alloc ?_ _)); exact BK171.out)⟩; have n3_ : Aside0 (Below w.heap.size w wc) := ⟨by rw [← hq_]; exact (by repeat (first | (with_reducible first | exact HB.out | apply below_alloc | apply pw_below_drewN | apply below_drew1 | refine below_set ?_ GE167.out | refine below_set ?_ GE171.out) | exact HB.out))⟩; clear HO_4 BK167 BK171 HB hq_; have HO_4 := n0_; have BK167 := n1_; have BK171 := n2_; have HB := n3_; clear n0_ n1_ n2_ n3_)); have hcz98_0 : wc.cell? ⟨gb167, 0, none⟩ = some (.int .i64 x168000_79) := (blk_cell BK167.out 0).trans rfl; have hcz98_1 : wc.cell? ⟨gb167, 1, none⟩ = some (.int .i64 x168001_79) := (blk_cell BK167.out 1).trans rfl; have hcz98_2 : wc.cell? ⟨gb167, 2, none⟩ = some (.int .u32 x168002_79) := (blk_cell BK167.out 2).trans rfl; have hcz98_3 : wc.cell? ⟨gb167, 3, none⟩ = some (.int .u32 x168003_79) := (blk_cell BK167.out 3).trans rfl; have hcz98_4 : wc.cell? ⟨gb167, 4, none⟩ = some (.int .u32 x168004_79) := (blk_cell BK167.out 4).trans rfl; have hfz98_0 := blk_frozen BK167.out 0; have hfz98_1 := blk_frozen BK167.out 1; have hfz98_2 := blk_frozen BK167.out 2; have hfz98_3 := blk_frozen BK167.out 3; have hfz98_4 := blk_frozen BK167.out 4; have hzz0 : wc.cell? ⟨gb171, 0, none⟩ = some (.int .i64 x172000_1) := (blk_cell BK171.out 0).trans rfl; have hzz1 : wc.cell? ⟨gb171, 1, none⟩ = some (.int .i64 x172001_3) := (blk_cell BK171.out 1).trans rfl; have hzz2 : wc.cell? ⟨gb171, 2, none⟩ = some (.int .u32 x172002_79) := (blk_cell BK171.out 2).trans rfl; have hzz3 : wc.cell? ⟨gb171, 3, none⟩ = some (.int .u32 0) := (blk_cell BK171.out 3).trans rfl; have hzz4 : wc.cell? ⟨gb171, 4, none⟩ = some (.int .u32 t187) := (blk_cell BK171.out 4).trans rfl; have hzf0 := blk_frozen BK171.out 0; have hzf1 := blk_frozen BK171.out 1; have hzf2 := blk_frozen BK171.out 2; have hzf3 := blk_frozen BK171.out 3; have hzf4 := blk_frozen BK171.out 4))
                                            refine bodyPost_ret (results_ct rfl _ _ gb167 48 #[.int .i64 x172000_1, .int .i64 x172001_3, .int .u32 x172002_79, .int .u32 t193, .int .u32 t187] (0, 0) _ rfl (by (with_reducible repeat (first | refine blk_drewN ?_ _ | refine blk_drew ?_ | refine blk_alloc ?_ _)); refine blk_put (cs := #[.int .i64 x172000_1, .int .i64 x172001_3, .int .u32 x172002_79, .int .u32 t193, .int .u32 x168004_79]) ?_ 4 _ rfl; (with_reducible repeat (first | refine blk_drewN ?_ _ | refine blk_drew ?_ | refine blk_alloc ?_ _)); refine blk_put (cs := #[.int .i64 x172000_1, .int .i64 x172001_3, .int .u32 x172002_79, .int .u32 x168003_79, .int .u32 x168004_79]) ?_ 3 _ rfl; (with_reducible repeat (first | refine blk_drewN ?_ _ | refine blk_drew ?_ | refine blk_alloc ?_ _)); refine blk_put (cs := #[.int .i64 x172000_1, .int .i64 x172001_3, .int .u32 x168002_79, .int .u32 x168003_79, .int .u32 x168004_79]) ?_ 2 _ rfl; (with_reducible repeat (first | refine blk_drewN ?_ _ | refine blk_drew ?_ | refine blk_alloc ?_ _)); refine blk_put (cs := #[.int .i64 x172000_1, .int .i64 x168001_79, .int .u32 x168002_79, .int .u32 x168003_79, .int .u32 x168004_79]) ?_ 1 _ rfl; (with_reducible repeat (first | refine blk_drewN ?_ _ | refine blk_drew ?_ | refine blk_alloc ?_ _)); refine blk_put (cs := #[.int .i64 x168000_79, .int .i64 x168001_79, .int .u32 x168002_79, .int .u32 x168003_79, .int .u32 x168004_79]) ?_ 0 _ rfl; (with_reducible repeat (first | refine blk_drewN ?_ _ | refine blk_drew ?_ | refine blk_alloc ?_ _)); refine blk_far ?_ NB167_171.out _; (with_reducible repeat (first | refine blk_drewN ?_ _ | refine blk_drew ?_ | refine blk_alloc ?_ _)); exact BK167.out) Tryd.underlying48 rfl (by kernel_rfl)) rfl ?_
                                            exact ⟨by first | rfl | (simp [errW_none, errW_some] <;> rfl) | (simp only [← hji75]; first | rfl | (simp [errW_none, errW_some] <;> rfl)) | (simp [*, errW_none, errW_some] <;> rfl), by repeat (first | (with_reducible first | exact HB.out | apply below_alloc | apply pw_below_drewN | apply below_drew1 | refine below_set ?_ GE167.out | refine below_set ?_ GE171.out) | exact HB.out)⟩
                                          · replace c95 := Bool.eq_false_iff.mpr c95
                                            subst c95
                                            have H1 : (some (0, 0, 0, 0, 0, 4)) = some (r1, r2, r3, r4, r5, r6) := by rw [if_neg (show ¬ (false = true) by decide)] at H; exact H
                                            clear H
                                            have H := H1
                                            clear H1
                                            simp only [Option.some.injEq, Prod.mk.injEq] at H
                                            obtain ⟨rfl, rfl, rfl, rfl, rfl, rfl⟩ := H
                                            have hnb99 := NB171_167.out
                                            have hnc99 := NB167_171.out
                                            have hcz100_0 : wc.cell? ⟨gb171, 0, none⟩ = some (.int .i64 x172000_1) := (blk_cell BK171.out 0).trans rfl
                                            have hcz100_1 : wc.cell? ⟨gb171, 1, none⟩ = some (.int .i64 x172001_3) := (blk_cell BK171.out 1).trans rfl
                                            have hcz100_2 : wc.cell? ⟨gb171, 2, none⟩ = some (.int .u32 x172002_79) := (blk_cell BK171.out 2).trans rfl
                                            have hcz100_3 : wc.cell? ⟨gb171, 3, none⟩ = some (.int .u32 0) := (blk_cell BK171.out 3).trans rfl
                                            have hcz100_4 : wc.cell? ⟨gb171, 4, none⟩ = some (.int .u32 t187) := (blk_cell BK171.out 4).trans rfl
                                            have hfz100_0 := blk_frozen BK171.out 0
                                            have hfz100_1 := blk_frozen BK171.out 1
                                            have hfz100_2 := blk_frozen BK171.out 2
                                            have hfz100_3 := blk_frozen BK171.out 3
                                            have hfz100_4 := blk_frozen BK171.out 4
                                            have p192 : 0 ≤ (3 : Int) := (by omega)
                                            have q192 : 3 < (t168.length : Int) := of_decide_eq_true (by first | (with_reducible assumption) | assumption)
                                            obtain ⟨ad192, e192, hx192_0⟩ := Kd.at_string (Kd.R_reads' HO_4.out).2.2 3 p192 q192
                                            obtain rfl : ad180 = ad192 := (by injection e192)
                                            (try simp only [show (3 : Int).toNat = 3 from rfl, Nat.reduceMul, Nat.reduceEqDiff, Go.Addr.add, ↓reduceIte] at hx192_0)
                                            have qi192 : (3 < t168.length) = True := eq_true (by omega)
                                            (try rw [show ((3 : Int)).toNat = 3 from rfl] at hx192_0)
                                            replace p192 := eq_true p192
                                            replace q192 := eq_true q192
                                            go_wp2_with (first | ((with_reducible refine gate_callee (f := 84) rfl ?_); refine goesL_ (some 139) rfl rfl Tryd.func84 (by kernel_rfl) rfl #[.string (rdOf ByteArray.empty t168 3)] rfl (by (try simp only [List.map_toArray, List.map_cons, List.map_nil]); first | done | rfl | (simp only [List.length_drop, List.length_take]; rfl)) ?_; (with_reducible refine (stilemanref04_hex.calls kj79 (rdOf ByteArray.empty t168 3) t193 false _ A94.out).mono ?_); rintro e w' ⟨rfl, ⟨nd, rfl⟩⟩; refine ⟨_, rfl, ?_⟩; (try (rw [drewN_self wc]; generalize hq_ : World.drewN wc _ = wc; have n0_ : Aside0 (Kd.R Kd.string 9 wc w.heap.size (fun _ => True) (.slice (some ad180) t168.length co65) t168) := ⟨by rw [← hq_]; exact (by (with_reducible repeat (first | apply Kd.R_alloc | apply Kd.R_drewN | apply Kd.R_drew)); exact HO_4.out)⟩; have n1_ : Aside0 (wc.heap[gb167]? = some (.cells #[.int .i64 x168000_79, .int .i64 x168001_79, .int .u32 x168002_79, .int .u32 x168003_79, .int .u32 x168004_79] 48 (0, 0))) := ⟨by rw [← hq_]; exact (by (with_reducible repeat (first | refine blk_drewN ?_ _ | refine blk_drew ?_ | refine blk_alloc ?_ _)); exact BK167.out)⟩; have n2_ : Aside0 (wc.heap[gb171]? = some (.cells #[.int .i64 x172000_1, .int .i64 x172001_3, .int .u32 x172002_79, .int .u32 0, .int .u32 t187] 48 (0, 0))) := ⟨by rw [← hq_]; exact (by (with_reducible repeat (first | refine blk_drewN ?_ _ | refine blk_drew ?_ | refine blk_alloc ?_ _)); exact BK171.out)⟩; have n3_ : Aside0 (Below w.heap.size w wc) := ⟨by rw [← hq_]; exact (by repeat (first | (with_reducible first | exact HB.out | apply below_alloc | apply pw_below_drewN | apply below_drew1 | refine below_set ?_ GE167.out | refine below_set ?_ GE171.out) | exact HB.out))⟩; clear HO_4 BK167 BK171 HB hq_; have HO_4 := n0_; have BK167 := n1_; have BK171 := n2_; have HB := n3_; clear n0_ n1_ n2_ n3_)); have hcz101_0 : wc.cell? ⟨gb167, 0, none⟩ = some (.int .i64 x168000_79) := (blk_cell BK167.out 0).trans rfl; have hcz101_1 : wc.cell? ⟨gb167, 1, none⟩ = some (.int .i64 x168001_79) := (blk_cell BK167.out 1).trans rfl; have hcz101_2 : wc.cell? ⟨gb167, 2, none⟩ = some (.int .u32 x168002_79) := (blk_cell BK167.out 2).trans rfl; have hcz101_3 : wc.cell? ⟨gb167, 3, none⟩ = some (.int .u32 x168003_79) := (blk_cell BK167.out 3).trans rfl; have hcz101_4 : wc.cell? ⟨gb167, 4, none⟩ = some (.int .u32 x168004_79) := (blk_cell BK167.out 4).trans rfl; have hfz101_0 := blk_frozen BK167.out 0; have hfz101_1 := blk_frozen BK167.out 1; have hfz101_2 := blk_frozen BK167.out 2; have hfz101_3 := blk_frozen BK167.out 3; have hfz101_4 := blk_frozen BK167.out 4; have hzz0 : wc.cell? ⟨gb171, 0, none⟩ = some (.int .i64 x172000_1) := (blk_cell BK171.out 0).trans rfl; have hzz1 : wc.cell? ⟨gb171, 1, none⟩ = some (.int .i64 x172001_3) := (blk_cell BK171.out 1).trans rfl; have hzz2 : wc.cell? ⟨gb171, 2, none⟩ = some (.int .u32 x172002_79) := (blk_cell BK171.out 2).trans rfl; have hzz3 : wc.cell? ⟨gb171, 3, none⟩ = some (.int .u32 0) := (blk_cell BK171.out 3).trans rfl; have hzz4 : wc.cell? ⟨gb171, 4, none⟩ = some (.int .u32 t187) := (blk_cell BK171.out 4).trans rfl; have hzf0 := blk_frozen BK171.out 0; have hzf1 := blk_frozen BK171.out 1; have hzf2 := blk_frozen BK171.out 2; have hzf3 := blk_frozen BK171.out 3; have hzf4 := blk_frozen BK171.out 4))
                                            refine bodyPost_ret (results_ct rfl _ _ gb167 48 #[.int .i64 0, .int .i64 0, .int .u32 0, .int .u32 0, .int .u32 0] (0, 0) _ rfl (by (with_reducible repeat (first | refine blk_drewN ?_ _ | refine blk_drew ?_ | refine blk_alloc ?_ _)); refine blk_put (cs := #[.int .i64 0, .int .i64 0, .int .u32 0, .int .u32 0, .int .u32 x168004_79]) ?_ 4 _ rfl; (with_reducible repeat (first | refine blk_drewN ?_ _ | refine blk_drew ?_ | refine blk_alloc ?_ _)); refine blk_put (cs := #[.int .i64 0, .int .i64 0, .int .u32 0, .int .u32 x168003_79, .int .u32 x168004_79]) ?_ 3 _ rfl; (with_reducible repeat (first | refine blk_drewN ?_ _ | refine blk_drew ?_ | refine blk_alloc ?_ _)); refine blk_put (cs := #[.int .i64 0, .int .i64 0, .int .u32 x168002_79, .int .u32 x168003_79, .int .u32 x168004_79]) ?_ 2 _ rfl; (with_reducible repeat (first | refine blk_drewN ?_ _ | refine blk_drew ?_ | refine blk_alloc ?_ _)); refine blk_put (cs := #[.int .i64 0, .int .i64 x168001_79, .int .u32 x168002_79, .int .u32 x168003_79, .int .u32 x168004_79]) ?_ 1 _ rfl; (with_reducible repeat (first | refine blk_drewN ?_ _ | refine blk_drew ?_ | refine blk_alloc ?_ _)); refine blk_put (cs := #[.int .i64 x168000_79, .int .i64 x168001_79, .int .u32 x168002_79, .int .u32 x168003_79, .int .u32 x168004_79]) ?_ 0 _ rfl; (with_reducible repeat (first | refine blk_drewN ?_ _ | refine blk_drew ?_ | refine blk_alloc ?_ _)); refine blk_far ?_ NB167_171.out _; (with_reducible repeat (first | refine blk_drewN ?_ _ | refine blk_drew ?_ | refine blk_alloc ?_ _)); exact BK167.out) Tryd.underlying48 rfl (by kernel_rfl)) rfl ?_
                                            exact ⟨by first | rfl | (simp [errW_none, errW_some] <;> rfl) | (simp only [← hji75]; first | rfl | (simp [errW_none, errW_some] <;> rfl)) | (simp [*, errW_none, errW_some] <;> rfl), by repeat (first | (with_reducible first | exact HB.out | apply below_alloc | apply pw_below_drewN | apply below_drew1 | refine below_set ?_ GE167.out | refine below_set ?_ GE171.out) | exact HB.out)⟩
                                        · rw [if_neg c93] at H
                                          exact absurd H (by simp)
                                      · rw [if_neg c92] at H
                                        have c92b0 : (x172000_1 == 5) = false := beq_eq_false_iff_ne.mpr c92
                                        have c92b1 : (x172000_1 != 5) = true := bne_iff_ne.mpr c92
                                        simp only [Option.some.injEq, Prod.mk.injEq] at H
                                        obtain ⟨rfl, rfl, rfl, rfl, rfl, rfl⟩ := H
                                        have hnb102 := NB171_167.out
                                        have hnc102 := NB167_171.out
                                        have hcz103_0 : wc.cell? ⟨gb171, 0, none⟩ = some (.int .i64 x172000_1) := (blk_cell BK171.out 0).trans rfl
                                        have hcz103_1 : wc.cell? ⟨gb171, 1, none⟩ = some (.int .i64 x172001_3) := (blk_cell BK171.out 1).trans rfl
                                        have hcz103_2 : wc.cell? ⟨gb171, 2, none⟩ = some (.int .u32 x172002_79) := (blk_cell BK171.out 2).trans rfl
                                        have hcz103_3 : wc.cell? ⟨gb171, 3, none⟩ = some (.int .u32 0) := (blk_cell BK171.out 3).trans rfl
                                        have hcz103_4 : wc.cell? ⟨gb171, 4, none⟩ = some (.int .u32 t187) := (blk_cell BK171.out 4).trans rfl
                                        have hfz103_0 := blk_frozen BK171.out 0
                                        have hfz103_1 := blk_frozen BK171.out 1
                                        have hfz103_2 := blk_frozen BK171.out 2
                                        have hfz103_3 := blk_frozen BK171.out 3
                                        have hfz103_4 := blk_frozen BK171.out 4
                                        have hcz104_0 : wc.cell? ⟨gb167, 0, none⟩ = some (.int .i64 x168000_79) := (blk_cell BK167.out 0).trans rfl
                                        have hcz104_1 : wc.cell? ⟨gb167, 1, none⟩ = some (.int .i64 x168001_79) := (blk_cell BK167.out 1).trans rfl
                                        have hcz104_2 : wc.cell? ⟨gb167, 2, none⟩ = some (.int .u32 x168002_79) := (blk_cell BK167.out 2).trans rfl
                                        have hcz104_3 : wc.cell? ⟨gb167, 3, none⟩ = some (.int .u32 x168003_79) := (blk_cell BK167.out 3).trans rfl
                                        have hcz104_4 : wc.cell? ⟨gb167, 4, none⟩ = some (.int .u32 x168004_79) := (blk_cell BK167.out 4).trans rfl
                                        have hfz104_0 := blk_frozen BK167.out 0
                                        have hfz104_1 := blk_frozen BK167.out 1
                                        have hfz104_2 := blk_frozen BK167.out 2
                                        have hfz104_3 := blk_frozen BK167.out 3
                                        have hfz104_4 := blk_frozen BK167.out 4
                                        go_wp2
                                        refine bodyPost_ret (results_ct rfl _ _ gb167 48 #[.int .i64 x172000_1, .int .i64 x172001_3, .int .u32 x172002_79, .int .u32 0, .int .u32 t187] (0, 0) _ rfl (by (with_reducible repeat (first | refine blk_drewN ?_ _ | refine blk_drew ?_ | refine blk_alloc ?_ _)); refine blk_put (cs := #[.int .i64 x172000_1, .int .i64 x172001_3, .int .u32 x172002_79, .int .u32 0, .int .u32 x168004_79]) ?_ 4 _ rfl; (with_reducible repeat (first | refine blk_drewN ?_ _ | refine blk_drew ?_ | refine blk_alloc ?_ _)); refine blk_put (cs := #[.int .i64 x172000_1, .int .i64 x172001_3, .int .u32 x172002_79, .int .u32 x168003_79, .int .u32 x168004_79]) ?_ 3 _ rfl; (with_reducible repeat (first | refine blk_drewN ?_ _ | refine blk_drew ?_ | refine blk_alloc ?_ _)); refine blk_put (cs := #[.int .i64 x172000_1, .int .i64 x172001_3, .int .u32 x168002_79, .int .u32 x168003_79, .int .u32 x168004_79]) ?_ 2 _ rfl; (with_reducible repeat (first | refine blk_drewN ?_ _ | refine blk_drew ?_ | refine blk_alloc ?_ _)); refine blk_put (cs := #[.int .i64 x172000_1, .int .i64 x168001_79, .int .u32 x168002_79, .int .u32 x168003_79, .int .u32 x168004_79]) ?_ 1 _ rfl; (with_reducible repeat (first | refine blk_drewN ?_ _ | refine blk_drew ?_ | refine blk_alloc ?_ _)); refine blk_put (cs := #[.int .i64 x168000_79, .int .i64 x168001_79, .int .u32 x168002_79, .int .u32 x168003_79, .int .u32 x168004_79]) ?_ 0 _ rfl; (with_reducible repeat (first | refine blk_drewN ?_ _ | refine blk_drew ?_ | refine blk_alloc ?_ _)); exact BK167.out) Tryd.underlying48 rfl (by kernel_rfl)) rfl ?_
                                        exact ⟨by first | rfl | (simp [errW_none, errW_some] <;> rfl) | (simp only [← hji75]; first | rfl | (simp [errW_none, errW_some] <;> rfl)) | (simp [*, errW_none, errW_some] <;> rfl), by repeat (first | (with_reducible first | exact HB.out | apply below_alloc | apply pw_below_drewN | apply below_drew1 | refine below_set ?_ GE167.out | refine below_set ?_ GE171.out) | exact HB.out)⟩
                                · replace c79 := Bool.eq_false_iff.mpr c79
                                  subst c79
                                  have H1 : (some (0, 0, 0, 0, 0, 4)) = some (r1, r2, r3, r4, r5, r6) := by rw [if_neg (show ¬ (false = true) by decide)] at H; exact H
                                  clear H
                                  have H := H1
                                  clear H1
                                  simp only [Option.some.injEq, Prod.mk.injEq] at H
                                  obtain ⟨rfl, rfl, rfl, rfl, rfl, rfl⟩ := H
                                  have p186 : 0 ≤ ((ji75) : Int) := of_decide_eq_true (by first | (with_reducible assumption) | assumption)
                                  have q186 : (ji75) < (t168.length : Int) := of_decide_eq_true (by first | (with_reducible assumption) | assumption)
                                  obtain ⟨ad186, e186, hx186_0⟩ := Kd.at_string (Kd.R_reads' HO_4.out).2.2 (ji75) p186 q186
                                  obtain rfl : ad180 = ad186 := (by injection e186)
                                  replace p186 := eq_true p186
                                  replace q186 := eq_true q186
                                  go_wp2_with (first | ((with_reducible refine gate_callee (f := 84) rfl ?_); refine goesL_ (some 111) rfl rfl Tryd.func84 (by kernel_rfl) rfl #[.string (rdOf ByteArray.empty t168 (ji75))] rfl (by (try simp only [List.map_toArray, List.map_cons, List.map_nil]); first | done | (simp only [hji75]; rfl) | rfl | (simp only [List.length_drop, List.length_take]; rfl)) ?_; (with_reducible refine (stilemanref04_hex.calls kj63 (rdOf ByteArray.empty t168 (ji75)) t187 false _ A78.out).mono ?_); rintro e w' ⟨rfl, ⟨nd, rfl⟩⟩; refine ⟨_, rfl, ?_⟩; (try (rw [drewN_self wc]; generalize hq_ : World.drewN wc _ = wc; have n0_ : Aside0 (Kd.R Kd.string 9 wc w.heap.size (fun _ => True) (.slice (some ad180) t168.length co65) t168) := ⟨by rw [← hq_]; exact (by (with_reducible repeat (first | apply Kd.R_alloc | apply Kd.R_drewN | apply Kd.R_drew)); exact HO_4.out)⟩; have n1_ : Aside0 (wc.heap[gb167]? = some (.cells #[.int .i64 x168000_3, .int .i64 x168001_3, .int .u32 x168002_3, .int .u32 x168003_3, .int .u32 x168004_3] 48 (0, 0))) := ⟨by rw [← hq_]; exact (by (with_reducible repeat (first | refine blk_drewN ?_ _ | refine blk_drew ?_ | refine blk_alloc ?_ _)); exact BK167.out)⟩; have n2_ : Aside0 (wc.heap[gb171]? = some (.cells #[.int .i64 x172000_1, .int .i64 x172001_3, .int .u32 0, .int .u32 0, .int .u32 0] 48 (0, 0))) := ⟨by rw [← hq_]; exact (by (with_reducible repeat (first | refine blk_drewN ?_ _ | refine blk_drew ?_ | refine blk_alloc ?_ _)); exact BK171.out)⟩; have n3_ : Aside0 (Below w.heap.size w wc) := ⟨by rw [← hq_]; exact (by repeat (first | (with_reducible first | exact HB.out | apply below_alloc | apply pw_below_drewN | apply below_drew1 | refine below_set ?_ GE167.out | refine below_set ?_ GE171.out) | exact HB.out))⟩; clear HO_4 BK167 BK171 HB hq_; have HO_4 := n0_; have BK167 := n1_; have BK171 := n2_; have HB := n3_; clear n0_ n1_ n2_ n3_)); have hnb105 := NB171_167.out; have hnc105 := NB167_171.out; have hcz106_0 : wc.cell? ⟨gb171, 0, none⟩ = some (.int .i64 x172000_1) := (blk_cell BK171.out 0).trans rfl; have hcz106_1 : wc.cell? ⟨gb171, 1, none⟩ = some (.int .i64 x172001_3) := (blk_cell BK171.out 1).trans rfl; have hcz106_2 : wc.cell? ⟨gb171, 2, none⟩ = some (.int .u32 0) := (blk_cell BK171.out 2).trans rfl; have hcz106_3 : wc.cell? ⟨gb171, 3, none⟩ = some (.int .u32 0) := (blk_cell BK171.out 3).trans rfl; have hcz106_4 : wc.cell? ⟨gb171, 4, none⟩ = some (.int .u32 0) := (blk_cell BK171.out 4).trans rfl; have hfz106_0 := blk_frozen BK171.out 0; have hfz106_1 := blk_frozen BK171.out 1; have hfz106_2 := blk_frozen BK171.out 2; have hfz106_3 := blk_frozen BK171.out 3; have hfz106_4 := blk_frozen BK171.out 4; have hcz107_0 : wc.cell? ⟨gb167, 0, none⟩ = some (.int .i64 x168000_3) := (blk_cell BK167.out 0).trans rfl; have hcz107_1 : wc.cell? ⟨gb167, 1, none⟩ = some (.int .i64 x168001_3) := (blk_cell BK167.out 1).trans rfl; have hcz107_2 : wc.cell? ⟨gb167, 2, none⟩ = some (.int .u32 x168002_3) := (blk_cell BK167.out 2).trans rfl; have hcz107_3 : wc.cell? ⟨gb167, 3, none⟩ = some (.int .u32 x168003_3) := (blk_cell BK167.out 3).trans rfl; have hcz107_4 : wc.cell? ⟨gb167, 4, none⟩ = some (.int .u32 x168004_3) := (blk_cell BK167.out 4).trans rfl; have hfz107_0 := blk_frozen BK167.out 0; have hfz107_1 := blk_frozen BK167.out 1; have hfz107_2 := blk_frozen BK167.out 2; have hfz107_3 := blk_frozen BK167.out 3; have hfz107_4 := blk_frozen BK167.out 4))
                                  refine bodyPost_ret (results_ct rfl _ _ gb167 48 #[.int .i64 0, .int .i64 0, .int .u32 0, .int .u32 0, .int .u32 0] (0, 0) _ rfl (by (with_reducible repeat (first | refine blk_drewN ?_ _ | refine blk_drew ?_ | refine blk_alloc ?_ _)); refine blk_put (cs := #[.int .i64 0, .int .i64 0, .int .u32 0, .int .u32 0, .int .u32 x168004_3]) ?_ 4 _ rfl; (with_reducible repeat (first | refine blk_drewN ?_ _ | refine blk_drew ?_ | refine blk_alloc ?_ _)); refine blk_put (cs := #[.int .i64 0, .int .i64 0, .int .u32 0, .int .u32 x168003_3, .int .u32 x168004_3]) ?_ 3 _ rfl; (with_reducible repeat (first | refine blk_drewN ?_ _ | refine blk_drew ?_ | refine blk_alloc ?_ _)); refine blk_put (cs := #[.int .i64 0, .int .i64 0, .int .u32 x168002_3, .int .u32 x168003_3, .int .u32 x168004_3]) ?_ 2 _ rfl; (with_reducible repeat (first | refine blk_drewN ?_ _ | refine blk_drew ?_ | refine blk_alloc ?_ _)); refine blk_put (cs := #[.int .i64 0, .int .i64 x168001_3, .int .u32 x168002_3, .int .u32 x168003_3, .int .u32 x168004_3]) ?_ 1 _ rfl; (with_reducible repeat (first | refine blk_drewN ?_ _ | refine blk_drew ?_ | refine blk_alloc ?_ _)); refine blk_put (cs := #[.int .i64 x168000_3, .int .i64 x168001_3, .int .u32 x168002_3, .int .u32 x168003_3, .int .u32 x168004_3]) ?_ 0 _ rfl; (with_reducible repeat (first | refine blk_drewN ?_ _ | refine blk_drew ?_ | refine blk_alloc ?_ _)); refine blk_far ?_ NB167_171.out _; (with_reducible repeat (first | refine blk_drewN ?_ _ | refine blk_drew ?_ | refine blk_alloc ?_ _)); exact BK167.out) Tryd.underlying48 rfl (by kernel_rfl)) rfl ?_
                                  exact ⟨by first | rfl | (simp [errW_none, errW_some] <;> rfl) | (simp only [← hji75]; first | rfl | (simp [errW_none, errW_some] <;> rfl)) | (simp [*, errW_none, errW_some] <;> rfl), by repeat (first | (with_reducible first | exact HB.out | apply below_alloc | apply pw_below_drewN | apply below_drew1 | refine below_set ?_ GE167.out | refine below_set ?_ GE171.out) | exact HB.out)⟩
                              · rw [if_neg c77] at H
                                exact absurd H (by simp)
                            · rw [if_neg c76] at H
                              exact absurd H (by simp)
                  · rw [if_neg c47] at H
                    exact absurd H (by simp)

end Go.Proofs.YtejmbmhehbcflaaDoor.Pr
