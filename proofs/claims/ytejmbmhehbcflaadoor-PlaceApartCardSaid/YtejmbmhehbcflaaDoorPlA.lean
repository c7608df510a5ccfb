/- The law PlaceApart: the walk. -/
import Derived.Test.YtejmbmhehbcflaaDoorPlP
import Derived.OpenShut
namespace Go.Proofs.YtejmbmhehbcflaaDoor.Nam
open Go.RowKit Go.Proofs.YtejmbmhehbcflaaDoor.Pr Go.Proofs.YtejmbmhehbcflaaDoorW.PrintWords Go.Proofs.YtejmbmhehbcflaaDoorW.PrintLast Go.Proofs.YtejmbmhehbcflaaDoorW.PrintMore
set_option linter.unusedSimpArgs false
set_option linter.unusedVariables false
set_option maxRecDepth 100000

set_option maxHeartbeats 4000000 in
theorem plapart_walk (m : Int) (hm : 0 ≤ m ∧ m < 256) (w : World) : Calls Tryd.prog 3 #[.int .u8 m] w fun e w' => e = .returned (.bool true) ∧ Below w.heap.size w w' := by
  obtain ⟨n, hn⟩ : ∃ n : Nat, (n : Int) = 1 + m % 64 := ⟨(1 + m % 64).toNat, by omega⟩
  have h64 : 1 ≤ n ∧ n ≤ 64 := by omega
  have hnew := Lib.hid (new_f n h64)
  replace hn := Lib.hid hn
  obtain ⟨sz, hsz⟩ : ∃ q : Int, q = ((8 + 4 * n : Nat) : Int) := ⟨_, rfl⟩
  have hsn := size_n n h64
  rw [← hsz] at hsn
  replace hsz := Lib.hid hsz
  replace hsn := Lib.hid hsn
  go_enter Tryd.func3, Tryd.ntmps3
  go_upto_region 4 with (go_at_call 16; rw [← hn.out]; refine (place_New.calls n n 0 _ hnew.out).mono ?_; rintro e w1 ⟨rfl, hb1⟩)
  obtain ⟨b, hbb⟩ : ∃ b, b = w1.heap.size := ⟨_, rfl⟩
  have hBx := below_alloc hb1 (.cells #[.int .i64 n] 23)
  have hx0 := heap_alloc_new w1 (.cells #[.int .i64 n] 23)
  obtain ⟨wx, hwx⟩ : ∃ wx, wx = w1.alloc (.cells #[.int .i64 n] 23) := ⟨_, rfl⟩
  have hbx : b < wx.heap.size := by rw [hwx, hbb]; simp
  have hwb : w.heap.size ≤ b := by rw [hbb]; exact hb1.size
  rw [← hwx, ← hbb] at hx0
  rw [← hwx] at hBx
  rw [← hwx, ← hbb]
  replace hwx := Lib.hid hwx
  replace hbb := Lib.hid hbb
  clear hb1
  go_upto_region 5 with ((with_reducible refine gate_dst (N := 20) rfl ?_); refine Kd.R_make Kd.bool (w0 := wx) (W := wx) wx.heap.size 4 rfl (N := 20) rfl 27 _ _ rfl (300 : Int) rfl rfl Tryd.underlying27 (.bool false) 1 infoB rfl (by decide) (by decide) false (ok := fun _ => True) (okp := fun _ => False) rfl (fun _ hk => hk.elim) trivial (by omega) (by omega) (Below.refl _ _) (Nat.le_refl _) ?_; intro v2 w2 hR2 hB2 hg2 ho2)
  obtain ⟨g, cap, hvv, hg0, hg1, _⟩ := Kd.R_form hR2 (by simp)
  subst hvv
  have hl300 : (List.replicate (Int.toNat 300) false).length = 300 := by simp
  rw [hl300] at hR2
  have hR0 : Hid (Kd.R Kd.bool 4 w2 wx.heap.size (fun _ => True) (.slice (some ⟨g, 0, none⟩) 300 cap) (seenL n 0 0)) := by
    rw [seen_zero]
    exact Lib.hid hR2
  have hB0 : Hid (Below w.heap.size w w2) := below_then hBx hBx.size hB2
  have h00 : Hid (w2.heap[b]? = some (.cells #[.int .i64 n] 23 (0, 0))) := (hB2.block b hbx).trans hx0
  rw [hl300]
  have hwg : w.heap.size ≤ g := Nat.le_trans hBx.size hg0
  have hbg : b < g := Nat.lt_of_lt_of_le hbx hg0
  have hBx' := Lib.hid hBx
  clear hR2 hB2 hg2 ho2 hx0 hBx hl300
  have hxw := hBx'
  clear hBx'
  go_upto_region 6 with (fail)
  go_loopw [6] (fun i wr => ∃ k : Nat, k ≤ n ∧ i = .int .i64 k ∧ Hid (Kd.R Kd.bool 4 wr wx.heap.size (fun _ => True) (.slice (some ⟨g, 0, none⟩) 300 cap) (seenL n k 0)) ∧ Hid (wr.heap[b]? = some (.cells #[.int .i64 n] 23 (0, 0))) ∧ Hid (Below w.heap.size w wr)) (fun i _ => n - (intOf i).toNat)
  case atStart => exact ⟨0, Nat.zero_le _, rfl, hR0, h00, hB0⟩
  case round =>
    obtain ⟨k, hk, rfl, hRk, h0k, hBk⟩ := hrel
    clear hR0 h00 hB0
    obtain ⟨wo, rfl⟩ : ∃ wo : World, wo = wr := ⟨_, rfl⟩
    have hbr : b < wo.heap.size := (Array.getElem?_eq_some_iff.1 h0k.out).1
    have hc0 := cell_of_heap (j := 0) h0k.out rfl
    by_cases hlt : k < n
    · have hcn : (k : Int) < (n : Int) := by omega
      go_upto_region 8 with (fail)
      have hBz := below_drew (Below.refl wo.heap.size wo)
      have hz := (hBz.block b hbr).trans h0k.out
      obtain ⟨q0, hq0⟩ : ∃ q : Int, q = ((8 + 0 * n + k : Nat) : Int) := ⟨_, rfl⟩
      obtain ⟨q1, hq1⟩ : ∃ q : Int, q = ((8 + 1 * n + k : Nat) : Int) := ⟨_, rfl⟩
      obtain ⟨q2, hq2⟩ : ∃ q : Int, q = ((8 + 2 * n + k : Nat) : Int) := ⟨_, rfl⟩
      obtain ⟨q3, hq3⟩ : ∃ q : Int, q = ((8 + 3 * n + k : Nat) : Int) := ⟨_, rfl⟩
      have n0 := next_f n k h64 hlt
      have n1 := blocked_f n k h64 hlt
      have n2 := watch_f n k h64 hlt
      have n3 := permit_f n k h64 hlt
      rw [← hq0] at n0
      rw [← hq1] at n1
      rw [← hq2] at n2
      rw [← hq3] at n3
      replace hq0 := Lib.hid hq0
      replace hq1 := Lib.hid hq1
      replace hq2 := Lib.hid hq2
      replace hq3 := Lib.hid hq3
      replace n0 := Lib.hid n0
      replace n1 := Lib.hid n1
      replace n2 := Lib.hid n2
      replace n3 := Lib.hid n3
      refine start_ (n := 15) (S := fun w' => w'.cell? ⟨b, 0, none⟩ = some (.int .i64 (n : Int))) (ds := []) #[false, false, false, false, false, false, false, false, false, false, false, false, false, false, false] (by kernel_rfl) rfl rfl ((cell_of_heap hz rfl)) (fun hHeld => ?_)
      refine pure_ (i := 1) (N := some 28) (v := ?_) (a' := ?_) #[false, true, false, false, false, false, false, false, false, false, false, false, false, false, false] rfl rfl (by kernel_rfl) (fun _ _ _ h => h) (Or.inl ⟨by rfl, ?_⟩) ?_ ?_
      rotate_left
      · intro w'
        go_simp
        with_reducible rfl
      rotate_left
      · simp only [Act.put, List.setIfInBounds_toArray, List.set_cons_zero, List.set_cons_succ, i64_w, i32_w]
        rfl
      refine pure_ (i := 4) (N := some 31) (v := ?_) (a' := ?_) #[false, true, false, false, true, false, false, false, false, false, false, false, false, false, false] rfl rfl (by kernel_rfl) (fun _ _ _ h => h) (Or.inl ⟨by rfl, ?_⟩) ?_ ?_
      rotate_left
      · intro w'
        go_simp
        with_reducible rfl
      rotate_left
      · simp only [Act.put, List.setIfInBounds_toArray, List.set_cons_zero, List.set_cons_succ, i64_w, i32_w]
        rfl
      refine pure_ (i := 7) (N := some 34) (v := ?_) (a' := ?_) #[false, true, false, false, true, false, false, true, false, false, false, false, false, false, false] rfl rfl (by kernel_rfl) (fun _ _ _ h => h) (Or.inl ⟨by rfl, ?_⟩) ?_ ?_
      rotate_left
      · intro w'
        go_simp
        with_reducible rfl
      rotate_left
      · simp only [Act.put, List.setIfInBounds_toArray, List.set_cons_zero, List.set_cons_succ, i64_w, i32_w]
        rfl
      refine pure_ (i := 10) (N := some 37) (v := ?_) (a' := ?_) #[false, true, false, false, true, false, false, true, false, false, true, false, false, false, false] rfl rfl (by kernel_rfl) (fun _ _ _ h => h) (Or.inl ⟨by rfl, ?_⟩) ?_ ?_
      rotate_left
      · intro w'
        go_simp
        with_reducible rfl
      rotate_left
      · simp only [Act.put, List.setIfInBounds_toArray, List.set_cons_zero, List.set_cons_succ, i64_w, i32_w]
        rfl
      refine pure_ (i := 14) (N := some 41) (v := ?_) (a' := ?_) #[false, true, false, false, true, false, false, true, false, false, true, false, false, false, true] rfl rfl (by kernel_rfl) (fun _ _ _ h => h) (Or.inl ⟨by rfl, ?_⟩) ?_ ?_
      rotate_left
      · intro w'
        go_simp
        with_reducible rfl
      rotate_left
      · simp only [Act.put, List.setIfInBounds_toArray, List.set_cons_zero, List.set_cons_succ, i64_w, i32_w]
        rfl
      refine take_ (i := 0) (N := some 27) (v := ?_) (a' := ?_) #[true, true, false, false, true, false, false, true, false, false, true, false, false, false, true] rfl rfl (by kernel_rfl) (fun _ _ _ h => h) (Or.inl ⟨by rfl, ?_⟩) hHeld ?_ ?_
      rotate_left
      · intro w' s0
        go_simp
        with_reducible rfl
      rotate_left
      · simp only [Act.put, List.setIfInBounds_toArray, List.set_cons_zero, List.set_cons_succ, i64_w, i32_w]
        rfl
      refine take_ (i := 3) (N := some 30) (v := ?_) (a' := ?_) #[true, true, false, true, true, false, false, true, false, false, true, false, false, false, true] rfl rfl (by kernel_rfl) (fun _ _ _ h => h) (Or.inl ⟨by rfl, ?_⟩) hHeld ?_ ?_
      rotate_left
      · intro w' s0
        go_simp
        with_reducible rfl
      rotate_left
      · simp only [Act.put, List.setIfInBounds_toArray, List.set_cons_zero, List.set_cons_succ, i64_w, i32_w]
        rfl
      refine take_ (i := 6) (N := some 33) (v := ?_) (a' := ?_) #[true, true, false, true, true, false, true, true, false, false, true, false, false, false, true] rfl rfl (by kernel_rfl) (fun _ _ _ h => h) (Or.inl ⟨by rfl, ?_⟩) hHeld ?_ ?_
      rotate_left
      · intro w' s0
        go_simp
        with_reducible rfl
      rotate_left
      · simp only [Act.put, List.setIfInBounds_toArray, List.set_cons_zero, List.set_cons_succ, i64_w, i32_w]
        rfl
      refine take_ (i := 9) (N := some 36) (v := ?_) (a' := ?_) #[true, true, false, true, true, false, true, true, false, true, true, false, false, false, true] rfl rfl (by kernel_rfl) (fun _ _ _ h => h) (Or.inl ⟨by rfl, ?_⟩) hHeld ?_ ?_
      rotate_left
      · intro w' s0
        go_simp
        with_reducible rfl
      rotate_left
      · simp only [Act.put, List.setIfInBounds_toArray, List.set_cons_zero, List.set_cons_succ, i64_w, i32_w]
        rfl
      refine one_ (i := 2) (N := some 29) #[true, true, true, true, true, false, true, true, false, true, true, false, false, false, true] rfl rfl (by kernel_rfl) (by decide) (fun K hK => ?_)
      refine goes_ Tryd.func17 (by kernel_rfl) rfl #[.agg #[.int .i64 (n : Int)], .int .i64 (k : Int)] (by rfl) rfl rfl (by simp only [List.map_toArray, List.map_cons, List.map_nil]; rfl) ?_
      with_reducible refine (place_Map_Next.calls n k _ _ n0.out).mono ?_
      rintro e wa ⟨rfl, hba⟩
      refine ⟨_, rfl, ?_⟩
      have hBa := below_then hBz hBz.size hba
      have ha := (hBa.block b hbr).trans h0k.out
      refine hK.out _ _ ((cell_of_heap ha rfl)) (fun hHeld => ?_)
      clear hK K
      refine norm_ (a' := ?_) ?_ ?_
      rotate_left
      · show Act.put _ (some 29) _ = _
        simp only [Act.put, List.setIfInBounds_toArray, List.set_cons_zero, List.set_cons_succ, i64_w, i32_w]
        rfl
      refine one_ (i := 5) (N := some 32) #[true, true, true, true, true, true, true, true, false, true, true, false, false, false, true] rfl rfl (by kernel_rfl) (by decide) (fun K hK => ?_)
      refine goes_ Tryd.func18 (by kernel_rfl) rfl #[.agg #[.int .i64 (n : Int)], .int .i64 (k : Int)] (by rfl) rfl rfl (by simp only [List.map_toArray, List.map_cons, List.map_nil]; rfl) ?_
      with_reducible refine (place_Map_Blocked.calls n k _ _ n1.out).mono ?_
      rintro e wb ⟨rfl, hbb⟩
      refine ⟨_, rfl, ?_⟩
      have hBb := below_then hBa hBa.size hbb
      have hb := (hBb.block b hbr).trans h0k.out
      refine hK.out _ _ ((cell_of_heap hb rfl)) (fun hHeld => ?_)
      clear hK K
      refine norm_ (a' := ?_) ?_ ?_
      rotate_left
      · show Act.put _ (some 32) _ = _
        simp only [Act.put, List.setIfInBounds_toArray, List.set_cons_zero, List.set_cons_succ, i64_w, i32_w]
        rfl
      refine one_ (i := 8) (N := some 35) #[true, true, true, true, true, true, true, true, true, true, true, false, false, false, true] rfl rfl (by kernel_rfl) (by decide) (fun K hK => ?_)
      refine goes_ Tryd.func19 (by kernel_rfl) rfl #[.agg #[.int .i64 (n : Int)], .int .i64 (k : Int)] (by rfl) rfl rfl (by simp only [List.map_toArray, List.map_cons, List.map_nil]; rfl) ?_
      with_reducible refine (place_Map_Watch.calls n k _ _ n2.out).mono ?_
      rintro e wc ⟨rfl, hbc⟩
      refine ⟨_, rfl, ?_⟩
      have hBc := below_then hBb hBb.size hbc
      have hc := (hBc.block b hbr).trans h0k.out
      refine hK.out _ _ ((cell_of_heap hc rfl)) (fun hHeld => ?_)
      clear hK K
      refine norm_ (a' := ?_) ?_ ?_
      rotate_left
      · show Act.put _ (some 35) _ = _
        simp only [Act.put, List.setIfInBounds_toArray, List.set_cons_zero, List.set_cons_succ, i64_w, i32_w]
        rfl
      refine one_ (i := 11) (N := some 38) #[true, true, true, true, true, true, true, true, true, true, true, true, false, false, true] rfl rfl (by kernel_rfl) (by decide) (fun K hK => ?_)
      refine goes_ Tryd.func20 (by kernel_rfl) rfl #[.agg #[.int .i64 (n : Int)], .int .i64 (k : Int)] (by rfl) rfl rfl (by simp only [List.map_toArray, List.map_cons, List.map_nil]; rfl) ?_
      with_reducible refine (place_Map_Permit.calls n k _ _ n3.out).mono ?_
      rintro e wd ⟨rfl, hbd⟩
      refine ⟨_, rfl, ?_⟩
      have hBd := below_then hBc hBc.size hbd
      have hd := (hBd.block b hbr).trans h0k.out
      refine hK.out _ _ ((cell_of_heap hd rfl)) (fun hHeld => ?_)
      clear hK K
      refine norm_ (a' := ?_) ?_ ?_
      rotate_left
      · show Act.put _ (some 38) _ = _
        simp only [Act.put, List.setIfInBounds_toArray, List.set_cons_zero, List.set_cons_succ, i64_w, i32_w]
        rfl
      refine one_ (i := 12) (N := some 39) #[true, true, true, true, true, true, true, true, true, true, true, true, true, false, true] rfl rfl (by kernel_rfl) (by decide) (fun K hK => ?_)
      refine value_ (w1 := ?_) (v := ?_) (by rfl) rfl ?_ ?_
      rotate_left 2
      · go_simp
        constructor
        · rfl
        · rfl
      have hBe := below_alloc hBd (.cells #[.int .i64 q0, .int .i64 q1, .int .i64 q2, .int .i64 q3] 3)
      have he := (hBe.block b hbr).trans h0k.out
      refine hK.out _ _ ((cell_of_heap he rfl)) (fun hHeld => ?_)
      clear hK K
      refine norm_ (a' := ?_) ?_ ?_
      rotate_left
      · show Act.put _ (some 39) _ = _
        simp only [Act.put, List.setIfInBounds_toArray, List.set_cons_zero, List.set_cons_succ, i64_w, i32_w]
        rfl
      refine pure_ (i := 13) (N := some 40) (v := ?_) (a' := ?_) #[true, true, true, true, true, true, true, true, true, true, true, true, true, true, true] rfl rfl (by kernel_rfl) (fun _ _ _ h => h) (Or.inl ⟨by rfl, ?_⟩) ?_ ?_
      rotate_left
      · intro w'
        go_simp
        with_reducible rfl
      rotate_left
      · simp only [Act.put, List.setIfInBounds_toArray, List.set_cons_zero, List.set_cons_succ, i64_w, i32_w]
        rfl
      refine done_ (by kernel_rfl) ?_
      have hcl := heap_alloc_new wd (.cells #[.int .i64 q0, .int .i64 q1, .int .i64 q2, .int .i64 q3] 3)
      obtain ⟨gl, hgl⟩ : ∃ gl, gl = wd.heap.size := ⟨_, rfl⟩
      obtain ⟨we, hwe⟩ : ∃ we, we = wd.alloc (.cells #[.int .i64 q0, .int .i64 q1, .int .i64 q2, .int .i64 q3] 3) := ⟨_, rfl⟩
      rw [← hwe] at hcl hBe he
      rw [← hgl] at hcl
      have hglo : wo.heap.size ≤ gl := by rw [hgl]; exact hBd.size
      rw [← hwe, ← hgl]
      replace hwe := Lib.hid hwe
      replace hgl := Lib.hid hgl
      have hgo : g < wo.heap.size := Kd.R_lt hRk.out g rfl
      have hRe : Hid (Kd.R Kd.bool 4 we wx.heap.size (fun _ => True) (.slice (some ⟨g, 0, none⟩) 300 cap) (seenL n k 0)) := Kd.R_below hRk.out hBe
      have hBwe : Hid (Below w.heap.size w we) := below_then hBk.out hBk.out.size hBe
      replace hcl := Lib.hid hcl
      replace he := Lib.hid he
      clear hBz hBa hBb hBc hBd hBe hz ha hb hc hd
      go_upto_region 9 with (fail)
      go_loopw [41] (fun j wr => ∃ r : Nat, r ≤ 4 ∧ j = .int .i64 r ∧ Hid (Kd.R Kd.bool 4 wr wx.heap.size (fun _ => True) (.slice (some ⟨g, 0, none⟩) 300 cap) (seenL n k r)) ∧ Hid (wr.heap[b]? = some (.cells #[.int .i64 n] 23 (0, 0))) ∧ Hid (Below w.heap.size w wr) ∧ Hid (wr.heap[gl]? = some (.cells #[.int .i64 q0, .int .i64 q1, .int .i64 q2, .int .i64 q3] 3 (0, 0)))) (fun j _ => 4 - (intOf j).toNat)
      case atStart => exact ⟨0, by omega, rfl, hRe, he, hBwe, hcl⟩
      case round =>
        obtain ⟨r, hr, rfl, hRr, hbr', hBr, hclr⟩ := hrel
        clear hRe he hBwe hcl
        have hcr := cell_of_heap (j := 0) hbr'.out rfl
        by_cases hr4 : r < 4
        · have hr4' : (r : Int) < 4 := by omega
          obtain ⟨c, hc⟩ : ∃ c : Int, c = ((8 + r * n + k : Nat) : Int) := ⟨_, rfl⟩
          have hcell : wr.cell? ⟨gl, r, none⟩ = some (.int .i64 c) := by
            refine cell_of_heap hclr.out ?_
            rw [hc]
            match r, hr4 with
            | 0, _ => rw [← hq0.out]; rfl
            | 1, _ => rw [← hq1.out]; rfl
            | 2, _ => rw [← hq2.out]; rfl
            | 3, _ => rw [← hq3.out]; rfl
          have hclt := cell_lt n k r hlt hr4
          have hc8 : 8 ≤ c := by omega
          have hcs : c < 8 + 4 * n := by omega
          have hc3 : c < 300 := by omega
          have hcn' : ((c.toNat : Nat) : Int) = c := by omega
          have hct : c.toNat = 8 + r * n + k := by omega
          obtain ⟨hsc, hsf⟩ := Kd.R_celln false hRr.out c (by omega) (by omega)
          have hmk := seen_at n k r c.toNat (by omega)
          rw [hcn'] at hmk
          rw [hmk, hct, mk_here n k r hlt, ← hct] at hsc
          obtain ⟨nm1, nm2⟩ := name_full n c.toNat h64 (by omega) (by omega)
          rw [hcn'] at nm1 nm2
          have t1 : decide (c < 8) = false := by simp; omega
          have t2 : decide (c ≥ sz) = false := by simp; rw [hsz.out]; omega
          have t3 : decide (c ≥ 300) = false := by simp; omega
          replace hc := Lib.hid hc
          replace hct := Lib.hid hct
          replace hcn' := Lib.hid hcn'
          replace hmk := Lib.hid hmk
          go_upto_region 11 with (fail)
          have hgr : g < wr.heap.size := Kd.R_lt hRr.out g rfl
          have hbq : b < wr.heap.size := (Array.getElem?_eq_some_iff.1 hbr'.out).1
          have hc0' : 0 ≤ c := by omega
          have hsc' := Lib.hid hsc
          have hRr' := hRr
          go_wp2_with (first
            | (go_at_call 21; refine (place_Map_Size.calls n sz _ hsn.out).mono ?_; rintro e wv1 ⟨rfl, hB1⟩; have h1 := cell_of_heap (j := 0) ((hB1.block b hbq).trans hbr'.out) rfl; have hs1 := cell_keep hB1 hsc'.out)
            | (go_at_call 22; refine (name_walk n 1 c _).mono ?_; rintro e wv2 ⟨rfl, hb2⟩; have hB2 := below_then hB1 hB1.size hb2; have h2 := (hB2.block b hbq).trans hbr'.out; have hRy : Kd.R Kd.bool 4 wv2 wx.heap.size (fun _ => True) (.slice (some ⟨g, 0, none⟩) 300 cap) (seenL n k r) := Kd.R_below hRr'.out hB2; obtain ⟨hsc2, hsf2⟩ := Kd.R_celln false hRy c (by omega) (by omega); clear hb2))
          go_roundw
          case rel =>
            refine ⟨r + 1, by omega, by go_num, ?_, ?_, ?_, ?_⟩
            · have h := Kd.R_putn hRy c true
              rw [hct.out, seen_set n k r hlt hr4] at h
              rw [hct.out]
              exact h
            · exact (Below.heap_setCell _ _ _ b (by simp; omega)).trans h2
            · exact (below_then hBr.out hBr.out.size hB2).setCell (p := ⟨g, c.toNat, none⟩) hwg _
            · exact (Below.heap_setCell _ _ _ gl (by simp; omega)).trans ((hB2.block gl (Array.getElem?_eq_some_iff.1 hclr.out).1).trans hclr.out)
          case measure => simp [intOf]; omega
        · obtain rfl : r = 4 := by omega
          go_wp2
          go_roundw
          case rel => exact ⟨k + 1, by omega, by go_num, by rw [← seen_next n k h64.1]; exact hRr, hbr', hBr⟩
          case measure => simp [intOf]; omega
    · obtain rfl : n = k := by omega
      go_upto_region 16 with (fail)
      go_loopw [9] (fun v wr => ∃ a : Int, 8 ≤ a ∧ a ≤ 8 + 4 * n ∧ v = .int .i64 a ∧ Hid (Kd.R Kd.bool 4 wr wx.heap.size (fun _ => True) (.slice (some ⟨g, 0, none⟩) 300 cap) (seenL n n 0)) ∧ Hid (wr.heap[b]? = some (.cells #[.int .i64 n] 23 (0, 0))) ∧ Hid (Below w.heap.size w wr)) (fun v _ => 8 + 4 * n - (intOf v).toNat)
      case atStart => exact ⟨8, by omega, by omega, rfl, hRk, h0k, hBk⟩
      case round =>
        obtain ⟨a, ha8, haN, rfl, hRa, h0a, hBa⟩ := hrel
        clear hRk h0k hBk hbr hc0
        obtain ⟨wp, rfl⟩ : ∃ wp : World, wp = wr := ⟨_, rfl⟩
        have hbr : b < wp.heap.size := (Array.getElem?_eq_some_iff.1 h0a.out).1
        have hc0 := cell_of_heap (j := 0) h0a.out rfl
        by_cases hlt : a < 8 + 4 * n
        · have u1 : decide (a < sz) = true := by simp; rw [hsz.out]; omega
          have u2 : decide (a < 300) = true := by simp; omega
          have hac : ((a.toNat : Nat) : Int) = a := by omega
          obtain ⟨hsc, hsf⟩ := Kd.R_celln false hRa.out a (by omega) (by omega)
          have hmk := seen_at n n 0 a.toNat (by omega)
          rw [hac] at hmk
          rw [hmk, mk_all n a.toNat h64.1 (by omega) (by omega)] at hsc
          have ha0 : 0 ≤ a := by omega
          have ha3 : a < 300 := by omega
          clear hmk hsf
          replace hac := Lib.hid hac
          replace hsc := Lib.hid hsc
          go_upto_region 18 with (go_at_call 21; refine (place_Map_Size.calls n sz _ hsn.out).mono ?_; rintro e wv1 ⟨rfl, hB1⟩; have h1 := cell_of_heap (j := 0) ((hB1.block b hbr).trans h0a.out) rfl)
          have hBz := below_drew hB1
          have hz := (hBz.block b hbr).trans h0a.out
          by_cases h8 : a > 8
          · have hw1 : wrap64 (a - 1) = a - 1 := wrap_in (by omega) (by omega)
            have u3 : decide (a > 8) = true := by simp; omega
            have nn := name_ne n a.toNat h64 (by omega) (by omega)
            rw [hac.out] at nn
            rw [← hw1] at nn
            replace hw1 := Lib.hid hw1
            refine start_ (n := 19) (S := fun w' => w'.cell? ⟨b, 0, none⟩ = some (.int .i64 (n : Int)) ∧ w'.cell? ⟨g, a.toNat, none⟩ = some (.bool true)) (ds := []) #[false, false, false, false, false, false, false, false, false, false, false, false, false, false, false, false, false, false, false] (by kernel_rfl) rfl rfl ⟨(cell_of_heap hz rfl), (cell_keep hBz hsc.out)⟩ (fun hHeld => ?_)
            refine pure_ (i := 0) (N := some 83) (v := ?_) (a' := ?_) #[true, false, false, false, false, false, false, false, false, false, false, false, false, false, false, false, false, false, false] rfl rfl (by kernel_rfl) (fun _ _ _ h => h) (Or.inl ⟨by rfl, ?_⟩) ?_ ?_
            rotate_left
            · intro w'
              go_simp
              with_reducible rfl
            rotate_left
            · simp only [Act.put, List.setIfInBounds_toArray, List.set_cons_zero, List.set_cons_succ, i64_w, i32_w]
              rfl
            refine pure_ (i := 1) (N := some 84) (v := ?_) (a' := ?_) #[true, true, false, false, false, false, false, false, false, false, false, false, false, false, false, false, false, false, false] rfl rfl (by kernel_rfl) (fun _ _ _ h => h) (Or.inl ⟨by rfl, ?_⟩) ?_ ?_
            rotate_left
            · intro w'
              go_simp
              with_reducible rfl
            rotate_left
            · simp only [Act.put, List.setIfInBounds_toArray, List.set_cons_zero, List.set_cons_succ, i64_w, i32_w]
              rfl
            refine pure_ (i := 2) (N := some 85) (v := ?_) (a' := ?_) #[true, true, true, false, false, false, false, false, false, false, false, false, false, false, false, false, false, false, false] rfl rfl (by kernel_rfl) (fun _ _ _ h => h) (Or.inl ⟨by rfl, ?_⟩) ?_ ?_
            rotate_left
            · intro w'
              go_simp
              with_reducible rfl
            rotate_left
            · simp only [Act.put, List.setIfInBounds_toArray, List.set_cons_zero, List.set_cons_succ, i64_w, i32_w]
              rfl
            refine take_ (i := 3) (N := some 86) (v := ?_) (a' := ?_) #[true, true, true, true, false, false, false, false, false, false, false, false, false, false, false, false, false, false, false] rfl rfl (by kernel_rfl) (fun _ _ _ h => h) (Or.inl ⟨by rfl, ?_⟩) hHeld ?_ ?_
            rotate_left
            · rintro w' ⟨s0, s1⟩
              go_simp
              with_reducible rfl
            rotate_left
            · simp only [Act.put, List.setIfInBounds_toArray, List.set_cons_zero, List.set_cons_succ, i64_w, i32_w]
              rfl
            refine pure_ (i := 4) (N := some 87) (v := ?_) (a' := ?_) #[true, true, true, true, true, false, false, false, false, false, false, false, false, false, false, false, false, false, false] rfl rfl (by kernel_rfl) (fun _ _ _ h => h) (Or.inl ⟨by rfl, ?_⟩) ?_ ?_
            rotate_left
            · intro w'
              go_simp
              with_reducible rfl
            rotate_left
            · simp only [Act.put, List.setIfInBounds_toArray, List.set_cons_zero, List.set_cons_succ, i64_w, i32_w]
              rfl
            refine pure_ (i := 5) (N := some 88) (v := ?_) (a' := ?_) #[true, true, true, true, true, true, false, false, false, false, false, false, false, false, false, false, false, false, false] rfl rfl (by kernel_rfl) (fun _ _ _ h => h) (Or.inl ⟨by rfl, ?_⟩) ?_ ?_
            rotate_left
            · intro w'
              go_simp
              with_reducible rfl
            rotate_left
            · simp only [Act.put, List.setIfInBounds_toArray, List.set_cons_zero, List.set_cons_succ, i64_w, i32_w]
              rfl
            refine pure_ (i := 6) (N := some 89) (v := ?_) (a' := ?_) #[true, true, true, true, true, true, true, false, false, false, false, false, false, false, false, false, false, false, false] rfl rfl (by kernel_rfl) (fun _ _ _ h => h) (Or.inl ⟨by rfl, ?_⟩) ?_ ?_
            rotate_left
            · intro w'
              go_simp
              with_reducible rfl
            rotate_left
            · simp only [Act.put, List.setIfInBounds_toArray, List.set_cons_zero, List.set_cons_succ, i64_w, i32_w]
              rfl
            refine pure_ (i := 7) (N := some 90) (v := ?_) (a' := ?_) #[true, true, true, true, true, true, true, true, false, false, false, false, false, false, false, false, false, false, false] rfl rfl (by kernel_rfl) (fun _ _ _ h => h) (Or.inl ⟨by rfl, ?_⟩) ?_ ?_
            rotate_left
            · intro w'
              go_simp
              with_reducible rfl
            rotate_left
            · simp only [Act.put, List.setIfInBounds_toArray, List.set_cons_zero, List.set_cons_succ, i64_w, i32_w]
              rfl
            refine pure_ (i := 8) (N := some 91) (v := ?_) (a' := ?_) #[true, true, true, true, true, true, true, true, true, false, false, false, false, false, false, false, false, false, false] rfl rfl (by kernel_rfl) (fun _ _ _ h => h) (Or.inl ⟨by rfl, ?_⟩) ?_ ?_
            rotate_left
            · intro w'
              go_simp
              with_reducible rfl
            rotate_left
            · simp only [Act.put, List.setIfInBounds_toArray, List.set_cons_zero, List.set_cons_succ, i64_w, i32_w]
              rfl
            refine pure_ (i := 10) (N := some 93) (v := ?_) (a' := ?_) #[true, true, true, true, true, true, true, true, true, false, true, false, false, false, false, false, false, false, false] rfl rfl (by kernel_rfl) (fun _ _ _ h => h) (Or.inl ⟨by rfl, ?_⟩) ?_ ?_
            rotate_left
            · intro w'
              go_simp
              with_reducible rfl
            rotate_left
            · simp only [Act.put, List.setIfInBounds_toArray, List.set_cons_zero, List.set_cons_succ, i64_w, i32_w]
              rfl
            refine pure_ (i := 13) (N := some 96) (v := ?_) (a' := ?_) #[true, true, true, true, true, true, true, true, true, false, true, false, false, true, false, false, false, false, false] rfl rfl (by kernel_rfl) (fun _ _ _ h => h) (Or.inl ⟨by rfl, ?_⟩) ?_ ?_
            rotate_left
            · intro w'
              go_simp
              with_reducible rfl
            rotate_left
            · simp only [Act.put, List.setIfInBounds_toArray, List.set_cons_zero, List.set_cons_succ, i64_w, i32_w]
              rfl
            refine pure_ (i := 14) (N := some 97) (v := ?_) (a' := ?_) #[true, true, true, true, true, true, true, true, true, false, true, false, false, true, true, false, false, false, false] rfl rfl (by kernel_rfl) (fun _ _ _ h => h) (Or.inl ⟨by rfl, ?_⟩) ?_ ?_
            rotate_left
            · intro w'
              go_simp
              with_reducible rfl
            rotate_left
            · simp only [Act.put, List.setIfInBounds_toArray, List.set_cons_zero, List.set_cons_succ, i64_w, i32_w]
              rfl
            refine take_ (i := 9) (N := some 92) (v := ?_) (a' := ?_) #[true, true, true, true, true, true, true, true, true, true, true, false, false, true, true, false, false, false, false] rfl rfl (by kernel_rfl) (fun _ _ _ h => h) (Or.inl ⟨by rfl, ?_⟩) hHeld ?_ ?_
            rotate_left
            · rintro w' ⟨s0, s1⟩
              go_simp
              with_reducible rfl
            rotate_left
            · simp only [Act.put, List.setIfInBounds_toArray, List.set_cons_zero, List.set_cons_succ, i64_w, i32_w]
              rfl
            refine take_ (i := 12) (N := some 95) (v := ?_) (a' := ?_) #[true, true, true, true, true, true, true, true, true, true, true, false, true, true, true, false, false, false, false] rfl rfl (by kernel_rfl) (fun _ _ _ h => h) (Or.inl ⟨by rfl, ?_⟩) hHeld ?_ ?_
            rotate_left
            · rintro w' ⟨s0, s1⟩
              go_simp
              with_reducible rfl
            rotate_left
            · simp only [Act.put, List.setIfInBounds_toArray, List.set_cons_zero, List.set_cons_succ, i64_w, i32_w]
              rfl
            refine one_ (i := 11) (N := some 94) #[true, true, true, true, true, true, true, true, true, true, true, true, true, true, true, false, false, false, false] rfl rfl (by kernel_rfl) (by decide) (fun K hK => ?_)
            refine goes_ Tryd.func22 (by kernel_rfl) rfl #[.agg #[.int .i64 (n : Int)], .int .i64 2, .int .i64 a] (by rfl) rfl rfl (by simp only [List.map_toArray, List.map_cons, List.map_nil]; rfl) ?_
            with_reducible refine (name_walk n 2 a _).mono ?_
            rintro e wa ⟨rfl, hba⟩
            refine ⟨_, rfl, ?_⟩
            have hBa_ := below_then hBz hBz.size hba
            have ha := (hBa_.block b hbr).trans h0a.out
            refine hK.out _ _ ⟨(cell_of_heap ha rfl), (cell_keep hBa_ hsc.out)⟩ (fun hHeld => ?_)
            clear hK K
            refine norm_ (a' := ?_) ?_ ?_
            rotate_left
            · show Act.put _ (some 94) _ = _
              simp only [Act.put, List.setIfInBounds_toArray, List.set_cons_zero, List.set_cons_succ, i64_w, i32_w]
              rfl
            refine one_ (i := 15) (N := some 98) #[true, true, true, true, true, true, true, true, true, true, true, true, true, true, true, true, false, false, false] rfl rfl (by kernel_rfl) (by decide) (fun K hK => ?_)
            refine goes_ Tryd.func22 (by kernel_rfl) rfl #[.agg #[.int .i64 (n : Int)], .int .i64 2, .int .i64 (wrap64 (a - 1))] (by rfl) rfl rfl (by simp only [List.map_toArray, List.map_cons, List.map_nil]; rfl) ?_
            with_reducible refine (name_walk n 2 (wrap64 (a - 1)) _).mono ?_
            rintro e wb ⟨rfl, hbb⟩
            refine ⟨_, rfl, ?_⟩
            have hBb := below_then hBa_ hBa_.size hbb
            have hb := (hBb.block b hbr).trans h0a.out
            refine hK.out _ _ ⟨(cell_of_heap hb rfl), (cell_keep hBb hsc.out)⟩ (fun hHeld => ?_)
            clear hK K
            refine norm_ (a' := ?_) ?_ ?_
            rotate_left
            · show Act.put _ (some 98) _ = _
              simp only [Act.put, List.setIfInBounds_toArray, List.set_cons_zero, List.set_cons_succ, i64_w, i32_w]
              rfl
            refine pure_ (i := 16) (N := some 99) (v := ?_) (a' := ?_) #[true, true, true, true, true, true, true, true, true, true, true, true, true, true, true, true, true, false, false] rfl rfl (by kernel_rfl) (fun _ _ _ h => h) (Or.inl ⟨by rfl, ?_⟩) ?_ ?_
            rotate_left
            · intro w'
              go_simp
              with_reducible rfl
            rotate_left
            · simp only [Act.put, List.setIfInBounds_toArray, List.set_cons_zero, List.set_cons_succ, i64_w, i32_w]
              rfl
            refine pure_ (i := 17) (N := some 100) (v := ?_) (a' := ?_) #[true, true, true, true, true, true, true, true, true, true, true, true, true, true, true, true, true, true, false] rfl rfl (by kernel_rfl) (fun _ _ _ h => h) (Or.inl ⟨by rfl, ?_⟩) ?_ ?_
            rotate_left
            · intro w'
              go_simp
              with_reducible rfl
            rotate_left
            · simp only [Act.put, List.setIfInBounds_toArray, List.set_cons_zero, List.set_cons_succ, i64_w, i32_w]
              rfl
            refine pure_ (i := 18) (N := some 101) (v := ?_) (a' := ?_) #[true, true, true, true, true, true, true, true, true, true, true, true, true, true, true, true, true, true, true] rfl rfl (by kernel_rfl) (fun _ _ _ h => h) (Or.inl ⟨by rfl, ?_⟩) ?_ ?_
            rotate_left
            · intro w'
              go_simp
              with_reducible rfl
            rotate_left
            · simp only [Act.put, List.setIfInBounds_toArray, List.set_cons_zero, List.set_cons_succ, i64_w, i32_w]
              rfl
            refine done_ (by kernel_rfl) ?_
            go_wp2
            go_roundw
            case rel => exact ⟨a + 1, by omega, by omega, by go_num, Kd.R_below hRa.out hBb, hb, below_then hBa.out hBa.out.size hBb⟩
            case measure => simp [intOf]; omega
          · have u3 : decide (a > 8) = false := by simp; omega
            refine start_ (n := 19) (S := fun w' => w'.cell? ⟨b, 0, none⟩ = some (.int .i64 (n : Int)) ∧ w'.cell? ⟨g, a.toNat, none⟩ = some (.bool true)) (ds := []) #[false, false, false, false, false, false, false, false, false, false, false, false, false, false, false, false, false, false, false] (by kernel_rfl) rfl rfl ⟨(cell_of_heap hz rfl), (cell_keep hBz hsc.out)⟩ (fun hHeld => ?_)
            refine pure_ (i := 0) (N := some 83) (v := ?_) (a' := ?_) #[true, false, false, false, false, false, false, false, false, false, false, false, false, false, false, false, false, false, false] rfl rfl (by kernel_rfl) (fun _ _ _ h => h) (Or.inl ⟨by rfl, ?_⟩) ?_ ?_
            rotate_left
            · intro w'
              go_simp
              with_reducible rfl
            rotate_left
            · simp only [Act.put, List.setIfInBounds_toArray, List.set_cons_zero, List.set_cons_succ, i64_w, i32_w]
              rfl
            refine pure_ (i := 1) (N := some 84) (v := ?_) (a' := ?_) #[true, true, false, false, false, false, false, false, false, false, false, false, false, false, false, false, false, false, false] rfl rfl (by kernel_rfl) (fun _ _ _ h => h) (Or.inl ⟨by rfl, ?_⟩) ?_ ?_
            rotate_left
            · intro w'
              go_simp
              with_reducible rfl
            rotate_left
            · simp only [Act.put, List.setIfInBounds_toArray, List.set_cons_zero, List.set_cons_succ, i64_w, i32_w]
              rfl
            refine pure_ (i := 2) (N := some 85) (v := ?_) (a' := ?_) #[true, true, true, false, false, false, false, false, false, false, false, false, false, false, false, false, false, false, false] rfl rfl (by kernel_rfl) (fun _ _ _ h => h) (Or.inl ⟨by rfl, ?_⟩) ?_ ?_
            rotate_left
            · intro w'
              go_simp
              with_reducible rfl
            rotate_left
            · simp only [Act.put, List.setIfInBounds_toArray, List.set_cons_zero, List.set_cons_succ, i64_w, i32_w]
              rfl
            refine take_ (i := 3) (N := some 86) (v := ?_) (a' := ?_) #[true, true, true, true, false, false, false, false, false, false, false, false, false, false, false, false, false, false, false] rfl rfl (by kernel_rfl) (fun _ _ _ h => h) (Or.inl ⟨by rfl, ?_⟩) hHeld ?_ ?_
            rotate_left
            · rintro w' ⟨s0, s1⟩
              go_simp
              with_reducible rfl
            rotate_left
            · simp only [Act.put, List.setIfInBounds_toArray, List.set_cons_zero, List.set_cons_succ, i64_w, i32_w]
              rfl
            refine pure_ (i := 4) (N := some 87) (v := ?_) (a' := ?_) #[true, true, true, true, true, false, false, false, false, false, false, false, false, false, false, false, false, false, false] rfl rfl (by kernel_rfl) (fun _ _ _ h => h) (Or.inl ⟨by rfl, ?_⟩) ?_ ?_
            rotate_left
            · intro w'
              go_simp
              with_reducible rfl
            rotate_left
            · simp only [Act.put, List.setIfInBounds_toArray, List.set_cons_zero, List.set_cons_succ, i64_w, i32_w]
              rfl
            refine pure_ (i := 5) (N := some 88) (v := ?_) (a' := ?_) #[true, true, true, true, true, true, false, false, false, false, false, false, false, false, false, false, false, false, false] rfl rfl (by kernel_rfl) (fun _ _ _ h => h) (Or.inl ⟨by rfl, ?_⟩) ?_ ?_
            rotate_left
            · intro w'
              go_simp
              with_reducible rfl
            rotate_left
            · simp only [Act.put, List.setIfInBounds_toArray, List.set_cons_zero, List.set_cons_succ, i64_w, i32_w]
              rfl
            refine pure_ (i := 6) (N := some 89) (v := ?_) (a' := ?_) #[true, true, true, true, true, true, true, false, false, false, false, false, false, false, false, false, false, false, false] rfl rfl (by kernel_rfl) (fun _ _ _ h => h) (Or.inl ⟨by rfl, ?_⟩) ?_ ?_
            rotate_left
            · intro w'
              go_simp
              with_reducible rfl
            rotate_left
            · simp only [Act.put, List.setIfInBounds_toArray, List.set_cons_zero, List.set_cons_succ, i64_w, i32_w]
              rfl
            refine pure_ (i := 7) (N := some 90) (v := ?_) (a' := ?_) #[true, true, true, true, true, true, true, true, false, false, false, false, false, false, false, false, false, false, false] rfl rfl (by kernel_rfl) (fun _ _ _ h => h) (Or.inl ⟨by rfl, ?_⟩) ?_ ?_
            rotate_left
            · intro w'
              go_simp
              with_reducible rfl
            rotate_left
            · simp only [Act.put, List.setIfInBounds_toArray, List.set_cons_zero, List.set_cons_succ, i64_w, i32_w]
              rfl
            refine pure_ (i := 8) (N := some 91) (v := ?_) (a' := ?_) #[true, true, true, true, true, true, true, true, true, false, false, false, false, false, false, false, false, false, false] rfl rfl (by kernel_rfl) (fun _ _ _ h => h) (Or.inl ⟨by rfl, ?_⟩) ?_ ?_
            rotate_left
            · intro w'
              go_simp
              with_reducible rfl
            rotate_left
            · simp only [Act.put, List.setIfInBounds_toArray, List.set_cons_zero, List.set_cons_succ, i64_w, i32_w]
              rfl
            refine pure_ (i := 9) (N := some 92) (v := undef) (a' := ?_) #[true, true, true, true, true, true, true, true, true, true, false, false, false, false, false, false, false, false, false] rfl rfl (by kernel_rfl) (fun _ _ _ h => h) (Or.inr ⟨by rfl, rfl⟩) ?_ ?_
            rotate_left
            · simp only [Act.put, List.setIfInBounds_toArray, List.set_cons_zero, List.set_cons_succ, i64_w, i32_w]
              rfl
            refine pure_ (i := 10) (N := some 93) (v := undef) (a' := ?_) #[true, true, true, true, true, true, true, true, true, true, true, false, false, false, false, false, false, false, false] rfl rfl (by kernel_rfl) (fun _ _ _ h => h) (Or.inr ⟨by rfl, rfl⟩) ?_ ?_
            rotate_left
            · simp only [Act.put, List.setIfInBounds_toArray, List.set_cons_zero, List.set_cons_succ, i64_w, i32_w]
              rfl
            refine pure_ (i := 11) (N := some 94) (v := undef) (a' := ?_) #[true, true, true, true, true, true, true, true, true, true, true, true, false, false, false, false, false, false, false] rfl rfl (by kernel_rfl) (fun _ _ _ h => h) (Or.inr ⟨by rfl, rfl⟩) ?_ ?_
            rotate_left
            · simp only [Act.put, List.setIfInBounds_toArray, List.set_cons_zero, List.set_cons_succ, i64_w, i32_w]
              rfl
            refine pure_ (i := 12) (N := some 95) (v := undef) (a' := ?_) #[true, true, true, true, true, true, true, true, true, true, true, true, true, false, false, false, false, false, false] rfl rfl (by kernel_rfl) (fun _ _ _ h => h) (Or.inr ⟨by rfl, rfl⟩) ?_ ?_
            rotate_left
            · simp only [Act.put, List.setIfInBounds_toArray, List.set_cons_zero, List.set_cons_succ, i64_w, i32_w]
              rfl
            refine pure_ (i := 13) (N := some 96) (v := undef) (a' := ?_) #[true, true, true, true, true, true, true, true, true, true, true, true, true, true, false, false, false, false, false] rfl rfl (by kernel_rfl) (fun _ _ _ h => h) (Or.inr ⟨by rfl, rfl⟩) ?_ ?_
            rotate_left
            · simp only [Act.put, List.setIfInBounds_toArray, List.set_cons_zero, List.set_cons_succ, i64_w, i32_w]
              rfl
            refine pure_ (i := 14) (N := some 97) (v := undef) (a' := ?_) #[true, true, true, true, true, true, true, true, true, true, true, true, true, true, true, false, false, false, false] rfl rfl (by kernel_rfl) (fun _ _ _ h => h) (Or.inr ⟨by rfl, rfl⟩) ?_ ?_
            rotate_left
            · simp only [Act.put, List.setIfInBounds_toArray, List.set_cons_zero, List.set_cons_succ, i64_w, i32_w]
              rfl
            refine pure_ (i := 15) (N := some 98) (v := undef) (a' := ?_) #[true, true, true, true, true, true, true, true, true, true, true, true, true, true, true, true, false, false, false] rfl rfl (by kernel_rfl) (fun _ _ _ h => h) (Or.inr ⟨by rfl, rfl⟩) ?_ ?_
            rotate_left
            · simp only [Act.put, List.setIfInBounds_toArray, List.set_cons_zero, List.set_cons_succ, i64_w, i32_w]
              rfl
            refine pure_ (i := 16) (N := some 99) (v := undef) (a' := ?_) #[true, true, true, true, true, true, true, true, true, true, true, true, true, true, true, true, true, false, false] rfl rfl (by kernel_rfl) (fun _ _ _ h => h) (Or.inr ⟨by rfl, rfl⟩) ?_ ?_
            rotate_left
            · simp only [Act.put, List.setIfInBounds_toArray, List.set_cons_zero, List.set_cons_succ, i64_w, i32_w]
              rfl
            refine pure_ (i := 17) (N := some 100) (v := ?_) (a' := ?_) #[true, true, true, true, true, true, true, true, true, true, true, true, true, true, true, true, true, true, false] rfl rfl (by kernel_rfl) (fun _ _ _ h => h) (Or.inl ⟨by rfl, ?_⟩) ?_ ?_
            rotate_left
            · intro w'
              go_simp
              with_reducible rfl
            rotate_left
            · simp only [Act.put, List.setIfInBounds_toArray, List.set_cons_zero, List.set_cons_succ, i64_w, i32_w]
              rfl
            refine pure_ (i := 18) (N := some 101) (v := ?_) (a' := ?_) #[true, true, true, true, true, true, true, true, true, true, true, true, true, true, true, true, true, true, true] rfl rfl (by kernel_rfl) (fun _ _ _ h => h) (Or.inl ⟨by rfl, ?_⟩) ?_ ?_
            rotate_left
            · intro w'
              go_simp
              with_reducible rfl
            rotate_left
            · simp only [Act.put, List.setIfInBounds_toArray, List.set_cons_zero, List.set_cons_succ, i64_w, i32_w]
              rfl
            refine done_ (by kernel_rfl) ?_
            go_wp2
            go_roundw
            case rel => exact ⟨a + 1, by omega, by omega, by go_num, Kd.R_below hRa.out hBz, hz, below_then hBa.out hBa.out.size hBz⟩
            case measure => simp [intOf]; omega
        · have u1 : decide (a < sz) = false := by simp; rw [hsz.out]; omega
          go_wp2_with (first
            | (go_at_call 21; refine (place_Map_Size.calls n sz _ hsn.out).mono ?_; rintro e wv1 ⟨rfl, hB1⟩)
            | (go_at_call 23; refine (stilemanlaw03_awake.calls true _ aw_f3).mono ?_; rintro e wv2 ⟨rfl, hb2⟩; have hB2 := below_then hB1 hB1.size hb2))
          go_ret
          exact ⟨rfl, below_then hBa.out hBa.out.size hB2⟩

theorem wf_u8 {x : Int} (h : (Lit.int .u8 x).wf = true) : 0 ≤ x ∧ x < 256 := by
  have := Go.bounds_u8 h
  omega

end Go.Proofs.YtejmbmhehbcflaaDoor.Nam
