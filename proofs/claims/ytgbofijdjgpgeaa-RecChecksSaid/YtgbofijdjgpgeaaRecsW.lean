/- rec.Calls: what it makes of any notes (100000 at most). -/
import Derived.Test.YtgbofijdjgpgeaaProg
import Derived.Test.YtgbofijdjgpgeaaRecsT
import Derived.Test.YtgbofijdjgpgeaaWLast
import Derived.Lib.Hide
import Derived.WalkSpells
import Derived.Deep.DeepMust
import Derived.Deep.RegionHeld3
import Derived.Deep.DeepCutAuto
import Derived.Deep.CutBlock
namespace Go.Proofs.Ytgbofijdjgpgeaa.Recs
open Go.RowKit Go.Proofs.YtgbofijdjgpgeaaW.PrintWords Go.Proofs.YtgbofijdjgpgeaaW.PrintMore Go.Proofs.YtgbofijdjgpgeaaW.PrintLast Go.Proofs.Ytgbofijdjgpgeaa.Fam

theorem infoInt : (Try.prog.info? 3).map (fun i => (i.zero, i.size, i.bytes)) = some (some (.int .i64 0), 1, 8) := by kernel_rfl
theorem infoCall : (Try.prog.info? 35).map (fun i => (i.zero, i.size, i.bytes)) = some (some (.agg #[.int .i64 0, .int .i64 0, .int .i64 0, .int .i64 0, .int .i64 0, .slice none 0 0]), 6, 64) := by kernel_rfl
theorem sizeInt : (Try.prog.info? 3).map (·.size) = some 1 := by kernel_rfl
theorem sizeInts : (Try.prog.info? 33).map (·.size) = some 1 := by kernel_rfl
theorem zeroInts (w : World) : (zeroValue 33).run Try.prog w = .ok (.slice none 0 0) w := by
  have h : (Try.prog.info? 33).map (·.zero) = some (some (.slice none 0 0)) := by kernel_rfl
  obtain ⟨i, hi, hz⟩ := Option.map_eq_some_iff.1 h
  simp [zeroValue, typeInfo, hi, hz]
theorem look_at {w : World} {mb : Nat} {m : IMap.M} (h : IMap.Is w mb m) (t : Int) {v : Value} (hv : (IMap.get m t).getD (.slice none 0 0) = v) : (Instr.lookup 126 (.map (some mb)) (.int .i64 t) false).run Try.prog w = .ok v w := by
  have := IMap.run_lookup h Try.underlying126 Try.underlying3 (zeroInts w) t false
  rw [hv] at this
  exact this
theorem cell_of_heap {w : World} {b j : Nat} {cells : Array Value} {t : TypeId} {v : Value} (h : w.heap[b]? = some (.cells cells t (0, 0))) (hv : cells[j]? = some v) : w.cell? ⟨b, j, none⟩ = some v := by
  simp [World.cell?, h, hv]
theorem step_call (k : Nat) (t o ar : Int) (os : List E) (cs : List (C × Sl)) (s : Sl) : (pl (gput os t (s, (ofTask os t).2 ++ [(cs.length : Int)])), fs (cs ++ [(⟨t, o, k, -1, 0, []⟩, nilS)])) = step (k : Int) (t, 1, o, ar) (pl os, fs cs) := by
  unfold step
  rw [if_pos rfl, pl_put, pl_get]
  simp
theorem step_return (k : Nat) (t o ar : Int) (os : List E) (cs cs' : List (C × Sl)) (h : fs cs' = ((ofTask os t).2).foldl (closed (k : Int) ar) (fs cs)) : (pl (gdel os t), fs cs') = step (k : Int) (t, 11, o, ar) (pl os, fs cs) := by
  unfold step
  rw [if_neg (by show ¬ ((11 : Int) = 1); decide), if_pos rfl, pl_del, pl_get, h]
theorem close_next (a r : Int) {cs : List (C × Sl)} {q : Nat} {c : C} {s : Sl} (hq : cs[q]? = some (c, s)) : fs (cs.set q ({ c with til := a, ret := r }, s)) = closed a r (fs cs) (q : Int) := by
  unfold closed
  rw [fs_set, Int.toNat_natCast, modify_at _ _ q c (by rw [List.getElem?_map, hq]; rfl)]
theorem step_point (k : Nat) (t wh o ar : Int) (os : List E) (cs cs' : List (C × Sl)) (h1 : ¬ wh = 1) (h2 : ¬ wh = 11) (h : fs cs' = ((ofTask os t).2).foldl (pointed (k : Int)) (fs cs)) : (pl os, fs cs') = step (k : Int) (t, wh, o, ar) (pl os, fs cs) := by
  unfold step
  rw [if_neg h1, if_neg h2, pl_get, h]
theorem point_next (a : Int) {cs : List (C × Sl)} {q : Nat} {c : C} {s s' : Sl} (hq : cs[q]? = some (c, s)) : fs (cs.set q ({ c with pts := c.pts ++ [a] }, s')) = pointed a (fs cs) (q : Int) := by
  unfold pointed
  rw [fs_set, Int.toNat_natCast, modify_at _ _ q c (by rw [List.getElem?_map, hq]; rfl)]
theorem wrap_next (j n : Nat) (h : j < n) (hn : n ≤ 100000) : wrap64 ((j : Int) + 1) = ((j + 1 : Nat) : Int) := by unfold wrap64; omega
theorem pts_set {cs : List (C × Sl)} {b : Nat} (h : ∀ c ∈ cs, c.1.pts.length ≤ b) (q : Nat) {p : C × Sl} (hp : p.1.pts.length ≤ b) : ∀ c ∈ cs.set q p, c.1.pts.length ≤ b := fun c hc => by
  rcases List.mem_or_eq_of_mem_set hc with hc | rfl
  · exact h c hc
  · exact hp
theorem drew_grown {w w1 : World} {row : Option Nat} (h : w.drew.grownBy w1 row) : w.grownBy w1 row := ⟨h.os, h.tape, h.output, h.size, h.block⟩
theorem drew_below {B : Nat} {w w1 : World} (h : Below B w.drew w1) : Below B w w1 := (below_drew (Below.refl B w)).trans h

theorem at_note {w : World} {A : Option Addr} {n : Nat} {xs : List (Int × Int × Int × Int)} (h : Kd.C nk w A n xs) (i : Nat) (h1 : i < n) :
    ∃ ad t wh o ar, A = some ad ∧ xs[i]? = some (t, wh, o, ar) ∧ w.cell? (ad.add (i * 4)) = some (.int .i64 t) ∧ w.cell? ⟨(ad.add (i * 4)).block, (ad.add (i * 4)).off + 1, none⟩ = some (.int .i64 wh) ∧ w.cell? ⟨(ad.add (i * 4)).block, (ad.add (i * 4)).off + 2, none⟩ = some (.int .i64 o) ∧ w.cell? ⟨(ad.add (i * 4)).block, (ad.add (i * 4)).off + 3, none⟩ = some (.int .i64 ar) := by
  have hn := h.1
  obtain ⟨ad, c, e, _, hK, hc0⟩ := Kd.C_get h (0, 0, 0, 0) (i : Int) (by omega) (by omega)
  have hc : ∀ j u, c[j]? = some u → w.cell? (ad.add (i * 4 + j)) = some u := hc0
  obtain rfl := nk_open hK
  have hx : xs[i]? = some (xs.getD (i : Int).toNat (0, 0, 0, 0)) := by
    rw [Int.toNat_natCast, List.getD_eq_getElem?_getD, List.getElem?_eq_getElem (by omega)]
    rfl
  exact ⟨ad, _, _, _, _, e, hx, hc 0 _ rfl, by rw [← add_field _ _ 1 (by omega)]; exact hc 1 _ rfl, by rw [← add_field _ _ 2 (by omega)]; exact hc 2 _ rfl, by rw [← add_field _ _ 3 (by omega)]; exact hc 3 _ rfl⟩

set_option linter.unusedSimpArgs false
set_option maxRecDepth 100000 in
set_option maxHeartbeats 4000000 in
theorem calls_walk (A : Option Addr) (cap n : Nat) (l : List (Int × Int × Int × Int)) (w : World) (hm : l.length ≤ cap) (hn : l.length = n) (hn1 : n ≤ 100000) (hC : Kd.C nk w A l.length l) :
    Calls Try.prog 65 #[.slice A l.length cap] w fun e w' => ∃ vo os cs, e = .returned vo ∧ St w w.heap.size w.heap.size os cs vo w' ∧ fs cs = calls l := by
  rw [hn] at hC hm ⊢
  have HC := Lib.hid hC
  have HN := Lib.hid hn
  clear hC hn
  have hS0 : Hid (St w w.heap.size w.heap.size [] [] (.slice none 0 0) (w.alloc (.map #[] 0))) := ⟨IMap.Is.made w, Kd.R_nil .., Fam.nil _ _, Nat.le_refl _, (Below.refl _ _).alloc (Nat.le_refl _) _⟩
  have hG0 : Hid (Good 0 [] []) := ⟨Nat.le_refl _, fun e he => (by cases he), fun c hc => (by cases hc)⟩
  have hmm := @run_makeMap Try.prog
  go_enter Try.func65, Try.ntmps65
  go_wp2
  clear hmm
  obtain ⟨mb, hmb⟩ : ∃ n, n = w.heap.size := ⟨_, rfl⟩
  rw [← hmb]
  replace hmb := Lib.hid hmb
  go_loopw [14, 3] (fun i vo wr => ∃ (k : Nat) (os : List E) (cs : List (C × Sl)), k ≤ n ∧ i = .int .i64 k ∧ Hid (St w mb mb os cs vo wr) ∧ Hid ((pl os, fs cs) = run 0 (l.take k) ([], [])) ∧ Hid (Good k os cs)) (fun i _ _ => n - (intOf i).toNat)
  case atStart => exact ⟨0, [], [], Nat.zero_le _, rfl, (by rw [← hmb.out] at hS0; exact hS0), rfl, hG0⟩
  case round =>
    clear hS0 hG0
    obtain ⟨k, os, cs, hk, rfl, hS, hR, hG⟩ := hrel
    by_cases hlt : k < n
    · have hbw : Below w.heap.size w wr := by have := hS.out.below; rw [hmb.out] at this; exact this
      obtain ⟨ad, t, wh, o, ar, rfl, hx, h0, h1, h2, h3⟩ := at_note (Kd.C_below HC.out hbw) k hlt
      have hnext := run_take l k _ hx ([], [])
      rw [← hR.out] at hnext
      replace hnext := Lib.hid hnext
      clear hbw hx
      obtain ⟨wa, hwa⟩ : ∃ wa, wa = wr.alloc (.cells #[.int .i64 t, .int .i64 wh, .int .i64 o, .int .i64 ar] 98) := ⟨_, rfl⟩
      have hSa := hS.out.grown (w1 := wa) hS.out.size (hwa ▸ (Below.refl _ _).alloc (Nat.le_refl _) _)
      have hoa : wa.heap[wr.heap.size]? = some (.cells #[.int .i64 t, .int .i64 wh, .int .i64 o, .int .i64 ar] 98 (0, 0)) := hwa ▸ heap_alloc_new wr _
      obtain ⟨ob, hob⟩ : ∃ ob, ob = wr.heap.size := ⟨_, rfl⟩
      rw [← hob] at hoa
      have hTr := Lib.hid (hSa.taskR t)
      have hGt := Lib.hid (hG.out.task t)
      have hv0 := getv os t
      obtain ⟨A0, c0, hAc⟩ := Kd.R_slice (hSa.taskR t)
      obtain ⟨n0, hn0⟩ : ∃ n0, n0 = (ofTask os t).2.length := ⟨_, rfl⟩
      rw [← hn0] at hAc
      rw [hAc] at hv0
      have htr := hSa.taskR t
      rw [hAc] at htr
      have hlen0 : n0 ≤ k := by rw [hn0]; exact hGt.out.1
      have hcl : cs.length ≤ k := hG.out.len
      have hform := Kd.R_slice hSa.row
      replace hSa := Lib.hid hSa
      replace hoa := Lib.hid hoa
      replace hn0 := Lib.hid hn0
      replace htr := Lib.hid htr
      replace hAc := Lib.hid hAc
      replace hv0 := Lib.hid hv0
      replace hlen0 := Lib.hid hlen0
      rw [List.length_map] at hform
      obtain ⟨Ao, co, rfl⟩ := hform
      go_upto_block 2 with (fail)
      rw [← hwa, ← hob]
      clear hwa hob h0 h1 h2 h3
      have hc0 : wa.cell? ⟨ob, 0, none⟩ = some (.int .i64 t) := cell_of_heap hoa.out rfl
      by_cases hw1 : wh = 1
      · subst hw1
        go_upto_region 13 with (fail)
        refine start_ (n := 12) (S := fun w' => w'.cell? ⟨ob, 0, none⟩ = some (.int .i64 t) ∧ (Instr.lookup 126 (.map (some mb)) (.int .i64 t) false).run Try.prog w' = .ok (.slice A0 n0 c0) w') (ds := [11]) #[false, false, false, false, false, false, false, false, false, false, false, false] (by kernel_rfl) rfl rfl ⟨hc0, look_at (w := wa.drew) (hSa.out.map.of_block rfl) t hv0.out⟩ (fun hHeld => ?_)
        refine pure_ (i := 0) (N := some 45) (v := ?_) (a' := ?_) #[true, false, false, false, false, false, false, false, false, false, false, false] rfl rfl (by kernel_rfl) (fun _ _ _ h => h) (Or.inl ⟨by rfl, ?_⟩) ?_ ?_
        rotate_left
        · intro w'
          go_simp
          with_reducible rfl
        rotate_left
        · simp only [Act.put, List.setIfInBounds_toArray, List.set_cons_zero, List.set_cons_succ, i64_w, i32_w]
          rfl
        refine pure_ (i := 1) (N := some 46) (v := ?_) (a' := ?_) #[true, true, false, false, false, false, false, false, false, false, false, false] rfl rfl (by kernel_rfl) (fun _ _ _ h => h) (Or.inl ⟨by rfl, ?_⟩) ?_ ?_
        rotate_left
        · intro w'
          go_simp
          with_reducible rfl
        rotate_left
        · simp only [Act.put, List.setIfInBounds_toArray, List.set_cons_zero, List.set_cons_succ, i64_w, i32_w]
          rfl
        refine pure_ (i := 3) (N := some 48) (v := ?_) (a' := ?_) #[true, true, false, true, false, false, false, false, false, false, false, false] rfl rfl (by kernel_rfl) (fun _ _ _ h => h) (Or.inl ⟨by rfl, ?_⟩) ?_ ?_
        rotate_left
        · intro w'
          go_simp
          with_reducible rfl
        rotate_left
        · simp only [Act.put, List.setIfInBounds_toArray, List.set_cons_zero, List.set_cons_succ, i64_w, i32_w]
          rfl
        refine pure_ (i := 4) (N := some 49) (v := ?_) (a' := ?_) #[true, true, false, true, true, false, false, false, false, false, false, false] rfl rfl (by kernel_rfl) (fun _ _ _ h => h) (Or.inl ⟨by rfl, ?_⟩) ?_ ?_
        rotate_left
        · intro w'
          go_simp
          with_reducible rfl
        rotate_left
        · simp only [Act.put, List.setIfInBounds_toArray, List.set_cons_zero, List.set_cons_succ, i64_w, i32_w]
          rfl
        refine pure_ (i := 7) (N := some 52) (v := ?_) (a' := ?_) #[true, true, false, true, true, false, false, true, false, false, false, false] rfl rfl (by kernel_rfl) (fun _ _ _ h => h) (Or.inl ⟨by rfl, ?_⟩) ?_ ?_
        rotate_left
        · intro w'
          go_simp
          with_reducible rfl
        rotate_left
        · simp only [Act.put, List.setIfInBounds_toArray, List.set_cons_zero, List.set_cons_succ, i64_w, i32_w]
          rfl
        refine pure_ (i := 8) (N := some 53) (v := ?_) (a' := ?_) #[true, true, false, true, true, false, false, true, true, false, false, false] rfl rfl (by kernel_rfl) (fun _ _ _ h => h) (Or.inl ⟨by rfl, ?_⟩) ?_ ?_
        rotate_left
        · intro w'
          go_simp
          with_reducible rfl
        rotate_left
        · simp only [Act.put, List.setIfInBounds_toArray, List.set_cons_zero, List.set_cons_succ, i64_w, i32_w]
          rfl
        refine take_ (i := 2) (N := some 47) (v := ?_) (a' := ?_) #[true, true, true, true, true, false, false, true, true, false, false, false] rfl rfl (by kernel_rfl) (fun _ _ _ h => h) (Or.inl ⟨by rfl, ?_⟩) hHeld ?_ ?_
        rotate_left
        · rintro w' ⟨s0, s1⟩
          go_simp
          with_reducible rfl
        rotate_left
        · simp only [Act.put, List.setIfInBounds_toArray, List.set_cons_zero, List.set_cons_succ, i64_w, i32_w]
          rfl
        refine take_ (i := 5) (N := some 50) (v := ?_) (a' := ?_) #[true, true, true, true, true, true, false, true, true, false, false, false] rfl rfl (by kernel_rfl) (fun _ _ _ h => h) (Or.inl ⟨by rfl, ?_⟩) hHeld ?_ ?_
        rotate_left
        · rintro w' ⟨s0, s1⟩
          go_simp
          with_reducible rfl
        rotate_left
        · simp only [Act.put, List.setIfInBounds_toArray, List.set_cons_zero, List.set_cons_succ, i64_w, i32_w]
          rfl
        refine take_ (i := 6) (N := some 51) (v := ?_) (a' := ?_) #[true, true, true, true, true, true, true, true, true, false, false, false] rfl rfl (by kernel_rfl) (fun _ _ _ h => h) (Or.inl ⟨by rfl, ?_⟩) hHeld ?_ ?_
        rotate_left
        · rintro w' ⟨s0, s1⟩
          go_simp
          with_reducible rfl
        rotate_left
        · simp only [Act.put, List.setIfInBounds_toArray, List.set_cons_zero, List.set_cons_succ, i64_w, i32_w]
          rfl
        refine one_ (i := 9) (N := some 54) #[true, true, true, true, true, true, true, true, true, true, false, false] rfl rfl (by kernel_rfl) (by decide) (fun K hK => ?_)
        refine value_ (w1 := ?_) (v := ?_) (by rfl) rfl ?_ ?_
        rotate_left 2
        · go_simp
          constructor
          · rfl
          · rfl
        have hoB := (Below.heap_alloc wa (.cells #[.int .i64 (cs.length : Int)] 3) ob (Array.getElem?_eq_some_iff.1 hoa.out).1).trans hoa.out
        have hmB := hSa.out.map.alloc (.cells #[.int .i64 (cs.length : Int)] 3)
        refine hK.out _ _ ⟨(cell_of_heap hoB rfl), look_at (w := World.drew (wa.alloc _)) (hmB.of_block rfl) t hv0.out⟩ (fun hHeld => ?_)
        clear hK K
        refine norm_ (a' := ?_) ?_ ?_
        rotate_left
        · show Act.put _ (some 54) _ = _
          simp only [Act.put, List.setIfInBounds_toArray, List.set_cons_zero, List.set_cons_succ, i64_w, i32_w]
          rfl
        refine one_ (i := 10) (N := some 55) #[true, true, true, true, true, true, true, true, true, true, true, false] rfl rfl (by kernel_rfl) (by decide) (fun K hK => ?_)
        refine Kd.R_append_step ik (w0 := w) (W := wa.drew) mb (by rfl) (.tmp 51) (.tmp 54) 33 3 (.int .i64 0) 8 rfl Try.underlying33 infoInt rfl (by decide) (by decide) (.slice A0 n0 c0) (ofTask os t).2 (cs.length : Int) [.int .i64 (cs.length : Int)] T (fun _ => False) rfl rfl ?aP (fun _ hk => hk.elim) (fun _ _ => trivial) ?aO ?aB ?aS ?aL ?_
        case aP => exact rfl
        case aO => exact Kd.R_drew htr.out
        case aB => exact below_drew hSa.out.below
        case aS => exact hSa.out.size
        case aL => have := hGt.out.1; omega
        intro v1 w1 hr1 hB1 hg1 hat1
        obtain ⟨A1, c1, rfl⟩ := Kd.R_slice hr1
        have hd1 := drew_grown hg1
        have hm1 := is_grown_int hSa.out.map htr.out hd1
        have hn1 := (Keep.of_grown_int htr.out hd1 ob _ _ hoa.out (by decide) (by decide)).trans hoa.out
        refine hK.out _ _ ⟨(cell_of_heap hn1 rfl), look_at hm1 t hv0.out⟩ (fun hHeld => ?_)
        clear hK K
        refine norm_ (a' := ?_) ?_ ?_
        rotate_left
        · show Act.put _ (some 55) _ = _
          simp only [Act.put, List.setIfInBounds_toArray, List.set_cons_zero, List.set_cons_succ, i64_w, i32_w]
          rfl
        refine last_ (i := 11) (N := none) #[true, true, true, true, true, true, true, true, true, true, true, true] rfl rfl (by kernel_rfl) (by decide) (fun K hK => ?_)
        obtain ⟨w2, hrun, hm2, hu2⟩ := IMap.run_update (P := Try.prog) hm1 Try.underlying126 Try.underlying3 t (.slice A1 ((ofTask os t).2 ++ [(cs.length : Int)]).length c1)
        refine skip_ (w1 := w2) (by rfl) rfl (upd_run rfl rfl rfl rfl hrun) ?_
        obtain ⟨hS2, hK2⟩ := hSa.out.put t (s1 := (A1, _, c1)) hr1 (by rw [← hAc.out] at hd1; exact hd1) (by rw [← hAc.out] at hat1; exact hat1) hB1 (by exact hm2) hu2
        refine hK.out _ _ ?_
        clear hK K
        refine done_ (by kernel_rfl) ?_

        replace hS2 := Lib.hid hS2
        have hn2 := (hK2 ob _ _ hoa.out (by decide) (by decide)).trans hoa.out
        have he0 := cell_of_heap (j := 0) hn2 rfl
        have he2 := cell_of_heap (j := 2) hn2 rfl
        clear hK2 hm2 hu2 hrun hr1 hB1 hg1 hat1 hd1 hm1 hn1 hoB hmB hc0 hn2
        go_wp2_with (
          ((with_reducible refine gate_builtin (b := .append) (xs := #[.tmp 56, .tmp 63]) rfl ?_); at_builtin; go_must (
            refine Kd.R_append ck (w0 := w) (W := w2) mb rfl (.tmp 56) (.tmp 63) 95 35 (.agg #[.int .i64 0, .int .i64 0, .int .i64 0, .int .i64 0, .int .i64 0, .slice none 0 0]) 64 rfl Try.underlying95 infoCall rfl (by decide) (by decide) (.slice Ao cs.length co) (cs.map tup) (t, o, k, -1, 0, nilS) (tcs (t, o, k, -1, 0, nilS)) T (fun _ => False) rfl rfl ?aP (fun _ hk => hk.elim) (fun _ _ => trivial) ?aO ?aB ?aS ?aL ?_;
            (case aP => exact ck_M _);
            (case aO => exact hS2.out.row);
            (case aB => exact hS2.out.below);
            (case aS => exact hS2.out.size);
            (case aL => simp only [List.length_map]; omega);
            intro v3 w3 hr3 hB3 hg3 _;
            have hS3 := (hS2.out.push ⟨t, o, k, -1, 0, []⟩ rfl hr3 hg3 hB3).1;
            replace hS3 := Lib.hid hS3; clear hr3 hB3 hg3)))
        go_roundw
        case rel => exact ⟨k + 1, _, _, by omega, by go_num, hS3, (step_call k t o ar os cs (A1, _, c1)).trans hnext.out.symm, hG.out.call t _ ⟨t, o, k, -1, 0, []⟩ rfl⟩
        case measure => simp [intOf]; omega
      · have hlk := look_at hSa.out.map t hv0.out
        by_cases hw2 : wh = 11
        · subst hw2
          go_wp2
          clear hlk hc0
          go_loopw [72] (fun i wr => ∃ (j : Nat) (cs' : List (C × Sl)), j ≤ n0 ∧ i = .int .i64 j ∧ cs'.length = cs.length ∧ Hid (St w mb mb os cs' (.slice Ao cs.length co) wr) ∧ Hid (fs cs' = ((ofTask os t).2.take j).foldl (closed (k : Int) ar) (fs cs)) ∧ Hid (∀ c ∈ cs', c.1.pts.length ≤ k * k) ∧ Hid (wr.heap[ob]? = some (.cells #[.int .i64 t, .int .i64 11, .int .i64 o, .int .i64 ar] 98 (0, 0)))) (fun i _ => n0 - (intOf i).toNat)
          case atStart => exact ⟨0, cs, Nat.zero_le _, rfl, rfl, hSa, rfl, Lib.hid hG.out.pts, hoa⟩
          case round =>
            clear hSa hoa
            obtain ⟨j, cs', hj, rfl, hcl', hSr, hF, hpts, hox⟩ := hrel
            have htx := hSr.out.taskR t
            rw [hAc.out] at htx
            by_cases hjl : j < n0
            · obtain ⟨gi, x, rfl, hxl, hcell⟩ := row_at htx j hjl
              obtain ⟨q, rfl, hql⟩ := hGt.out.2 x (List.mem_of_getElem? hxl)
              obtain ⟨⟨c, s⟩, hq⟩ : ∃ p, cs'[q]? = some p := ⟨_, List.getElem?_eq_getElem (by omega)⟩
              obtain ⟨g, cap', hvo, _⟩ := hSr.out.form hq
              injection hvo with hA1 hA3 hA2
              clear hA3
              subst hA1
              subst hA2
              go_upto_region 19 with (fail)
              have hSd := hSr.out.grown (w1 := wr.drew) hSr.out.size (below_drew (Below.refl _ _))
              obtain ⟨w1, hrun1, hS1, hK1⟩ := hSd.store1 (P := Try.prog) q hq 3 (by decide) (k : Int) sizeInt (c' := { c with til := (k : Int) }) rfl rfl
              obtain ⟨w2, hrun2, hS2, hK2⟩ := hS1.store1 (P := Try.prog) q (c := { c with til := (k : Int) }) (s := s) (by rw [List.getElem?_set_self (by omega)]) 4 (by decide) ar sizeInt (c' := { c with til := (k : Int), ret := ar }) rfl rfl
              rw [List.set_set] at hS2
              have ho1 := (hK1 ob _ _ hox.out (by decide) (by decide)).trans hox.out
              have ho2 := (hK2 ob _ _ ho1 (by decide) (by decide)).trans ho1
              replace hS2 := Lib.hid hS2
              have hF2 := close_next (k : Int) ar hq
              rw [hF.out, ← fold_next (closed (k : Int) ar) _ j _ hxl] at hF2
              have hp2 := pts_set hpts.out q (p := ({ c with til := (k : Int), ret := ar }, s)) (hpts.out (c, s) (List.mem_of_getElem? hq))
              replace hF2 := Lib.hid hF2
              replace hp2 := Lib.hid hp2
              replace ho2 := Lib.hid ho2
              replace ho1 := Lib.hid ho1
              clear hK1 hK2 hS1 hSd htx hcell hSr
              refine start_ (n := 13) (S := fun w' => w'.cell? ⟨ob, 3, none⟩ = some (.int .i64 ar)) (ds := []) #[false, false, false, false, false, false, false, false, false, false, false, false, false] (by kernel_rfl) rfl rfl (cell_of_heap (w := wr.drew) hox.out rfl) (fun hHeld => ?_)
              refine pure_ (i := 0) (N := some 76) (v := ?_) (a' := ?_) #[true, false, false, false, false, false, false, false, false, false, false, false, false] rfl rfl (by kernel_rfl) (fun _ _ _ h => h) (Or.inl ⟨by rfl, ?_⟩) ?_ ?_
              rotate_left
              · intro w'
                go_simp
                with_reducible rfl
              rotate_left
              · simp only [Act.put, List.setIfInBounds_toArray, List.set_cons_zero, List.set_cons_succ, i64_w, i32_w]
                rfl
              refine pure_ (i := 1) (N := some 77) (v := ?_) (a' := ?_) #[true, true, false, false, false, false, false, false, false, false, false, false, false] rfl rfl (by kernel_rfl) (fun _ _ _ h => h) (Or.inl ⟨by rfl, ?_⟩) ?_ ?_
              rotate_left
              · intro w'
                go_simp
                with_reducible rfl
              rotate_left
              · simp only [Act.put, List.setIfInBounds_toArray, List.set_cons_zero, List.set_cons_succ, i64_w, i32_w]
                rfl
              refine pure_ (i := 2) (N := some 78) (v := ?_) (a' := ?_) #[true, true, true, false, false, false, false, false, false, false, false, false, false] rfl rfl (by kernel_rfl) (fun _ _ _ h => h) (Or.inl ⟨by rfl, ?_⟩) ?_ ?_
              rotate_left
              · intro w'
                go_simp
                with_reducible rfl
              rotate_left
              · simp only [Act.put, List.setIfInBounds_toArray, List.set_cons_zero, List.set_cons_succ, i64_w, i32_w]
                rfl
              refine pure_ (i := 3) (N := some 79) (v := ?_) (a' := ?_) #[true, true, true, true, false, false, false, false, false, false, false, false, false] rfl rfl (by kernel_rfl) (fun _ _ _ h => h) (Or.inl ⟨by rfl, ?_⟩) ?_ ?_
              rotate_left
              · intro w'
                go_simp
                with_reducible rfl
              rotate_left
              · simp only [Act.put, List.setIfInBounds_toArray, List.set_cons_zero, List.set_cons_succ, i64_w, i32_w]
                rfl
              refine pure_ (i := 4) (N := some 80) (v := ?_) (a' := ?_) #[true, true, true, true, true, false, false, false, false, false, false, false, false] rfl rfl (by kernel_rfl) (fun _ _ _ h => h) (Or.inl ⟨by rfl, ?_⟩) ?_ ?_
              rotate_left
              · intro w'
                go_simp
                with_reducible rfl
              rotate_left
              · simp only [Act.put, List.setIfInBounds_toArray, List.set_cons_zero, List.set_cons_succ, i64_w, i32_w]
                rfl
              refine pure_ (i := 5) (N := some 81) (v := ?_) (a' := ?_) #[true, true, true, true, true, true, false, false, false, false, false, false, false] rfl rfl (by kernel_rfl) (fun _ _ _ h => h) (Or.inl ⟨by rfl, ?_⟩) ?_ ?_
              rotate_left
              · intro w'
                go_simp
                with_reducible rfl
              rotate_left
              · simp only [Act.put, List.setIfInBounds_toArray, List.set_cons_zero, List.set_cons_succ, i64_w, i32_w]
                rfl
              refine pure_ (i := 7) (N := some 83) (v := ?_) (a' := ?_) #[true, true, true, true, true, true, false, true, false, false, false, false, false] rfl rfl (by kernel_rfl) (fun _ _ _ h => h) (Or.inl ⟨by rfl, ?_⟩) ?_ ?_
              rotate_left
              · intro w'
                go_simp
                with_reducible rfl
              rotate_left
              · simp only [Act.put, List.setIfInBounds_toArray, List.set_cons_zero, List.set_cons_succ, i64_w, i32_w]
                rfl
              refine pure_ (i := 8) (N := some 84) (v := ?_) (a' := ?_) #[true, true, true, true, true, true, false, true, true, false, false, false, false] rfl rfl (by kernel_rfl) (fun _ _ _ h => h) (Or.inl ⟨by rfl, ?_⟩) ?_ ?_
              rotate_left
              · intro w'
                go_simp
                with_reducible rfl
              rotate_left
              · simp only [Act.put, List.setIfInBounds_toArray, List.set_cons_zero, List.set_cons_succ, i64_w, i32_w]
                rfl
              refine take_ (i := 6) (N := some 82) (v := ?_) (a' := ?_) #[true, true, true, true, true, true, true, true, true, false, false, false, false] rfl rfl (by kernel_rfl) (fun _ _ _ h => h) (Or.inl ⟨by rfl, ?_⟩) hHeld ?_ ?_
              rotate_left
              · intro w' s0
                go_simp
                with_reducible rfl
              rotate_left
              · simp only [Act.put, List.setIfInBounds_toArray, List.set_cons_zero, List.set_cons_succ, i64_w, i32_w]
                rfl
              refine one_ (i := 9) (N := none) #[true, true, true, true, true, true, true, true, true, true, false, false, false] rfl rfl (by kernel_rfl) (by decide) (fun K hK => ?_)
              refine skip_ (w1 := w1) (by rfl) rfl (store_run rfl rfl rfl hrun1) ?_
              refine hK.out _ _ (cell_of_heap ho1.out rfl) (fun hHeld => ?_)
              clear hK K
              refine pure_ (i := 10) (N := some 85) (v := ?_) (a' := ?_) #[true, true, true, true, true, true, true, true, true, true, true, false, false] rfl rfl (by kernel_rfl) (fun _ _ _ h => h) (Or.inl ⟨by rfl, ?_⟩) ?_ ?_
              rotate_left
              · intro w'
                go_simp
                with_reducible rfl
              rotate_left
              · simp only [Act.put, List.setIfInBounds_toArray, List.set_cons_zero, List.set_cons_succ, i64_w, i32_w]
                rfl
              refine pure_ (i := 11) (N := some 86) (v := ?_) (a' := ?_) #[true, true, true, true, true, true, true, true, true, true, true, true, false] rfl rfl (by kernel_rfl) (fun _ _ _ h => h) (Or.inl ⟨by rfl, ?_⟩) ?_ ?_
              rotate_left
              · intro w'
                go_simp
                with_reducible rfl
              rotate_left
              · simp only [Act.put, List.setIfInBounds_toArray, List.set_cons_zero, List.set_cons_succ, i64_w, i32_w]
                rfl
              refine one_ (i := 12) (N := none) #[true, true, true, true, true, true, true, true, true, true, true, true, true] rfl rfl (by kernel_rfl) (by decide) (fun K hK => ?_)
              refine skip_ (w1 := w2) (by rfl) rfl (store_run rfl rfl rfl hrun2) ?_
              refine hK.out _ _ (cell_of_heap ho2.out rfl) (fun hHeld => ?_)
              clear hK K
              refine done_ (by kernel_rfl) ?_

              clear hrun1 hrun2
              go_wp2
              go_roundw
              all_goals (rw [wrap_next j n0 hjl (by have := hlen0.out; omega)])
              case rel => exact ⟨j + 1, _, by omega, rfl, by rw [List.length_set]; exact hcl', hS2, hF2, hp2, ho2⟩
              case measure => have := hlen0.out; simp [intOf]; omega
            · obtain rfl : j = n0 := by omega
              have he0 : wr.cell? ⟨ob, 0, none⟩ = some (.int .i64 t) := cell_of_heap hox.out rfl
              clear htx
              go_wp2_with (refine wp_delete none rfl rfl (m := .tmp 88) (k := .tmp 90) (kt := 3) (et := 33) (r := mb) (mm := os.map hdr) (key := t) rfl rfl rfl Try.underlying126 Try.underlying3 hSr.out.map ?_; intro w2 hm2 hu2; have hS2 := (hSr.out.del t hm2 hu2).1; clear hm2 hu2; replace hS2 := Lib.hid hS2)
              go_roundw
              case rel => exact ⟨k + 1, _, _, by omega, by go_num, hS2, (step_return k t o ar os cs cs' (by rw [hF.out, hn0.out, List.take_length])).trans hnext.out.symm, hG.out.turn (fun e he => mem_gdel he) hcl' (fun c hc => by have := hpts.out c hc; omega)⟩
              case measure => simp [intOf]; omega
        · go_wp2
          clear hlk hc0
          have hb1 : (wh == 1) = false := by simp [hw1]
          have hb2 : (wh == 11) = false := by simp [hw2]
          rw [hb1, hb2]
          go_loopw [26] (fun i wr => ∃ (j : Nat) (cs' : List (C × Sl)), j ≤ n0 ∧ i = .int .i64 j ∧ cs'.length = cs.length ∧ Hid (St w mb mb os cs' (.slice Ao cs.length co) wr) ∧ Hid (fs cs' = ((ofTask os t).2.take j).foldl (pointed (k : Int)) (fs cs)) ∧ Hid (∀ c ∈ cs', c.1.pts.length ≤ k * k + j)) (fun i _ => n0 - (intOf i).toNat)
          case atStart => exact ⟨0, cs, Nat.zero_le _, rfl, rfl, hSa, rfl, Lib.hid hG.out.pts⟩
          case round =>
            clear hSa hoa
            obtain ⟨j, cs', hj, rfl, hcl', hSr, hF, hpts⟩ := hrel
            have htx := hSr.out.taskR t
            rw [hAc.out] at htx
            by_cases hjl : j < n0
            · obtain ⟨gi, x, rfl, hxl, hcell⟩ := row_at htx j hjl
              obtain ⟨q, rfl, hql⟩ := hGt.out.2 x (List.mem_of_getElem? hxl)
              obtain ⟨⟨c, s⟩, hq⟩ : ∃ p, cs'[q]? = some p := ⟨_, List.getElem?_eq_getElem (by omega)⟩
              obtain ⟨g, cap', hvo, hcp⟩ := hSr.out.form hq
              injection hvo with hA1 hA3 hA2
              clear hA3
              subst hA1
              subst hA2
              obtain ⟨sA, sn, sc⟩ := s
              have hpl : c.pts.length ≤ k * k + j := hpts.out _ (List.mem_of_getElem? hq)
              have hkk : k * k ≤ 10000000000 := Nat.mul_le_mul (show k ≤ 100000 by omega) (show k ≤ 100000 by omega)
              have hrp : Kd.R ik 3 wr mb T (.slice sA sn sc) c.pts := hSr.out.fam.1 (slv (sA, sn, sc), c.pts) (List.mem_append_right _ (List.mem_map.2 ⟨(c, (sA, sn, sc)), List.mem_of_getElem? hq, rfl⟩))
              have hF2 : ∀ s' : Sl, fs (cs'.set q ({ c with pts := c.pts ++ [(k : Int)] }, s')) = ((ofTask os t).2.take (j + 1)).foldl (pointed (k : Int)) (fs cs) := fun s' => by
                rw [point_next (k : Int) (q := q) hq, hF.out, fold_next (pointed (k : Int)) _ j _ hxl]
              replace hcp : wr.cell? ⟨g, q * 6 + 5, none⟩ = some (.slice sA sn sc) := hcp
              replace hF2 := Lib.hid hF2
              replace hrp := Lib.hid hrp
              replace hpl := Lib.hid hpl
              replace hkk := Lib.hid hkk
              replace hq := Lib.hid hq
              clear htx
              go_wp2_with (first
                | ((with_reducible refine gate_builtin (b := .append) (xs := #[.tmp 36, .tmp 38]) rfl ?_); at_builtin; go_must (
                    refine Kd.R_append ik (w0 := w) (W := wr) mb rfl (.tmp 36) (.tmp 38) 33 3 (.int .i64 0) 8 rfl Try.underlying33 infoInt rfl (by decide) (by decide) (.slice sA sn sc) c.pts (k : Int) [.int .i64 (k : Int)] T (fun _ => False) rfl rfl ?aP (fun _ hk => hk.elim) (fun _ _ => trivial) ?aO ?aB ?aS ?aL ?_;
                    (case aP => exact rfl);
                    (case aO => exact hrp.out);
                    (case aB => exact hSr.out.below);
                    (case aS => exact hSr.out.size);
                    (case aL => have := hpl.out; have := hkk.out; have := hlen0.out; omega);
                    intro v1 w1 hr1 hB1 hg1 hat1;
                    (obtain ⟨A1, c1, rfl⟩ := Kd.R_slice hr1);
                    simp only [List.length_append, List.length_singleton] at hr1 hat1;
                    (obtain ⟨w2, hrun, hS2, _⟩ := hSr.out.point1 (P := Try.prog) (s' := (A1, _, c1)) q hq.out hr1 hg1 hat1 hB1 sizeInts);
                    replace hS2 := Lib.hid hS2; replace hrun := Lib.hid hrun; clear hr1 hB1 hg1 hat1))
                | ((with_reducible refine gate_ (.store 33 (.tmp 41) (.tmp 39)) rfl ?_); go_must (refine wp_store rfl rfl (p := .tmp 41) (x := .tmp 39) (pv := .pointer (some ⟨g, q * 6 + 5, none⟩)) (xv := .slice A1 (c.pts.length + 1) c1) rfl rfl rfl hrun.out ?_; clear hrun)))
              go_roundw
              all_goals (rw [wrap_next j n0 hjl (by have := hlen0.out; omega)])
              case rel => exact ⟨j + 1, _, by omega, rfl, by rw [List.length_set]; exact hcl', hS2, Lib.hid (hF2.out _), Lib.hid (pts_set (fun c hc => by have := hpts.out c hc; omega) q (by have := hpl.out; simp; omega))⟩
              case measure => have := hlen0.out; simp [intOf]; omega
            · obtain rfl : j = n0 := by omega
              clear htx
              go_wp2
              go_roundw
              case rel => exact ⟨k + 1, _, _, by omega, by go_num, hSr, (step_point k t wh o ar os cs cs' hw1 hw2 (by rw [hF.out, hn0.out, List.take_length])).trans hnext.out.symm, hG.out.turn (fun e he => he) hcl' (fun c hc => by have := hpts.out c hc; have := hlen0.out; omega)⟩
              case measure => simp [intOf]; omega
    · obtain rfl : k = n := by omega
      go_wp2
      go_ret
      refine ⟨_, os, cs, rfl, by have := hS.out; rw [hmb.out] at this; exact this, ?_⟩
      have := hR.out
      rw [← HN.out, List.take_length] at this
      exact congrArg Prod.snd this
end Go.Proofs.Ytgbofijdjgpgeaa.Recs
