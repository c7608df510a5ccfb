/- The law SignalPlays: walk. -/
import Derived.Test.YtgbofijdjgpgeaaSigR
import Derived.Test.YtgbofijdjgpgeaaWWords
import Derived.Test.YtgbofijdjgpgeaaWMore
import Derived.Test.YtgbofijdjgpgeaaWLast
import Derived.WalkSpells
import Derived.Deep.DeepMust
import Derived.Deep.RegionHeld3
import Derived.Deep.DeepCutAuto
import Derived.Deep.CutBlock
namespace Go.Proofs.Ytgbofijdjgpgeaa.Sig
open Go.RowKit Go.Conc Go.Proofs.YtgbofijdjgpgeaaW.PrintWords Go.Proofs.YtgbofijdjgpgeaaW.PrintMore Go.Proofs.YtgbofijdjgpgeaaW.PrintLast

abbrev pk : Kd Nat := Kd.scalar (fun p : Nat => Value.pointer (some ⟨p, 0, none⟩)) (fun _ => rfl)
abbrev opk : Kd (Int × Int × Int) := Kd.pair (Kd.int .i64) (Kd.pair (Kd.int .i64) (Kd.int .i64))
theorem info49 : (Try.prog.info? 49).map (fun i => (i.zero, i.size, i.bytes)) = some (some (.pointer none), 1, 8) := by kernel_rfl
abbrev Z8 : Array Value := #[.bool false, .int .i64 0, .bool false, .int .i64 0, .bool false, .int .i64 0, .bool false, .int .i64 0]

/-- Boxes that are all empty, apart from one another, made since block B. -/
def Fresh (w : World) (B : Nat) (bs : List (Nat × Nat)) : Prop :=
  (∀ p ∈ bs, Box w 61 p.1 p.2 none ∧ B ≤ p.2) ∧ bs.Pairwise fun p q => p.2 ≠ q.2

theorem owned_type {w : World} {B : Nat} {v : Value} {xs : List Nat} (h : Kd.R pk 49 w B (fun _ => True) v xs) (k : Nat) (hk : v.ownBlock = some k) : ∃ cells, w.heap[k]? = some (.cells cells 49 (0, 0)) := by
  obtain ⟨_, inner, ho, _⟩ := h
  exact own_typed ho k hk

theorem Box.row {w w1 : World} {bb c B : Nat} {ct : Option Value} {v : Value} {xs : List Nat} (h : Box w 61 bb c ct) (hr : Kd.R pk 49 w B (fun _ => True) v xs) (hg : w.grownBy w1 v.ownBlock) : Box w1 61 bb c ct := by
  refine h.of_blocks (hg.block _ h.lt.1 fun e => ?_) (hg.block _ h.lt.2 fun e => ?_)
  · obtain ⟨cells, hc⟩ := owned_type hr _ e.symm
    rw [h.cell] at hc
    cases hc
  · obtain ⟨cells, hc⟩ := owned_type hr _ e.symm
    obtain ⟨s, r, hk⟩ := h.chan
    rw [hk] at hc
    cases hc

theorem arr_row {w w1 : World} {b B : Nat} {cells : Array Value} {v : Value} {xs : List Nat} (h : w.heap[b]? = some (.cells cells 48 (0, 0))) (hr : Kd.R pk 49 w B (fun _ => True) v xs) (hg : w.grownBy w1 v.ownBlock) : w1.heap[b]? = some (.cells cells 48 (0, 0)) := by
  refine (hg.block _ (Array.getElem?_eq_some_iff.1 h).1 fun e => ?_).trans h
  obtain ⟨cells', hc⟩ := owned_type hr _ e.symm
  rw [h] at hc
  cases hc

/-- What stands while the boxes are made. -/
def Mk (w : World) (W0 : Nat) (v : Value) (bs : List (Nat × Nat)) (wr : World) : Prop :=
  Kd.R pk 49 wr W0 (fun _ => True) v (bs.map Prod.fst) ∧ Fresh wr (W0 + 1) bs ∧ wr.heap[W0]? = some (.cells Z8 48 (0, 0)) ∧ Below W0 w wr

theorem Mk.next {w wr w1 w2 : World} {W0 b c : Nat} {v v2 : Value} {bs : List (Nat × Nat)} (h : Mk w W0 v bs wr) (hb : Box w1 61 b c none) (hc : wr.heap.size ≤ c) (hbl : Below wr.heap.size wr w1)
    (hr : Kd.R pk 49 w2 W0 (fun _ => True) v2 (bs.map Prod.fst ++ [b])) (hB2 : Below W0 w w2) (hg : w1.grownBy w2 v.ownBlock) : Mk w W0 v2 (bs ++ [(b, c)]) w2 := by
  obtain ⟨h1, ⟨h2, h2p⟩, h3, h4⟩ := h
  have hr1 : Kd.R pk 49 w1 W0 (fun _ => True) v (bs.map Prod.fst) := Kd.R_below h1 hbl
  have hlt : W0 < wr.heap.size := (Array.getElem?_eq_some_iff.1 h3).1
  refine ⟨by simpa using hr, ⟨?_, ?_⟩, ?_, hB2⟩
  · intro p hp
    rcases List.mem_append.1 hp with hp | hp
    · exact ⟨((h2 p hp).1.grown hbl).row hr1 hg, (h2 p hp).2⟩
    · cases List.mem_singleton.1 hp
      exact ⟨hb.row hr1 hg, show W0 + 1 ≤ c by omega⟩
  · refine List.pairwise_append.2 ⟨h2p, List.pairwise_singleton _ _, fun p hp q hq => ?_⟩
    cases List.mem_singleton.1 hq
    have := (h2 p hp).1.lt.2
    show p.2 ≠ c
    omega
  · exact arr_row ((hbl.block _ hlt).trans h3) hr1 hg

set_option linter.unusedSimpArgs false
theorem Mk.toJ {w wr : World} {W0 : Nat} {v : Value} {bs : List (Nat × Nat)} (h : Mk w W0 v bs wr) (hl : bs.length = 4) : ∃ g cap bb cc, v = .slice (some ⟨g, 0, none⟩) 4 cap ∧ J W0 g bb cc (fun _ => none) (fun _ => none) wr := by
  obtain ⟨h1, ⟨h2, h2p⟩, h3, h4⟩ := h
  obtain ⟨g, cap, hv, hg1, hg2, cells, hc⟩ := Kd.R_form h1 (by simp [hl])
  rw [List.length_map, hl] at hv
  refine ⟨g, cap, fun i => (bs.getD i (0, 0)).1, fun i => (bs.getD i (0, 0)).2, hv, ⟨cells, hc, ?_⟩, ?_, ?_, ?_, Z8, h3, ?_⟩
  · intro i hi
    have hv' := hv
    subst hv'
    have := (Kd.R_celln 0 h1 (i : Int) (by omega) (by omega)).1
    simp only [Int.toNat_natCast, World.cell?, hc] at this
    have e2 : rdOf 0 (bs.map Prod.fst) (i : Int) = (bs.getD i (0, 0)).1 := by
      simp only [rdOf, Int.toNat_natCast, List.getD_eq_getElem?_getD, List.getElem?_map]
      cases bs[i]? <;> rfl
    rw [e2] at this
    simpa using this
  · intro i hi
    have : bs.getD i (0, 0) ∈ bs := by
      rw [List.getD_eq_getElem?_getD, List.getElem?_eq_getElem (by omega : i < bs.length)]
      exact List.getElem_mem _
    exact (h2 _ this).1
  · intro i hi
    have : bs.getD i (0, 0) ∈ bs := by
      rw [List.getD_eq_getElem?_getD, List.getElem?_eq_getElem (by omega : i < bs.length)]
      exact List.getElem_mem _
    exact (h2 _ this).2
  · intro i j hi hj hij
    have hp := List.pairwise_iff_getElem.1 h2p
    simp only [List.getD_eq_getElem?_getD, List.getElem?_eq_getElem (by omega : i < bs.length), List.getElem?_eq_getElem (by omega : j < bs.length), Option.getD_some]
    rcases Nat.lt_or_gt_of_ne hij with h | h
    · exact hp i j (by omega) (by omega) h
    · exact fun e => hp j i (by omega) (by omega) h e.symm
  · intro i hi
    match i, hi with
    | 0, _ => exact ⟨rfl, 0, rfl, fun v hv => (by cases hv)⟩
    | 1, _ => exact ⟨rfl, 0, rfl, fun v hv => (by cases hv)⟩
    | 2, _ => exact ⟨rfl, 0, rfl, fun v hv => (by cases hv)⟩
    | 3, _ => exact ⟨rfl, 0, rfl, fun v hv => (by cases hv)⟩

theorem opk_open {w : World} {x : Int × Int × Int} {cs : List Value} (h : opk.K w x cs) : cs = [.int .i64 x.1, .int .i64 x.2.1, .int .i64 x.2.2] := by
  obtain ⟨_, _, rfl, rfl, ⟨_, _, rfl, rfl, rfl⟩⟩ := h
  exact rfl
theorem at_op {w : World} {A : Option Addr} {n : Nat} {xs : List (Int × Int × Int)} (h : Kd.C opk w A n xs) (i : Nat) (h1 : i < n) : ∃ ad a b c, A = some ad ∧ w.cell? (ad.add (i * 3)) = some (.int .i64 a) ∧ w.cell? ⟨(ad.add (i * 3)).block, (ad.add (i * 3)).off + 1, none⟩ = some (.int .i64 b) ∧ w.cell? ⟨(ad.add (i * 3)).block, (ad.add (i * 3)).off + 2, none⟩ = some (.int .i64 c) := by
  obtain ⟨ad, c, e, _, hK, hc0⟩ := Kd.C_get h (0, 0, 0) (i : Int) (by omega) (by omega)
  have hc : ∀ j u, c[j]? = some u → w.cell? (ad.add (i * 3 + j)) = some u := hc0
  obtain rfl := opk_open hK
  exact ⟨ad, _, _, _, e, hc 0 _ rfl, by rw [← add_field _ _ 1 (by omega)]; exact hc 1 _ rfl, by rw [← add_field _ _ 2 (by omega)]; exact hc 2 _ rfl⟩

theorem J.grown {W0 g : Nat} {bb cc : Nat → Nat} {ct cx : Nat → Option Int} {w w' : World} (h : J W0 g bb cc ct cx w) (hb : Below w.heap.size w w') : J W0 g bb cc ct cx w' := by
  refine ⟨?_, fun i hi => (h.box i hi).grown hb, h.low, h.ne, ?_⟩
  · obtain ⟨cells, hc, hr⟩ := h.row
    exact ⟨cells, (hb.block _ (Array.getElem?_eq_some_iff.1 hc).1).trans hc, hr⟩
  · obtain ⟨cells, hc, hr⟩ := h.arr
    exact ⟨cells, (hb.block _ (Array.getElem?_eq_some_iff.1 hc).1).trans hc, hr⟩
theorem below_from_drew {B : Nat} {w w' : World} (h : Below B w.drew w') : Below B w w' := (below_drew (Below.refl B w)).trans h
theorem q_lt (b : Int) : ∃ q : Nat, q < 4 ∧ (wrap64 (b.tmod 4 + 4)).tmod 4 = (q : Int) := by
  have h1 : -4 < b.tmod 4 := by have := Int.lt_tmod_of_pos b (by decide : (0 : Int) < 4); omega
  have h2 : b.tmod 4 < 4 := Int.tmod_lt_of_pos b (by decide)
  have h3 : wrap64 (b.tmod 4 + 4) = b.tmod 4 + 4 := by simp only [wrap64]; omega
  rw [h3]
  have h4 : 0 ≤ (b.tmod 4 + 4).tmod 4 := Int.tmod_nonneg _ (by omega)
  have h5 : (b.tmod 4 + 4).tmod 4 < 4 := Int.tmod_lt_of_pos _ (by decide)
  exact ⟨((b.tmod 4 + 4).tmod 4).toNat, by omega, by omega⟩

set_option maxRecDepth 100000 in
set_option maxHeartbeats 4000000 in
theorem plays_walk (A : Option Addr) (cap : Nat) (l : List (Int × Int × Int)) (w : World) (hm : l.length ≤ cap) (hC : Kd.C opk w A l.length l) :
    Calls Try.prog 7 #[.slice A l.length cap] w fun e w' => e = .returned (.bool true) ∧ Below w.heap.size w w' := by
  have hmax := Kd.C_max hC
  by_cases hlen : 100 < l.length
  · clear hC
    generalize l.length = n at *
    go_enter Try.func7, Try.ntmps7
    go_wp2_with (go_at_call 29; refine (awake _).mono ?_; rintro e w9 ⟨rfl, hb9⟩)
    go_ret
    exact ⟨rfl, hb9⟩
  obtain ⟨n, hn⟩ : ∃ n, n = l.length := ⟨_, rfl⟩
  rw [← hn] at hC hlen hmax hm ⊢
  have HN := Lib.hid hn
  have HC := Lib.hid hC
  clear hn hC
  have h0 : Hid (Mk w w.heap.size (.slice none 0 0) [] (w.alloc (.cells Z8 48))) := ⟨Kd.R_nil .., ⟨fun p hp => (by simp at hp), List.Pairwise.nil⟩, heap_alloc_new _ _, (Below.refl _ _).alloc (Nat.le_refl _) _⟩
  go_enter Try.func7, Try.ntmps7
  go_wp2
  obtain ⟨W0, hW0⟩ : ∃ n, n = w.heap.size := ⟨_, rfl⟩
  rw [← hW0] at h0 ⊢
  have HW0 := Lib.hid hW0
  clear hW0
  go_loopw [3, 5] (fun v i wr => ∃ (k : Nat) (bs : List (Nat × Nat)), k ≤ 4 ∧ bs.length = k ∧ i = .int .i64 k ∧ Hid (Mk w W0 v bs wr)) (fun _ i _ => (4 : Nat) - (intOf i).toNat)
  case atStart => exact ⟨0, [], by omega, rfl, rfl, h0⟩
  case round =>
    obtain ⟨k, bs, hk, hbl, rfl, hM⟩ := hrel
    skip
    by_cases hlt : k < 4
    · go_wp2_with (first
        | (go_at_call 34; refine (new_int _).mono ?_; rintro e w1 ⟨rfl, hB1, hb1⟩; replace hB1 := Lib.hid hB1; replace hb1 := Lib.hid hb1)
        | ((with_reducible refine gate_builtin (b := .append) (xs := #[.tmp 30, .tmp 32]) rfl ?_); at_builtin; go_must (
            refine Kd.R_append pk (w0 := w) W0 rfl (.tmp 30) (.tmp 32) 45 49 (.pointer none) 8 rfl Try.underlying45 info49 rfl (by decide) (by decide) u3 (bs.map Prod.fst) (wr.heap.size + 1) [.pointer (some ⟨wr.heap.size + 1, 0, none⟩)] (fun _ => True) (fun _ => False) rfl rfl ?aP (fun _ hk => hk.elim) (fun _ _ => trivial) ?aO ?aB ?aS ?aL ?_;
            (case aP => exact rfl);
            (case aO => exact Kd.R_below hM.out.1 hb1.out);
            (case aB => exact hM.out.2.2.2.trans (hb1.out.mono (HW0.out.symm ▸ hM.out.2.2.2.size)));
            (case aS => exact Nat.le_trans (HW0.out.symm ▸ hM.out.2.2.2.size) hb1.out.size);
            (case aL => simp only [List.length_map]; omega);
            intro v2 w2 hr2 hB2 hg2 _;
            have hN := Mk.next hM.out hB1.out (Nat.le_refl _) hb1.out hr2 hB2 hg2;
            replace hN := Lib.hid hN; clear hr2 hB2 hg2 hB1 hb1 hM)))
      go_roundw
      case rel => exact ⟨k + 1, bs ++ [(wr.heap.size + 1, wr.heap.size)], by omega, by simp [hbl], by go_num, hN⟩
      case measure => simp [intOf]; omega
    · obtain rfl : k = 4 := by omega
      obtain ⟨g, gc, bb, cc, rfl, hJ⟩ := hM.out.toJ hbl
      have hb0 : Hid (Below W0 w wr) := Lib.hid hM.out.2.2.2
      replace hJ := Lib.hid hJ
      clear hM hbl
      go_wp2
      go_loopw [6] (fun i wr => ∃ (k : Nat) (ct : Nat → Option Int), k ≤ n ∧ i = .int .i64 k ∧ Hid (J W0 g bb cc ct ct wr) ∧ Hid (Below W0 w wr)) (fun i _ => n - (intOf i).toNat)
      case atStart => exact ⟨0, _, Nat.zero_le _, rfl, hJ, hb0⟩
      case round =>
        clear hJ hb0
        obtain ⟨k, ct, hk, rfl, hJ, hb0⟩ := hrel
        by_cases hlt : k < n
        · have hCr : Kd.C opk wr A n l := Kd.C_below HC.out (HW0.out ▸ hb0.out)
          obtain ⟨ad, a, b, c, rfl, h0, h1, h2⟩ := at_op hCr k hlt
          clear hCr
          go_upto_block 4 with (fail)
          obtain ⟨q, hq4, hq⟩ := q_lt b
          have hJa := hJ.out.grown (w' := wr.alloc (.cells #[.int .i64 a, .int .i64 b, .int .i64 c] 52)) ((Below.refl _ _).alloc (Nat.le_refl _) _)
          have hba := hb0.out.alloc (show W0 ≤ wr.heap.size from HW0.out ▸ hb0.out.size) (.cells #[.int .i64 a, .int .i64 b, .int .i64 c] 52)
          have hoa := heap_alloc_new wr (.cells #[.int .i64 a, .int .i64 b, .int .i64 c] 52)
          obtain ⟨wa, hwa⟩ : ∃ wa, wa = wr.alloc (.cells #[.int .i64 a, .int .i64 b, .int .i64 c] 52) := ⟨_, rfl⟩
          obtain ⟨ob, hob⟩ : ∃ ob, ob = wr.heap.size := ⟨_, rfl⟩
          rw [← hwa, ← hob, hq]
          rw [← hwa] at hJa hba hoa
          rw [← hob] at hoa
          replace hJa := Lib.hid hJa
          replace hba := Lib.hid hba
          replace hoa := Lib.hid hoa
          clear hJ hb0 h0 h1 h2 hwa hob hq
          go_cut [9] (fun v wx => v = .bool true ∧ ∃ ct' : Nat → Option Int, Hid (J W0 g bb cc ct' ct' wx) ∧ Hid (Below W0 w wx))
          case first =>
            have hrow := hJa.out.cell q hq4
            have hc2 : wa.cell? ⟨ob, 2, none⟩ = some (.int .i64 c) := by simp [World.cell?, hoa.out]
            by_cases ha0 : a = 0
            · subst ha0
              go_upto_region 17 with (fail)
              have hq0 : (0 : Int) ≤ (q : Int) := by omega
              have hq5 : (q : Int) < 4 := by omega
              refine start_ (n := 14) (S := fun w' => w'.cell? ⟨g, q, none⟩ = some (.pointer (some ⟨bb q, 0, none⟩)) ∧ w'.cell? ⟨ob, 2, none⟩ = some (.int .i64 c)) (ds := []) #[false, false, false, false, false, false, false, false, false, false, false, false, false, false] (by kernel_rfl) rfl rfl ⟨hrow, hc2⟩ (fun hHeld => ?_)
              refine pure_ (i := 0) (N := some 53) (v := ?_) (a' := ?_) #[true, false, false, false, false, false, false, false, false, false, false, false, false, false] rfl rfl (by kernel_rfl) (fun _ _ _ h => h) (Or.inl ⟨by rfl, ?_⟩) ?_ ?_
              rotate_left
              · intro w'
                go_simp
                with_reducible rfl
              rotate_left
              · simp only [Act.put, List.setIfInBounds_toArray, List.set_cons_zero, List.set_cons_succ, i64_w, i32_w]
                rfl
              refine pure_ (i := 1) (N := some 54) (v := ?_) (a' := ?_) #[true, true, false, false, false, false, false, false, false, false, false, false, false, false] rfl rfl (by kernel_rfl) (fun _ _ _ h => h) (Or.inl ⟨by rfl, ?_⟩) ?_ ?_
              rotate_left
              · intro w'
                go_simp
                with_reducible rfl
              rotate_left
              · simp only [Act.put, List.setIfInBounds_toArray, List.set_cons_zero, List.set_cons_succ, i64_w, i32_w]
                rfl
              refine pure_ (i := 2) (N := some 55) (v := ?_) (a' := ?_) #[true, true, true, false, false, false, false, false, false, false, false, false, false, false] rfl rfl (by kernel_rfl) (fun _ _ _ h => h) (Or.inl ⟨by rfl, ?_⟩) ?_ ?_
              rotate_left
              · intro w'
                go_simp
                with_reducible rfl
              rotate_left
              · simp only [Act.put, List.setIfInBounds_toArray, List.set_cons_zero, List.set_cons_succ, i64_w, i32_w]
                rfl
              refine pure_ (i := 4) (N := some 57) (v := ?_) (a' := ?_) #[true, true, true, false, true, false, false, false, false, false, false, false, false, false] rfl rfl (by kernel_rfl) (fun _ _ _ h => h) (Or.inl ⟨by rfl, ?_⟩) ?_ ?_
              rotate_left
              · intro w'
                go_simp
                with_reducible rfl
              rotate_left
              · simp only [Act.put, List.setIfInBounds_toArray, List.set_cons_zero, List.set_cons_succ, i64_w, i32_w]
                rfl
              refine pure_ (i := 7) (N := some 60) (v := ?_) (a' := ?_) #[true, true, true, false, true, false, false, true, false, false, false, false, false, false] rfl rfl (by kernel_rfl) (fun _ _ _ h => h) (Or.inl ⟨by rfl, ?_⟩) ?_ ?_
              rotate_left
              · intro w'
                go_simp
                with_reducible rfl
              rotate_left
              · simp only [Act.put, List.setIfInBounds_toArray, List.set_cons_zero, List.set_cons_succ, i64_w, i32_w]
                rfl
              refine pure_ (i := 8) (N := some 61) (v := ?_) (a' := ?_) #[true, true, true, false, true, false, false, true, true, false, false, false, false, false] rfl rfl (by kernel_rfl) (fun _ _ _ h => h) (Or.inl ⟨by rfl, ?_⟩) ?_ ?_
              rotate_left
              · intro w'
                go_simp
                with_reducible rfl
              rotate_left
              · simp only [Act.put, List.setIfInBounds_toArray, List.set_cons_zero, List.set_cons_succ, i64_w, i32_w]
                rfl
              refine pure_ (i := 9) (N := some 62) (v := ?_) (a' := ?_) #[true, true, true, false, true, false, false, true, true, true, false, false, false, false] rfl rfl (by kernel_rfl) (fun _ _ _ h => h) (Or.inl ⟨by rfl, ?_⟩) ?_ ?_
              rotate_left
              · intro w'
                go_simp
                with_reducible rfl
              rotate_left
              · simp only [Act.put, List.setIfInBounds_toArray, List.set_cons_zero, List.set_cons_succ, i64_w, i32_w]
                rfl
              refine take_ (i := 3) (N := some 56) (v := ?_) (a' := ?_) #[true, true, true, true, true, false, false, true, true, true, false, false, false, false] rfl rfl (by kernel_rfl) (fun _ _ _ h => h) (Or.inl ⟨by rfl, ?_⟩) hHeld ?_ ?_
              rotate_left
              · rintro w' ⟨s0, s1⟩
                go_simp
                with_reducible rfl
              rotate_left
              · simp only [Act.put, List.setIfInBounds_toArray, List.set_cons_zero, List.set_cons_succ, i64_w, i32_w]
                rfl
              refine take_ (i := 5) (N := some 58) (v := ?_) (a' := ?_) #[true, true, true, true, true, true, false, true, true, true, false, false, false, false] rfl rfl (by kernel_rfl) (fun _ _ _ h => h) (Or.inl ⟨by rfl, ?_⟩) hHeld ?_ ?_
              rotate_left
              · rintro w' ⟨s0, s1⟩
                go_simp
                with_reducible rfl
              rotate_left
              · simp only [Act.put, List.setIfInBounds_toArray, List.set_cons_zero, List.set_cons_succ, i64_w, i32_w]
                rfl
              refine take_ (i := 10) (N := some 63) (v := ?_) (a' := ?_) #[true, true, true, true, true, true, false, true, true, true, true, false, false, false] rfl rfl (by kernel_rfl) (fun _ _ _ h => h) (Or.inl ⟨by rfl, ?_⟩) hHeld ?_ ?_
              rotate_left
              · rintro w' ⟨s0, s1⟩
                go_simp
                with_reducible rfl
              rotate_left
              · simp only [Act.put, List.setIfInBounds_toArray, List.set_cons_zero, List.set_cons_succ, i64_w, i32_w]
                rfl
              refine one_ (i := 6) (N := some 59) #[true, true, true, true, true, true, true, true, true, true, true, false, false, false] rfl rfl (by kernel_rfl) (by decide) (fun K hK => ?_)
              refine goes_ Try.func35 (by kernel_rfl) rfl #[.pointer (some ⟨bb q, 0, none⟩), .int .i64 c] (by rfl) rfl rfl (by simp only [List.map_toArray, List.map_cons, List.map_nil]; rfl) ?_
              with_reducible refine ((hJa.out.grown (below_drew (Below.refl _ _))).put q hq4 c).mono ?_
              rintro e w1 ⟨rfl, hJ1, hS1, hB1⟩
              refine ⟨_, rfl, ?_⟩
              have ho1 := (hS1 ob _ 52 hoa.out (by decide)).trans hoa.out
              refine hK.out _ _ ⟨hJ1.cell q hq4, (by simp [World.cell?, ho1])⟩ (fun hHeld => ?_)
              clear hK K
              refine norm_ (a' := ?_) ?_ ?_
              rotate_left
              · show Act.put _ (some 59) _ = _
                simp only [Act.put, List.setIfInBounds_toArray, List.set_cons_zero, List.set_cons_succ, i64_w, i32_w]
                rfl
              refine one_ (i := 11) (N := some 64) #[true, true, true, true, true, true, true, true, true, true, true, true, false, false] rfl rfl (by kernel_rfl) (by decide) (fun K hK => ?_)
              refine goes_ Try.func36 (by kernel_rfl) rfl #[.pointer (some ⟨W0, q * 2, none⟩), .int .i64 c] (by rfl) rfl rfl (by simp only [List.map_toArray, List.map_cons, List.map_nil]; rfl) ?_
              with_reducible refine (hJ1.rput q hq4 c).mono ?_
              rintro e w2 ⟨rfl, hJ2, hS2, hB2⟩
              refine ⟨_, rfl, ?_⟩
              have ho2 := (hS2 ob _ 52 ho1 (by decide)).trans ho1
              refine hK.out _ _ ⟨hJ2.cell q hq4, (by simp [World.cell?, ho2])⟩ (fun hHeld => ?_)
              clear hK K
              refine norm_ (a' := ?_) ?_ ?_
              rotate_left
              · show Act.put _ (some 64) _ = _
                simp only [Act.put, List.setIfInBounds_toArray, List.set_cons_zero, List.set_cons_succ, i64_w, i32_w]
                rfl
              refine pure_ (i := 12) (N := some 65) (v := ?_) (a' := ?_) #[true, true, true, true, true, true, true, true, true, true, true, true, true, false] rfl rfl (by kernel_rfl) (fun _ _ _ h => h) (Or.inl ⟨by rfl, ?_⟩) ?_ ?_
              rotate_left
              · intro w'
                go_simp
                with_reducible rfl
              rotate_left
              · simp only [Act.put, List.setIfInBounds_toArray, List.set_cons_zero, List.set_cons_succ, i64_w, i32_w]
                rfl
              refine pure_ (i := 13) (N := some 9) (v := ?_) (a' := ?_) #[true, true, true, true, true, true, true, true, true, true, true, true, true, true] rfl rfl (by kernel_rfl) (fun _ _ _ h => h) (Or.inl ⟨by rfl, ?_⟩) ?_ ?_
              rotate_left
              · intro w'
                go_simp
                with_reducible rfl
              rotate_left
              · simp only [Act.put, List.setIfInBounds_toArray, List.set_cons_zero, List.set_cons_succ, i64_w, i32_w]
                rfl
              refine done_ (by kernel_rfl) ?_
              go_wp2
              go_meet
              case rel => exact ⟨rfl, _, Lib.hid hJ2, Lib.hid ((hba.out.trans (below_from_drew hB1)).trans hB2)⟩
            · by_cases ha1 : a = 1
              · subst ha1
                go_wp2_with (first
                  | (go_at_call 37; refine (hJa.out.take q hq4).mono ?_; rintro e w1 ⟨rfl, hJ1, hS1, hB1⟩; clear hJa; replace hJ1 := Lib.hid hJ1; replace hB1 := Lib.hid hB1; clear hS1)
                  | (go_at_call 38; refine (hJ1.out.rtake q hq4).mono ?_; rintro e w2 ⟨rfl, hJ2, hS2, hB2⟩; clear hJ1; replace hJ2 := Lib.hid hJ2; replace hB2 := Lib.hid hB2; clear hS2))
                go_meet
                case rel => exact ⟨by simp, _, hJ2, Lib.hid ((hba.out.trans hB1.out).trans hB2.out)⟩
              · by_cases ha2 : a = 2
                · subst ha2
                  obtain ⟨qv, qa, qp, ⟨f, hf4, hf, hf0, hf1⟩, hcf⟩ := hJa.out.first gc
                  obtain ⟨_, hfn, _⟩ := firstOf_spec ct
                  rw [← hf] at hcf hfn
                  replace hcf := Lib.hid hcf
                  replace hfn := Lib.hid hfn
                  replace hf0 := Lib.hid hf0
                  replace hf1 := Lib.hid hf1
                  clear hf
                  go_wp2_with (go_at_call 39; refine hcf.out.mono ?_; clear hcf; rintro e w1 ⟨rfl, hJ1, hS1, hB1⟩; replace hJ1 := Lib.hid hJ1; replace hB1 := Lib.hid (hba.out.trans hB1); clear hS1)
                  clear hJa hba
                  go_loopw [20, 17, 18, 19] (fun j v a' p wr => ∃ i : Nat, j = .int .i64 i ∧ Hid (Below W0 w wr) ∧ ((i ≤ f ∧ v = .int .i64 0 ∧ a' = .int .i64 0 ∧ p = .bool false ∧ Hid (J W0 g bb cc (upd ct f none) ct wr)) ∨ (i = f + 1 ∧ f < 4 ∧ v = .int .i64 qv ∧ a' = .int .i64 f ∧ p = .bool true ∧ Hid (J W0 g bb cc (upd ct f none) (upd ct f none) wr)))) (fun j _ _ _ _ => 5 - (intOf j).toNat)
                  case atStart => exact ⟨0, rfl, hB1, Or.inl ⟨Nat.zero_le _, rfl, rfl, rfl, hJ1⟩⟩
                  case round =>
                    clear hJ1 hB1
                    obtain ⟨i, rfl, hB1, ⟨hif, rfl, rfl, rfl, hJ1⟩ | ⟨rfl, hlt4, rfl, rfl, rfl, hJ1⟩⟩ := hrel
                    · by_cases hif' : i < f
                      · have hi4 : (i : Int) < 4 := by omega
                        go_wp2_with (go_at_call 38; refine (hJ1.out.rtake0 i (by omega) (hfn.out i hif')).mono ?_; rintro e w' ⟨rfl, rfl⟩)
                        go_roundw
                        case rel => exact ⟨i + 1, by go_num, hB1, Or.inl ⟨by omega, rfl, rfl, rfl, hJ1⟩⟩
                        case measure => simp [intOf]; omega
                      · obtain rfl : i = f := by omega
                        by_cases h4 : i = 4
                        · subst h4
                          obtain ⟨rfl, rfl, rfl⟩ := hf0.out rfl
                          go_wp2
                          go_meet
                          case rel => exact ⟨rfl, _, Lib.hid (hJ1.out.congr (ct' := ct) (cx' := ct) (fun i hi => (upd_ne _ _ _ _ (by omega)).symm) (fun _ _ => rfl)), hB1⟩
                        · have hi4 : (i : Int) < 4 := by omega
                          obtain ⟨hx, rfl, rfl⟩ := hf1.out (by omega)
                          replace hx := Lib.hid hx
                          go_wp2_with (go_at_call 38; refine (hJ1.out.rtake1 i (by omega) hx.out).mono ?_; rintro e w2 ⟨rfl, hJ2, hB2⟩; replace hJ2 := Lib.hid hJ2; replace hB2 := Lib.hid (hB1.out.trans hB2))
                          go_roundw
                          case rel => exact ⟨i + 1, by go_num, hB2, Or.inr ⟨rfl, by omega, rfl, rfl, rfl, hJ2⟩⟩
                          case measure => simp [intOf]; omega
                    · obtain ⟨hx, rfl, rfl⟩ := hf1.out hlt4
                      replace hx := Lib.hid hx
                      by_cases h3 : (f : Int) + 1 < 4
                      · go_wp2
                        go_meet
                        case rel => exact ⟨by simp, _, hJ1, hB1⟩
                      · go_wp2
                        go_meet
                        case rel => exact ⟨by simp, _, hJ1, hB1⟩
                · go_wp2
                  go_meet
                  case rel => exact ⟨rfl, _, hJa, hba⟩
          case rest =>
            obtain ⟨rfl, ct', hJ1, hB1⟩ := hcut
            clear hJa hba hoa
            go_wp2
            go_loopw [21, 9] (fun j v wr => ∃ i : Nat, i ≤ 4 ∧ j = .int .i64 i ∧ v = .bool true ∧ Hid (J W0 g bb cc ct' ct' wr) ∧ Hid (Below W0 w wr)) (fun j _ _ => 4 - (intOf j).toNat)
            case atStart => exact ⟨0, by omega, rfl, rfl, hJ1, hB1⟩
            case round =>
              clear hJ1 hB1
              obtain ⟨i, hi, rfl, rfl, hJ1, hB1⟩ := hrel
              by_cases hi4 : i < 4
              · have hi0 : (0 : Int) ≤ (i : Int) := by omega
                have hi5 : (i : Int) < 4 := by omega
                have hrow := hJ1.out.cell i hi4
                have harr := (hJ1.out.acell i hi4).1
                go_upto_region 35 with (fail)
                refine start_ (n := 14) (S := fun w' => w'.cell? ⟨g, i, none⟩ = some (.pointer (some ⟨bb i, 0, none⟩)) ∧ w'.cell? ⟨W0, i * 2, none⟩ = some (.bool (ct' i).isSome)) (ds := []) #[false, false, false, false, false, false, false, false, false, false, false, false, false, false] (by kernel_rfl) rfl rfl ⟨hrow, harr⟩ (fun hHeld => ?_)
                refine pure_ (i := 0) (N := some 131) (v := ?_) (a' := ?_) #[true, false, false, false, false, false, false, false, false, false, false, false, false, false] rfl rfl (by kernel_rfl) (fun _ _ _ h => h) (Or.inl ⟨by rfl, ?_⟩) ?_ ?_
                rotate_left
                · intro w'
                  go_simp
                  with_reducible rfl
                rotate_left
                · simp only [Act.put, List.setIfInBounds_toArray, List.set_cons_zero, List.set_cons_succ, i64_w, i32_w]
                  rfl
                refine pure_ (i := 1) (N := some 132) (v := ?_) (a' := ?_) #[true, true, false, false, false, false, false, false, false, false, false, false, false, false] rfl rfl (by kernel_rfl) (fun _ _ _ h => h) (Or.inl ⟨by rfl, ?_⟩) ?_ ?_
                rotate_left
                · intro w'
                  go_simp
                  with_reducible rfl
                rotate_left
                · simp only [Act.put, List.setIfInBounds_toArray, List.set_cons_zero, List.set_cons_succ, i64_w, i32_w]
                  rfl
                refine pure_ (i := 2) (N := some 133) (v := ?_) (a' := ?_) #[true, true, true, false, false, false, false, false, false, false, false, false, false, false] rfl rfl (by kernel_rfl) (fun _ _ _ h => h) (Or.inl ⟨by rfl, ?_⟩) ?_ ?_
                rotate_left
                · intro w'
                  go_simp
                  with_reducible rfl
                rotate_left
                · simp only [Act.put, List.setIfInBounds_toArray, List.set_cons_zero, List.set_cons_succ, i64_w, i32_w]
                  rfl
                refine pure_ (i := 3) (N := some 134) (v := ?_) (a' := ?_) #[true, true, true, true, false, false, false, false, false, false, false, false, false, false] rfl rfl (by kernel_rfl) (fun _ _ _ h => h) (Or.inl ⟨by rfl, ?_⟩) ?_ ?_
                rotate_left
                · intro w'
                  go_simp
                  with_reducible rfl
                rotate_left
                · simp only [Act.put, List.setIfInBounds_toArray, List.set_cons_zero, List.set_cons_succ, i64_w, i32_w]
                  rfl
                refine pure_ (i := 4) (N := some 135) (v := ?_) (a' := ?_) #[true, true, true, true, true, false, false, false, false, false, false, false, false, false] rfl rfl (by kernel_rfl) (fun _ _ _ h => h) (Or.inl ⟨by rfl, ?_⟩) ?_ ?_
                rotate_left
                · intro w'
                  go_simp
                  with_reducible rfl
                rotate_left
                · simp only [Act.put, List.setIfInBounds_toArray, List.set_cons_zero, List.set_cons_succ, i64_w, i32_w]
                  rfl
                refine pure_ (i := 7) (N := some 138) (v := ?_) (a' := ?_) #[true, true, true, true, true, false, false, true, false, false, false, false, false, false] rfl rfl (by kernel_rfl) (fun _ _ _ h => h) (Or.inl ⟨by rfl, ?_⟩) ?_ ?_
                rotate_left
                · intro w'
                  go_simp
                  with_reducible rfl
                rotate_left
                · simp only [Act.put, List.setIfInBounds_toArray, List.set_cons_zero, List.set_cons_succ, i64_w, i32_w]
                  rfl
                refine pure_ (i := 8) (N := some 139) (v := ?_) (a' := ?_) #[true, true, true, true, true, false, false, true, true, false, false, false, false, false] rfl rfl (by kernel_rfl) (fun _ _ _ h => h) (Or.inl ⟨by rfl, ?_⟩) ?_ ?_
                rotate_left
                · intro w'
                  go_simp
                  with_reducible rfl
                rotate_left
                · simp only [Act.put, List.setIfInBounds_toArray, List.set_cons_zero, List.set_cons_succ, i64_w, i32_w]
                  rfl
                refine pure_ (i := 9) (N := some 140) (v := ?_) (a' := ?_) #[true, true, true, true, true, false, false, true, true, true, false, false, false, false] rfl rfl (by kernel_rfl) (fun _ _ _ h => h) (Or.inl ⟨by rfl, ?_⟩) ?_ ?_
                rotate_left
                · intro w'
                  go_simp
                  with_reducible rfl
                rotate_left
                · simp only [Act.put, List.setIfInBounds_toArray, List.set_cons_zero, List.set_cons_succ, i64_w, i32_w]
                  rfl
                refine take_ (i := 5) (N := some 136) (v := ?_) (a' := ?_) #[true, true, true, true, true, true, false, true, true, true, false, false, false, false] rfl rfl (by kernel_rfl) (fun _ _ _ h => h) (Or.inl ⟨by rfl, ?_⟩) hHeld ?_ ?_
                rotate_left
                · rintro w' ⟨s0, s1⟩
                  go_simp
                  with_reducible rfl
                rotate_left
                · simp only [Act.put, List.setIfInBounds_toArray, List.set_cons_zero, List.set_cons_succ, i64_w, i32_w]
                  rfl
                refine take_ (i := 10) (N := some 141) (v := ?_) (a' := ?_) #[true, true, true, true, true, true, false, true, true, true, true, false, false, false] rfl rfl (by kernel_rfl) (fun _ _ _ h => h) (Or.inl ⟨by rfl, ?_⟩) hHeld ?_ ?_
                rotate_left
                · rintro w' ⟨s0, s1⟩
                  go_simp
                  with_reducible rfl
                rotate_left
                · simp only [Act.put, List.setIfInBounds_toArray, List.set_cons_zero, List.set_cons_succ, i64_w, i32_w]
                  rfl
                refine one_ (i := 6) (N := some 137) #[true, true, true, true, true, true, true, true, true, true, true, false, false, false] rfl rfl (by kernel_rfl) (by decide) (fun K hK => ?_)
                refine goes_ Try.func40 (by kernel_rfl) rfl #[.pointer (some ⟨bb i, 0, none⟩)] (by rfl) rfl rfl (by simp only [List.map_toArray, List.map_cons, List.map_nil]; rfl) ?_
                with_reducible refine ((hJ1.out.grown (below_drew (Below.refl _ _))).full i hi4).mono ?_
                rintro e w1 ⟨rfl, rfl⟩
                refine ⟨_, rfl, ?_⟩
                have hJ2 := hJ1.out.grown (below_drew (Below.refl _ _))
                refine hK.out _ _ ⟨hrow, harr⟩ (fun hHeld => ?_)
                clear hK K
                refine norm_ (a' := ?_) ?_ ?_
                rotate_left
                · show Act.put _ (some 137) _ = _
                  simp only [Act.put, List.setIfInBounds_toArray, List.set_cons_zero, List.set_cons_succ, i64_w, i32_w]
                  rfl
                refine pure_ (i := 11) (N := some 142) (v := ?_) (a' := ?_) #[true, true, true, true, true, true, true, true, true, true, true, true, false, false] rfl rfl (by kernel_rfl) (fun _ _ _ h => h) (Or.inl ⟨by rfl, ?_⟩) ?_ ?_
                rotate_left
                · intro w'
                  go_simp
                  with_reducible rfl
                rotate_left
                · simp only [Act.put, List.setIfInBounds_toArray, List.set_cons_zero, List.set_cons_succ, i64_w, i32_w]
                  rfl
                refine pure_ (i := 12) (N := some 143) (v := ?_) (a' := ?_) #[true, true, true, true, true, true, true, true, true, true, true, true, true, false] rfl rfl (by kernel_rfl) (fun _ _ _ h => h) (Or.inl ⟨by rfl, ?_⟩) ?_ ?_
                rotate_left
                · intro w'
                  go_simp
                  with_reducible rfl
                rotate_left
                · simp only [Act.put, List.setIfInBounds_toArray, List.set_cons_zero, List.set_cons_succ, i64_w, i32_w]
                  rfl
                refine pure_ (i := 13) (N := some 9) (v := ?_) (a' := ?_) #[true, true, true, true, true, true, true, true, true, true, true, true, true, true] rfl rfl (by kernel_rfl) (fun _ _ _ h => h) (Or.inl ⟨by rfl, ?_⟩) ?_ ?_
                rotate_left
                · intro w'
                  go_simp
                  with_reducible rfl
                rotate_left
                · simp only [Act.put, List.setIfInBounds_toArray, List.set_cons_zero, List.set_cons_succ, i64_w, i32_w]
                  rfl
                refine done_ (by kernel_rfl) ?_

                go_wp2
                go_roundw
                case rel => exact ⟨i + 1, by omega, by go_num, rfl, Lib.hid hJ2, Lib.hid (hB1.out.trans (below_drew (Below.refl _ _)))⟩
                case measure => simp [intOf]; omega
              · obtain rfl : i = 4 := by omega
                go_wp2
                go_roundw
                case rel => exact ⟨k + 1, _, by omega, by go_num, hJ1, hB1⟩
                case measure => simp [intOf]; omega
        · obtain rfl : k = n := by omega
          clear HC
          go_wp2_with (go_at_call 29; refine (awake _).mono ?_; rintro e w9 ⟨rfl, hb9⟩)
          go_ret
          rw [HW0.out] at hb0
          exact ⟨rfl, below_next hb0.out hb0.out.size hb9⟩
end Go.Proofs.Ytgbofijdjgpgeaa.Sig
