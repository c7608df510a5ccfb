/- The document's example for rec.Calls. -/
import Derived.Test.YtgbofijdjgpgeaaRecsW
namespace Go.Proofs.Ytgbofijdjgpgeaa.Recs
open Go.RowKit Go.Proofs.YtgbofijdjgpgeaaW.PrintWords Go.Proofs.YtgbofijdjgpgeaaW.PrintMore Go.Proofs.YtgbofijdjgpgeaaW.PrintLast Go.Proofs.Ytgbofijdjgpgeaa.Fam

theorem St.cellj {w0 w : World} {B mb : Nat} {os : List E} {cs : List (C × Sl)} {vo : Value} (h : St w0 B mb os cs vo w) {q : Nat} {c : C} {s : Sl} (hq : cs[q]? = some (c, s)) : ∃ g cap, vo = .slice (some ⟨g, 0, none⟩) cs.length cap ∧ ∀ j u, (tcs (tup (c, s)))[j]? = some u → w.cell? ⟨g, q * 6 + j, none⟩ = some u := by
  have hl := (List.getElem?_eq_some_iff.1 hq).1
  obtain ⟨g, cap, hv, _⟩ := Kd.R_form h.row (by simpa using Nat.lt_of_le_of_lt (Nat.zero_le _) hl)
  rw [List.length_map] at hv
  subst hv
  obtain ⟨d, hcl, hM, hcc, _⟩ := Kd.R_elem h.row (0, 0, 0, 0, 0, nilS) (q : Int) (by omega) (by omega)
  have hd : (cs.map tup).getD (q : Int).toNat (0, 0, 0, 0, 0, nilS) = tup (c, s) := by rw [Int.toNat_natCast, List.getD_eq_getElem?_getD, List.getElem?_map, hq]; rfl
  rw [hd] at hM
  obtain rfl := ck_open hM
  have h6 : ck.sz = 6 := rfl
  rw [h6] at hcc
  exact ⟨g, cap, rfl, fun j u hu => by simpa using hcc j u hu⟩

abbrev two : Array Value := #[.int .i64 0, .int .i64 1, .int .i64 1, .int .i64 0, .int .i64 0, .int .i64 11, .int .i64 1, .int .i64 2]
theorem two_C (w : World) : Kd.C nk (w.alloc (.cells two 98)) (some ⟨w.heap.size, 0, none⟩) [((0 : Int), (1 : Int), (1 : Int), (0 : Int)), (0, 11, 1, 2)].length [(0, 1, 1, 0), (0, 11, 1, 2)] := by
  refine ⟨rfl, by decide, fun _ => ⟨_, rfl, fun j p hj => ?_⟩⟩
  have hn := heap_alloc_new w (.cells two 98)
  match j, hj with
  | 0, hj =>
    cases hj
    refine ⟨[.int .i64 0, .int .i64 1, .int .i64 1, .int .i64 0], rfl, ⟨_, _, rfl, rfl, _, _, rfl, rfl, _, _, rfl, rfl, rfl⟩, fun i u hu => ?_⟩
    match i, hu with
    | 0, hu => cases hu; exact cell_of_heap hn rfl
    | 1, hu => cases hu; exact cell_of_heap hn rfl
    | 2, hu => cases hu; exact cell_of_heap hn rfl
    | 3, hu => cases hu; exact cell_of_heap hn rfl
  | 1, hj =>
    cases hj
    refine ⟨[.int .i64 0, .int .i64 11, .int .i64 1, .int .i64 2], rfl, ⟨_, _, rfl, rfl, _, _, rfl, rfl, _, _, rfl, rfl, rfl⟩, fun i u hu => ?_⟩
    match i, hu with
    | 0, hu => cases hu; exact cell_of_heap hn rfl
    | 1, hu => cases hu; exact cell_of_heap hn rfl
    | 2, hu => cases hu; exact cell_of_heap hn rfl
    | 3, hu => cases hu; exact cell_of_heap hn rfl

set_option maxRecDepth 100000 in
set_option maxHeartbeats 1000000 in
theorem awake (w : World) : Calls Try.prog 28 #[] w fun e w' => e = .returned (.bool true) ∧ Below w.heap.size w w' := by
  have hcalls := (calls_walk (some ⟨w.heap.size, 0, none⟩) 2 2 [(0, 1, 1, 0), (0, 11, 1, 2)] (w.alloc (.cells two 98)) (by decide) rfl (by decide) (two_C w)).mono (R' := fun e w' => ∃ g cap, e = .returned (.slice (some ⟨g, 0, none⟩) 1 cap) ∧ Below w.heap.size w w' ∧ w'.cell? ⟨g, 2, none⟩ = some (.int .i64 0) ∧ w'.cell? ⟨g, 3, none⟩ = some (.int .i64 1) ∧ w'.cell? ⟨g, 4, none⟩ = some (.int .i64 2)) (by
    rintro e w1 ⟨vo, os, cs, rfl, hS, hC⟩
    have hcs : fs cs = [⟨0, 1, 0, 1, 2, []⟩] := hC
    match cs, hcs with
    | [(c, s)], hcs =>
      simp only [fs, List.map_cons, List.map_nil, List.cons.injEq, and_true] at hcs
      subst hcs
      obtain ⟨g, cap, rfl, hc⟩ := hS.cellj (q := 0) rfl
      exact ⟨g, cap, rfl, (below_alloc (Below.refl _ _) _).trans (hS.below.mono (by simp)), hc 2 _ rfl, hc 3 _ rfl, hc 4 _ rfl⟩)
  replace hcalls := Lib.hid hcalls
  go_enter Try.func28, Try.ntmps28
  go_wp2_with (go_at_call 65; refine hcalls.out.mono ?_; clear hcalls; rintro e w1 ⟨g, cap, rfl, hb, h2, h3, h4⟩; replace hb := Lib.hid hb)
  go_ret
  exact ⟨rfl, hb.out⟩
end Go.Proofs.Ytgbofijdjgpgeaa.Recs
