/- rec.Check: the first wrong note of any notes, and why (100000 notes at most). -/
import Derived.Test.YtgbofijdjgpgeaaRecsW
import Derived.Test.YtgbofijdjgpgeaaNote
namespace Go.Proofs.Ytgbofijdjgpgeaa.Recs
open Go.RowKit Go.Proofs.YtgbofijdjgpgeaaW.PrintWords Go.Proofs.YtgbofijdjgpgeaaW.PrintMore Go.Proofs.YtgbofijdjgpgeaaW.PrintLast

abbrev Nt := Int × Int × Int × Int
abbrev II := List (Int × Int)
def turn (m : II) (n : Nt) : II := if n.2.1 == 1 then gput m n.1 n.2.2.1 else if n.2.1 == 11 then gput m n.1 0 else m
def bad (m : II) (n : Nt) : Bool := ((n.2.1 == 1) == ((gget m n.1).getD 0 != 0)) || ((n.2.1 == 11) && (n.2.2.1 != (gget m n.1).getD 0))
/-- A place, an error's number. -/
def chk (tasks : Int) : Nat → List Nt → II → Int × Int
  | _, [], _ => (0, 0)
  | k, n :: l, m => if ¬ Note.Right n.1 n.2.1 n.2.2.1 n.2.2.2 then ((k : Int), 4) else if n.1 ≥ tasks then ((k : Int), 2) else if bad m n = true then ((k : Int), 8) else chk tasks (k + 1) l (turn m n)
abbrev iv (m : II) : IMap.M := m.map fun e => (e.1, Value.int .i64 e.2)
theorem iv_get (m : II) (t : Int) : (IMap.get (iv m) t).getD (.int .i64 0) = .int .i64 ((gget m t).getD 0) := by
  rw [get_eq, gget_map]
  cases gget m t <;> rfl
theorem iv_put (m : II) (t v : Int) : IMap.put (iv m) t (.int .i64 v) = iv (gput m t v) := by rw [put_eq, gput_map]
theorem zeroInt (w : World) : (zeroValue 3).run Try.prog w = .ok (.int .i64 0) w := by
  have h : (Try.prog.info? 3).map (·.zero) = some (some (.int .i64 0)) := by kernel_rfl
  obtain ⟨i, hi, hz⟩ := Option.map_eq_some_iff.1 h
  simp [zeroValue, typeInfo, hi, hz]
theorem look_ii {w : World} {mb : Nat} {m : II} (h : IMap.Is w mb (iv m)) (t : Int) : (Instr.lookup 112 (.map (some mb)) (.int .i64 t) false).run Try.prog w = .ok (.int .i64 ((gget m t).getD 0)) w := by
  have := IMap.run_lookup h Try.underlying112 Try.underlying3 (zeroInt w) t false
  rw [iv_get] at this
  exact this
theorem ends {r : Int × Int} {a b : Int} (h : r = (a, b)) : Ending.returned (.tuple #[.int .i64 a, .int .i64 b]) = Ending.returned (.tuple #[.int .i64 r.1, .int .i64 r.2]) := by rw [h]
theorem chk_at (tasks : Int) (l : List Nt) (k : Nat) (n : Nt) (m : II) (h : l[k]? = some n) : chk tasks k (l.drop k) m = if ¬ Note.Right n.1 n.2.1 n.2.2.1 n.2.2.2 then ((k : Int), 4) else if n.1 ≥ tasks then ((k : Int), 2) else if bad m n = true then ((k : Int), 8) else chk tasks (k + 1) (l.drop (k + 1)) (turn m n) := by
  obtain ⟨hl, rfl⟩ := List.getElem?_eq_some_iff.1 h
  rw [List.drop_eq_getElem_cons hl]
  rfl

set_option linter.unusedSimpArgs false
set_option maxRecDepth 100000 in
set_option maxHeartbeats 4000000 in
theorem check_walk (tasks : Int) (A : Option Addr) (cap n : Nat) (l : List Nt) (w : World) (hm : l.length ≤ cap) (hn : l.length = n) (hn1 : n ≤ 100000) (hC : Kd.C nk w A l.length l) :
    Calls Try.prog 55 #[.int .i64 tasks, .slice A l.length cap] w fun e w' => e = .returned (.tuple #[.int .i64 (chk tasks 0 l []).1, .int .i64 (chk tasks 0 l []).2]) ∧ Below w.heap.size w w' := by
  rw [hn] at hC hm ⊢
  have HC := Lib.hid hC
  have HN := Lib.hid hn
  clear hC hn
  have hm0 : Hid (IMap.Is (w.alloc (.map #[] 0)) w.heap.size (iv [])) := IMap.Is.made w
  have hb0 : Hid (Below w.heap.size w (w.alloc (.map #[] 0))) := (Below.refl _ _).alloc (Nat.le_refl _) _
  have hmm := @run_makeMap Try.prog
  go_enter Try.func55, Try.ntmps55
  go_wp2
  clear hmm
  obtain ⟨mb, hmb⟩ : ∃ n, n = w.heap.size := ⟨_, rfl⟩
  rw [← hmb]
  replace hmb := Lib.hid hmb
  go_loopw [13] (fun i wr => ∃ (k : Nat) (m : II), k ≤ n ∧ i = .int .i64 k ∧ Hid (IMap.Is wr mb (iv m)) ∧ Hid (Below w.heap.size w wr) ∧ Hid (chk tasks 0 l [] = chk tasks k (l.drop k) m)) (fun i _ => n - (intOf i).toNat)
  case atStart => exact ⟨0, [], Nat.zero_le _, rfl, (by rw [← hmb.out] at hm0; exact hm0), hb0, rfl⟩
  case round =>
    clear hm0 hb0
    obtain ⟨k, m, hk, rfl, hS, hB, hR⟩ := hrel
    by_cases hlt : k < n
    · obtain ⟨ad, t, wh, o, ar, rfl, hx, h0, h1, h2, h3⟩ := at_note (Kd.C_below HC.out hB.out) k hlt
      have hnext := chk_at tasks l k _ m hx
      rw [← hR.out] at hnext
      replace hnext := Lib.hid hnext
      clear hx
      have hSa := hS.out.alloc (.cells #[.int .i64 t, .int .i64 wh, .int .i64 o, .int .i64 ar] 98)
      have hBa := below_alloc hB.out (.cells #[.int .i64 t, .int .i64 wh, .int .i64 o, .int .i64 ar] 98)
      have hoa := heap_alloc_new wr (.cells #[.int .i64 t, .int .i64 wh, .int .i64 o, .int .i64 ar] 98)
      have hlow : w.heap.size ≤ mb := by rw [hmb.out]; exact Nat.le_refl _
      obtain ⟨wa, hwa⟩ : ∃ wa, wa = wr.alloc (.cells #[.int .i64 t, .int .i64 wh, .int .i64 o, .int .i64 ar] 98) := ⟨_, rfl⟩
      obtain ⟨ob, hob⟩ : ∃ ob, ob = wr.heap.size := ⟨_, rfl⟩
      obtain ⟨op, hop⟩ : ∃ op, op = (gget m t).getD 0 := ⟨_, rfl⟩
      rw [← hwa] at hSa hBa hoa
      rw [← hob] at hoa
      have hlk := look_ii hSa t
      rw [← hop] at hlk
      replace hSa := Lib.hid hSa
      replace hBa := Lib.hid hBa
      replace hoa := Lib.hid hoa
      replace hlow := Lib.hid hlow
      replace hop := Lib.hid hop
      replace hwa := Lib.hid hwa
      replace hob := Lib.hid hob
      go_upto_region 5 with (fail)
      rw [← hwa.out, ← hob.out]
      clear hwa hob h0 h1 h2 h3 hS hB
      have he0 := cell_of_heap (j := 0) hoa.out rfl
      have he1 := cell_of_heap (j := 1) hoa.out rfl
      have he2 := cell_of_heap (j := 2) hoa.out rfl
      have he3 := cell_of_heap (j := 3) hoa.out rfl
      by_cases hr : Note.Right t wh o ar
      · have hrd : decide (Note.Right t wh o ar) = true := decide_eq_true hr
        by_cases ht : t ≥ tasks
        · go_wp2_with (go_at_call 74; refine (Note.right_walk t wh o ar _).mono ?_; rintro e wb ⟨rfl, hbr⟩; have hSb := hSa.out.below hbr hSa.out.lt; have hBb := below_then hBa.out hBa.out.size hbr; have hoc := (hbr.block ob (Note.lt_of hoa.out)).trans hoa.out; have f0 := cell_of_heap (j := 0) hoc rfl; have f1 := cell_of_heap (j := 1) hoc rfl; have f2 := cell_of_heap (j := 2) hoc rfl; replace hSb := Lib.hid hSb; replace hBb := Lib.hid hBb; clear hbr hoc)
          go_ret2
          exact ⟨ends (by rw [hnext.out, if_neg (by simpa using hr), if_pos ht]), hBb.out⟩
        · have hn2 : chk tasks 0 l [] = if bad m (t, wh, o, ar) = true then ((k : Int), 8) else chk tasks (k + 1) (l.drop (k + 1)) (turn m (t, wh, o, ar)) := by
            rw [hnext.out, if_neg (by simpa using hr), if_neg ht]
          have hbad : bad m (t, wh, o, ar) = (((wh == 1) == (op != 0)) || ((wh == 11) && (o != op))) := by rw [hop.out]; rfl
          have hturn : turn m (t, wh, o, ar) = if (wh == 1) = true then gput m t o else if (wh == 11) = true then gput m t 0 else m := rfl
          rw [hbad, hturn] at hn2
          replace hn2 := Lib.hid hn2
          clear hbad hturn
          rcases hb1 : (wh == 1) with _ | _
          · rcases hb2 : (op != 0) with _ | _
            · go_wp2_with (go_at_call 74; refine (Note.right_walk t wh o ar _).mono ?_; rintro e wb ⟨rfl, hbr⟩; have hSb := hSa.out.below hbr hSa.out.lt; have hBb := below_then hBa.out hBa.out.size hbr; have hoc := (hbr.block ob (Note.lt_of hoa.out)).trans hoa.out; have f0 := cell_of_heap (j := 0) hoc rfl; have f1 := cell_of_heap (j := 1) hoc rfl; have f2 := cell_of_heap (j := 2) hoc rfl; replace hSb := Lib.hid hSb; replace hBb := Lib.hid hBb; clear hbr hoc)
              go_ret2
              exact ⟨ends (by rw [hn2.out, hb1, hb2]; rfl), hBb.out⟩
            · rcases hb3 : (wh == 11) with _ | _
              · go_wp2_with (go_at_call 74; refine (Note.right_walk t wh o ar _).mono ?_; rintro e wb ⟨rfl, hbr⟩; have hSb := hSa.out.below hbr hSa.out.lt; have hBb := below_then hBa.out hBa.out.size hbr; have hoc := (hbr.block ob (Note.lt_of hoa.out)).trans hoa.out; have f0 := cell_of_heap (j := 0) hoc rfl; have f1 := cell_of_heap (j := 1) hoc rfl; have f2 := cell_of_heap (j := 2) hoc rfl; replace hSb := Lib.hid hSb; replace hBb := Lib.hid hBb; clear hbr hoc)
                go_roundw
                case rel => exact ⟨k + 1, m, by omega, by go_num, hSb, hBb, by rw [hn2.out, hb1, hb2, hb3]; rfl⟩
                case measure => simp [intOf]; omega
              · rcases hb4 : (o != op) with _ | _
                · go_wp2_with (first
                    | (go_at_call 74; refine (Note.right_walk t wh o ar _).mono ?_; rintro e wb ⟨rfl, hbr⟩; have hSb := hSa.out.below hbr hSa.out.lt; have hBb := below_then hBa.out hBa.out.size hbr; have hoc := (hbr.block ob (Note.lt_of hoa.out)).trans hoa.out; have f0 := cell_of_heap (j := 0) hoc rfl; have f1 := cell_of_heap (j := 1) hoc rfl; have f2 := cell_of_heap (j := 2) hoc rfl; replace hSb := Lib.hid hSb; replace hBb := Lib.hid hBb; clear hbr hoc)
                    | (refine IMap.wp_update rfl 112 (.tmp 61) (.tmp 63) (.const (.int .i64 0)) rfl 3 3 Try.underlying112 Try.underlying3 mb (iv m) t (.int .i64 0) rfl rfl rfl hSb.out ?_; intro w2 hi hu; rw [iv_put] at hi; have hB2 := hu.below hlow.out hBb.out; replace hi := Lib.hid hi; replace hB2 := Lib.hid hB2; clear hu))
                  go_roundw
                  case rel => exact ⟨k + 1, _, by omega, by go_num, hi, hB2, by rw [hn2.out, hb1, hb2, hb3, hb4]; rfl⟩
                  case measure => simp [intOf]; omega
                · go_wp2_with (go_at_call 74; refine (Note.right_walk t wh o ar _).mono ?_; rintro e wb ⟨rfl, hbr⟩; have hSb := hSa.out.below hbr hSa.out.lt; have hBb := below_then hBa.out hBa.out.size hbr; have hoc := (hbr.block ob (Note.lt_of hoa.out)).trans hoa.out; have f0 := cell_of_heap (j := 0) hoc rfl; have f1 := cell_of_heap (j := 1) hoc rfl; have f2 := cell_of_heap (j := 2) hoc rfl; replace hSb := Lib.hid hSb; replace hBb := Lib.hid hBb; clear hbr hoc)
                  go_ret2
                  exact ⟨ends (by rw [hn2.out, hb1, hb2, hb3, hb4]; rfl), hBb.out⟩
          · have hb3 : (wh == 11) = false := by simp only [beq_iff_eq] at hb1; subst hb1; rfl
            rcases hb2 : (op != 0) with _ | _
            · go_wp2_with (first
                | (go_at_call 74; refine (Note.right_walk t wh o ar _).mono ?_; rintro e wb ⟨rfl, hbr⟩; have hSb := hSa.out.below hbr hSa.out.lt; have hBb := below_then hBa.out hBa.out.size hbr; have hoc := (hbr.block ob (Note.lt_of hoa.out)).trans hoa.out; have f0 := cell_of_heap (j := 0) hoc rfl; have f1 := cell_of_heap (j := 1) hoc rfl; have f2 := cell_of_heap (j := 2) hoc rfl; replace hSb := Lib.hid hSb; replace hBb := Lib.hid hBb; clear hbr hoc)
                | (refine IMap.wp_update rfl 112 (.tmp 54) (.tmp 56) (.tmp 58) rfl 3 3 Try.underlying112 Try.underlying3 mb (iv m) t (.int .i64 o) rfl rfl rfl hSb.out ?_; intro w2 hi hu; rw [iv_put] at hi; have hB2 := hu.below hlow.out hBb.out; replace hi := Lib.hid hi; replace hB2 := Lib.hid hB2; clear hu))
              go_roundw
              case rel => exact ⟨k + 1, _, by omega, by go_num, hi, hB2, by rw [hn2.out, hb1, hb2, hb3]; rfl⟩
              case measure => simp [intOf]; omega
            · go_wp2_with (go_at_call 74; refine (Note.right_walk t wh o ar _).mono ?_; rintro e wb ⟨rfl, hbr⟩; have hSb := hSa.out.below hbr hSa.out.lt; have hBb := below_then hBa.out hBa.out.size hbr; have hoc := (hbr.block ob (Note.lt_of hoa.out)).trans hoa.out; have f0 := cell_of_heap (j := 0) hoc rfl; have f1 := cell_of_heap (j := 1) hoc rfl; have f2 := cell_of_heap (j := 2) hoc rfl; replace hSb := Lib.hid hSb; replace hBb := Lib.hid hBb; clear hbr hoc)
              go_ret2
              exact ⟨ends (by rw [hn2.out, hb1, hb2]; rfl), hBb.out⟩
      · have hrd : decide (Note.Right t wh o ar) = false := decide_eq_false hr
        go_wp2_with (go_at_call 74; refine (Note.right_walk t wh o ar _).mono ?_; rintro e wb ⟨rfl, hbr⟩; have hSb := hSa.out.below hbr hSa.out.lt; have hBb := below_then hBa.out hBa.out.size hbr; have hoc := (hbr.block ob (Note.lt_of hoa.out)).trans hoa.out; have f0 := cell_of_heap (j := 0) hoc rfl; have f1 := cell_of_heap (j := 1) hoc rfl; have f2 := cell_of_heap (j := 2) hoc rfl; replace hSb := Lib.hid hSb; replace hBb := Lib.hid hBb; clear hbr hoc)
        go_ret2
        exact ⟨ends (by rw [hnext.out, if_pos (by simpa using hr)]), hBb.out⟩
    · obtain rfl : k = n := by omega
      go_wp2
      go_ret2
      refine ⟨?_, hB.out⟩
      rw [hR.out, ← HN.out, List.drop_length]
      rfl
end Go.Proofs.Ytgbofijdjgpgeaa.Recs
