/- The law BoundWatches: walk. -/
import Derived.Test.YtgbofijdjgpgeaaWatP
import Derived.Test.YtgbofijdjgpgeaaPBoundWatchesx1
namespace Go.Proofs.Ytgbofijdjgpgeaa.Wat
open Go.RowKit Go.Proofs.YtgbofijdjgpgeaaW.PrintWords Go.Proofs.YtgbofijdjgpgeaaW.PrintMore Go.Proofs.YtgbofijdjgpgeaaW.PrintLast Go.Proofs.Ytgbofijdjgpgeaa.PBoundWatches
set_option linter.unusedSimpArgs false
abbrev evk : Kd Ev := Kd.pair Kd.bool (Kd.pair (Kd.pair (Kd.int .i64) (Kd.pair (Kd.int .i64) (Kd.pair (Kd.int .u32) (Kd.pair (Kd.int .u32) (Kd.int .u32))))) (Kd.slice 98 nk))
theorem ev_open {w : World} {e : Ev} {cs : List Value} (h : evk.K w e cs) : ∃ A c, cs = [.bool e.1, .int .i64 e.2.1.1, .int .i64 e.2.1.2.1, .int .u32 e.2.1.2.2.1, .int .u32 e.2.1.2.2.2.1, .int .u32 e.2.1.2.2.2.2, .slice A e.2.2.length c] ∧ e.2.2.length ≤ c ∧ Kd.C nk w A e.2.2.length e.2.2 := by
  obtain ⟨_, _, rfl, rfl, ⟨_, _, rfl, ⟨_, _, rfl, rfl, ⟨_, _, rfl, rfl, ⟨_, _, rfl, rfl, ⟨_, _, rfl, rfl, rfl⟩⟩⟩⟩, A, c, rfl, hm, hC⟩⟩ := h
  exact ⟨A, c, rfl, hm, hC⟩
theorem C_mkN {w : World} {A : Option Addr} {l : List Nt} (h : Kd.C nk w A l.length l) : Kd.C k98 w A (l.map mkN).length (l.map mkN) := by
  rw [List.length_map]
  refine ⟨List.length_map .., h.2.1, fun hn => ?_⟩
  obtain ⟨ad, e, hc⟩ := h.2.2 hn
  refine ⟨ad, e, fun j p hj => ?_⟩
  rw [List.getElem?_map] at hj
  obtain ⟨q, hq, rfl⟩ := Option.map_eq_some_iff.1 hj
  obtain ⟨c, hs, hr, hcell⟩ := hc j q hq
  exact ⟨c, hs, hr, hcell⟩
theorem C_mkE {w : World} {A : Option Addr} {l : List Ev} (h : Kd.C evk w A l.length l) : Kd.C k80 w A (l.map mkE).length (l.map mkE) := by
  rw [List.length_map]
  refine ⟨List.length_map .., h.2.1, fun hn => ?_⟩
  obtain ⟨ad, e, hc⟩ := h.2.2 hn
  refine ⟨ad, e, fun j p hj => ?_⟩
  rw [List.getElem?_map] at hj
  obtain ⟨q, hq, rfl⟩ := Option.map_eq_some_iff.1 hj
  obtain ⟨c, hs, hr, hcell⟩ := hc j q hq
  obtain ⟨A6, c6, rfl, hm, hC⟩ := ev_open hr
  have hC2 := C_mkN hC
  have hK := k80_mk w (mkE q) (A6 := A6) (c6 := c6) (by rw [List.length_map]; exact hm) hC2
  rw [show (mkE q).f2.length = q.2.2.length from List.length_map ..] at hK
  exact ⟨_, hs, hK, hcell⟩
theorem at_ev {w : World} {A : Option Addr} {n : Nat} {xs : List Ev} (h : Kd.C evk w A n xs) (i : Nat) (h1 : i < n) :
    ∃ ad A6 c6 b0 x0 x1 x2 x3 x4 nl, A = some ad ∧ xs[i]? = some (b0, (x0, x1, x2, x3, x4), nl) ∧ w.cell? (ad.add (i * 7)) = some (.bool b0) ∧ w.cell? ⟨(ad.add (i * 7)).block, (ad.add (i * 7)).off + 1, none⟩ = some (.int .i64 x0) ∧ w.cell? ⟨(ad.add (i * 7)).block, (ad.add (i * 7)).off + 2, none⟩ = some (.int .i64 x1) ∧ w.cell? ⟨(ad.add (i * 7)).block, (ad.add (i * 7)).off + 3, none⟩ = some (.int .u32 x2) ∧
      w.cell? ⟨(ad.add (i * 7)).block, (ad.add (i * 7)).off + 4, none⟩ = some (.int .u32 x3) ∧ w.cell? ⟨(ad.add (i * 7)).block, (ad.add (i * 7)).off + 5, none⟩ = some (.int .u32 x4) ∧ w.cell? ⟨(ad.add (i * 7)).block, (ad.add (i * 7)).off + 6, none⟩ = some (.slice A6 nl.length c6) ∧ nl.length ≤ c6 ∧ Kd.C nk w A6 nl.length nl := by
  have hn := h.1
  obtain ⟨ad, c, e, _, hK, hc0⟩ := Kd.C_get h (false, (0, 0, 0, 0, 0), []) (i : Int) (by omega) (by omega)
  have hc : ∀ j u, c[j]? = some u → w.cell? (ad.add (i * 7 + j)) = some u := hc0
  obtain ⟨A6, c6, rfl, hm, hC⟩ := ev_open hK
  have hx : xs[i]? = some (xs.getD (i : Int).toNat (false, (0, 0, 0, 0, 0), [])) := by
    rw [Int.toNat_natCast, List.getD_eq_getElem?_getD, List.getElem?_eq_getElem (by omega)]
    rfl
  refine ⟨ad, A6, c6, _, _, _, _, _, _, _, e, hx, hc 0 _ rfl, ?_, ?_, ?_, ?_, ?_, ?_, hm, hC⟩
  · rw [← add_field _ _ 1 (by omega)]; exact hc 1 _ rfl
  · rw [← add_field _ _ 2 (by omega)]; exact hc 2 _ rfl
  · rw [← add_field _ _ 3 (by omega)]; exact hc 3 _ rfl
  · rw [← add_field _ _ 4 (by omega)]; exact hc 4 _ rfl
  · rw [← add_field _ _ 5 (by omega)]; exact hc 5 _ rfl
  · rw [← add_field _ _ 6 (by omega)]; exact hc 6 _ rfl
theorem cell_keep {w w1 : World} {a : Addr} {v : Value} (hb : Below w.heap.size w w1) (h : w.cell? a = some v) : w1.cell? a = some v := by
  have hlt : a.block < w.heap.size := by
    cases hx : w.heap[a.block]? with
    | none => simp [World.cell?, hx] at h
    | some o => exact (Array.getElem?_eq_some_iff.1 hx).1
  exact (hb.cell hlt).trans h
abbrev s0 : Sg := ⟨fun _ => 0, fun _ => 0, fun _ => 0⟩
theorem evS_snoc (n : Nat) (e : Ev) : ∀ (l : List Ev) (k : Nat) (s : Sg), evS n k (l ++ [e]) s = e.2.2.foldl (noteS (((k + l.length : Nat) : Int) + 1) n) (evS n k l s)
  | [], _, _ => rfl
  | a :: l, k, s => by
    show evS n (k + 1) (l ++ [e]) _ = _
    rw [evS_snoc n e l (k + 1)]
    have : k + 1 + l.length = k + (a :: l).length := by rw [List.length_cons]; omega
    rw [this]
    rfl
theorem evS_next (n : Nat) (l : List Ev) (k : Nat) (e : Ev) (h : l[k]? = some e) : evS n 0 (l.take (k + 1)) s0 = e.2.2.foldl (noteS ((k : Int) + 1) n) (evS n 0 (l.take k) s0) := by
  have hl := (List.getElem?_eq_some_iff.1 h).1
  rw [List.take_add_one, h]
  have := evS_snoc n e (l.take k) 0 s0
  rw [List.length_take, Nat.min_eq_left (Nat.le_of_lt hl), Nat.zero_add] at this
  exact this
theorem Ok.notes {n : Nat} {c : Int} : ∀ (l : List Nt) {s : Sg}, Ok n s → Ok n (l.foldl (noteS c n) s)
  | [], _, h => h
  | x :: l, _, h => Ok.notes l (h.note x)
theorem aw_f : stilemanlaw24_awake.f = some true := by
  unfold stilemanlaw24_awake.f bound_Picks.f bound_right.f
  simp [wrap64]
theorem aw_walk (w : World) : Calls Try.prog 16 #[] w fun e w' => e = .returned (.bool true) ∧ Below w.heap.size w w' := (stilemanlaw24_awake.calls true w aw_f).mono fun _ _ h => ⟨h.1, h.2.below⟩

set_option maxRecDepth 100000 in
set_option maxHeartbeats 4000000 in
theorem watches_walk (n : Int) (A : Option Addr) (cap : Nat) (l : List Ev) (class_ task : Int) (w : World) (hm : l.length ≤ cap) (hC : Kd.C evk w A l.length l) :
    Calls Try.prog 11 #[.int .i64 n, .slice A l.length cap, .int .i64 class_, .int .i64 task] w fun e w' => e = .returned (.bool true) ∧ Below w.heap.size w w' := by
  have hmax := Kd.C_max hC
  by_cases hlen : 200 < l.length
  · clear hC
    generalize l.length = n at *
    go_enter Try.func11, Try.ntmps11
    go_wp2_with (go_at_call 16; refine (aw_walk _).mono ?_; rintro e w9 ⟨rfl, hb9⟩)
    go_ret
    exact ⟨rfl, hb9⟩
  by_cases hn : 1 ≤ n ∧ n ≤ 64
  · obtain ⟨t, rfl⟩ := Int.eq_ofNat_of_zero_le (show 0 ≤ n by omega)
    obtain ⟨m, hml⟩ : ∃ m, m = l.length := ⟨_, rfl⟩
    rw [← hml] at hC hm hlen hmax ⊢
    have hn1 : ¬ ((t : Int) < 1) := by omega
    have hn2 : ¬ ((t : Int) > 64) := by omega
    have ht1 : 1 ≤ t := by omega
    have ht64 : t ≤ 64 := by omega
    clear hn
    have HC := Lib.hid hC
    replace hml := Lib.hid hml
    clear hC
    go_enter Try.func11, Try.ntmps11
    go_wp2_with (go_at_call 48; refine (new_ok t ht1 ht64 _).mono ?_; rintro e wn ⟨p, g, wcap, rfl, hW0, hB0, hp, hg⟩; replace hW0 := Lib.hid hW0; replace hB0 := Lib.hid hB0; replace hp := Lib.hid hp; replace hg := Lib.hid hg)
    go_loopw [11] (fun i wr => ∃ (k : Nat) (s : Sg), k ≤ m ∧ i = .int .i64 k ∧ Hid (Wt wr p g t wcap k s.L s.o s.f) ∧ Hid (Below w.heap.size w wr) ∧ Hid (s = evS t 0 (l.take k) s0) ∧ Hid (Ok t s) ∧ Hid (∀ e ∈ l.take k, e.2.2.length ≤ 20)) (fun i _ => m - (intOf i).toNat)
    case atStart => exact ⟨0, s0, Nat.zero_le _, rfl, hW0, hB0, rfl, Lib.hid (fun _ _ => .inl rfl), Lib.hid (fun e he => (by cases he))⟩
    case round =>
      clear hW0 hB0
      obtain ⟨k, s, hk, rfl, hW, hB, hS, hok, hsm⟩ := hrel
      by_cases hlt : k < m
      · obtain ⟨ad, A6, c6, b0, x0, x1, x2, x3, x4, nl, rfl, hx, h0, h1, h2, h3, h4, h5, h6, hm6, hC6⟩ := at_ev HC.out k hlt
        replace h0 := cell_keep hB.out h0
        replace h1 := cell_keep hB.out h1
        replace h2 := cell_keep hB.out h2
        replace h3 := cell_keep hB.out h3
        replace h4 := cell_keep hB.out h4
        replace h5 := cell_keep hB.out h5
        replace h6 := cell_keep hB.out h6
        have hnext := evS_next t l k _ hx
        rw [← hS.out] at hnext
        replace hnext := Lib.hid hnext
        by_cases h20 : 20 < nl.length
        · clear hC6
          obtain ⟨nn, hnn⟩ : ∃ nn, nn = nl.length := ⟨_, rfl⟩
          rw [← hnn] at h6 h20
          replace hnn := Lib.hid hnn
          clear hx hm6
          have h20i : (nn : Int) > 20 := by omega
          go_wp2_with (go_at_call 16; refine (aw_walk _).mono ?_; rintro e w9 ⟨rfl, hb9⟩; replace hb9 := Lib.hid (below_then hB.out hB.out.size hb9))
          go_ret
          exact ⟨rfl, hb9.out⟩
        · have hsm2 : ∀ e ∈ l.take (k + 1), e.2.2.length ≤ 20 := by
            intro e he
            rw [List.take_add_one, hx] at he
            rcases List.mem_append.1 he with he | he
            · exact hsm.out e he
            · simp at he
              subst he
              show nl.length ≤ 20
              omega
          have htk := tick_walk s hW.out hok.out ⟨by omega, by omega⟩ b0 x0 x1 x2 x3 x4 A6 nl.length c6 nl rfl (by omega) hm6 (fun w' hb => Kd.C_below hC6 (hb.below hp.out hg.out hB.out hB.out.size))
          have h20i : ¬ ((nl.length : Int) > 20) := by omega
          obtain ⟨nn, hnn⟩ : ∃ nn, nn = nl.length := ⟨_, rfl⟩
          rw [← hnn] at h6 h20i htk
          replace hnn := Lib.hid hnn
          replace htk := Lib.hid htk
          replace hsm2 := Lib.hid hsm2
          clear hx hm6 hC6 h20
          go_wp2_with (go_at_call 52; refine htk.out.mono ?_; clear htk; rintro e w2 ⟨rfl, s', hs', hW2, hB2⟩; replace hW2 := Lib.hid hW2; replace hB2 := Lib.hid (hB2.below hp.out hg.out hB.out hB.out.size); replace hs' := Lib.hid hs')
          go_roundw
          case rel => exact ⟨k + 1, s', by omega, by go_num, Lib.hid (by have := hW2.out; rwa [show ((k : Int) + 1) = ((k + 1 : Nat) : Int) by omega] at this), hB2, Lib.hid (hs'.out.trans hnext.out.symm), Lib.hid (hs'.out ▸ Ok.notes nl hok.out), hsm2⟩
          case measure => simp [intOf]; omega
      · obtain rfl : m = k := by omega
        have hall : l.take m = l := by rw [hml.out, List.take_length]
        have hS2 := hS.out
        have hsm2 := hsm.out
        rw [hall] at hS2 hsm2
        have hbig : ∀ e ∈ l, e.2.2.length ≤ 1000000 := fun e he => Nat.le_trans (hsm2 e he) (by decide)
        have hlb : l.length ≤ 1000000 := by rw [← hml.out]; omega
        have hC2 := fun (w' : World) (hb : Below w.heap.size w w') => C_mkE (by have := Kd.C_below HC.out hb; rw [hml.out] at this; exact this)
        have hl := fun (w' : World) (hb : Below w.heap.size w w') => stilemanref24_Longest.calls (t + fuel l + 1) A cap (l.map mkE) t class_ _ w' (hC2 w' hb) (by rw [List.length_map, ← hml.out]; exact hm) (Longest_f l hbig hlb t (by omega) class_ s hS2)
        have hw := fun (w' : World) (hb : Below w.heap.size w w') => stilemanref24_Waiting.calls (fuel l + 1) A cap (l.map mkE) t task _ w' (hC2 w' hb) (by rw [List.length_map, ← hml.out]; exact hm) (Waiting_f l hbig hlb t task s hS2)
        rw [List.length_map, ← hml.out] at hl hw
        have h1 := count_walk hW.out
        have h2 := fun (w' : World) (hb : Below wr.heap.size wr w') => longest_walk (hW.out.grown hb) (by omega) hok.out class_
        have h3 := fun (w' : World) (hb : Below wr.heap.size wr w') => waiting_walk (hW.out.grown hb) task
        obtain ⟨lv, hlv⟩ : ∃ lv, lv = longv (m : Int) s.L s.o s.f t class_ := ⟨_, rfl⟩
        obtain ⟨wv_, hwv⟩ : ∃ wv_, wv_ = waitv (m : Int) s.o s.f t task := ⟨_, rfl⟩
        rw [← hlv] at hl h2
        rw [← hwv] at hw h3
        replace hl := Lib.hid hl
        replace hw := Lib.hid hw
        replace h1 := Lib.hid h1
        replace h2 := Lib.hid h2
        replace h3 := Lib.hid h3
        clear hbig hlb hC2 hall hS2 hsm2 hlv hwv hlt hk
        go_wp2_with (first
          | (go_at_call 49; refine h1.out.mono ?_; clear h1; rintro e w1 ⟨rfl, hb1⟩; replace hb1 := Lib.hid hb1)
          | (go_at_call 50; refine (h2.out _ hb1.out).mono ?_; clear h2; rintro e w2 ⟨rfl, hb2⟩; replace hb2 := Lib.hid (below_then hb1.out hb1.out.size hb2))
          | (go_at_call 53; refine (hl.out _ (below_then hB.out hB.out.size hb2.out)).mono ?_; clear hl; rintro e w3 ⟨rfl, hb3⟩; replace hb3 := Lib.hid (below_then hb2.out hb2.out.size hb3))
          | (go_at_call 51; refine (h3.out _ hb3.out).mono ?_; clear h3; rintro e w4 ⟨rfl, hb4⟩; replace hb4 := Lib.hid (below_then hb3.out hb3.out.size hb4))
          | (go_at_call 54; refine (hw.out _ (below_then hB.out hB.out.size hb4.out)).mono ?_; clear hw; rintro e w5 ⟨rfl, hb5⟩; replace hb5 := Lib.hid (below_then hb4.out hb4.out.size hb5))
          | (go_at_call 16; refine (aw_walk _).mono ?_; rintro e w9 ⟨rfl, hb9⟩; replace hb9 := Lib.hid (below_then hB.out hB.out.size (below_then hb5.out hb5.out.size hb9))))
        go_ret
        exact ⟨rfl, hb9.out⟩
  · have hnb : (decide (n < 1) || decide (n > 64)) = true := by simp; omega
    clear hC
    generalize l.length = m at *
    have hnew := Lib.hid (new_bad n hn)
    rcases Int.lt_or_le n 1 with h1 | h1
    · go_enter Try.func11, Try.ntmps11
      go_wp2_with (first
        | (go_at_call 48; refine (hnew.out _).mono ?_; rintro e w1 ⟨rfl, hb1⟩; replace hb1 := Lib.hid hb1)
        | (go_at_call 49; refine (count_nil _).mono ?_; rintro e w2 ⟨rfl, hb2⟩; replace hb2 := Lib.hid (below_then hb1.out hb1.out.size hb2))
        | (go_at_call 50; refine (longest_nil class_ _).mono ?_; rintro e w3 ⟨rfl, hb3⟩; replace hb3 := Lib.hid (below_then hb2.out hb2.out.size hb3))
        | (go_at_call 51; refine (waiting_nil task _).mono ?_; rintro e w4 ⟨rfl, hb4⟩; replace hb4 := Lib.hid (below_then hb3.out hb3.out.size hb4))
        | (go_at_call 16; refine (aw_walk _).mono ?_; rintro e w9 ⟨rfl, hb9⟩; replace hb9 := Lib.hid (below_then hb4.out hb4.out.size hb9)))
      go_ret
      exact ⟨rfl, hb9.out⟩
    · have h64 : n > 64 := by omega
      have h1' : ¬ (n < 1) := by omega
      go_enter Try.func11, Try.ntmps11
      go_wp2_with (first
        | (go_at_call 48; refine (hnew.out _).mono ?_; rintro e w1 ⟨rfl, hb1⟩; replace hb1 := Lib.hid hb1)
        | (go_at_call 49; refine (count_nil _).mono ?_; rintro e w2 ⟨rfl, hb2⟩; replace hb2 := Lib.hid (below_then hb1.out hb1.out.size hb2))
        | (go_at_call 50; refine (longest_nil class_ _).mono ?_; rintro e w3 ⟨rfl, hb3⟩; replace hb3 := Lib.hid (below_then hb2.out hb2.out.size hb3))
        | (go_at_call 51; refine (waiting_nil task _).mono ?_; rintro e w4 ⟨rfl, hb4⟩; replace hb4 := Lib.hid (below_then hb3.out hb3.out.size hb4))
        | (go_at_call 16; refine (aw_walk _).mono ?_; rintro e w9 ⟨rfl, hb9⟩; replace hb9 := Lib.hid (below_then hb4.out hb4.out.size hb9)))
      go_ret
      exact ⟨rfl, hb9.out⟩
end Go.Proofs.Ytgbofijdjgpgeaa.Wat
