/- place.First where there are words, the reference's answer, and the law PlaceFirst. -/
import Derived.Test.YtgbofijdjgpgeaaFirst
import Derived.LoopTactic
namespace Go.Proofs.Ytgbofijdjgpgeaa.First
open Go.RowKit Go.Proofs.Ytgbofijdjgpgeaa.PPlaceFirst Go.Proofs.YtgbofijdjgpgeaaW.PrintWords Go.Proofs.YtgbofijdjgpgeaaW.PrintLast Go.Proofs.Ytgbofijdjgpgeaa.Cells

theorem size_in (n : Int) (N : Nat) (w : World) (h0 : 1 ≤ n) (h1 : n ≤ 64) (hN : (N : Int) = 8 + 4 * n) :
    Calls Try.prog 23 #[.agg #[.int .i64 n]] w fun e w' => e = .returned (.int .i64 (N : Int)) ∧ Below w.heap.size w w' := by
  refine (map_size n w).mono ?_
  rintro e w' ⟨rfl, hb⟩
  refine ⟨?_, hb⟩
  rw [show sizev n = 8 + 4 * n from if_pos ⟨h0, h1⟩, hN]

set_option maxRecDepth 100000 in
set_option maxHeartbeats 4000000 in
theorem first_good (kind n base : Int) (w : World) (hk : own kind ≠ []) (h0 : 1 ≤ n) (h1 : n ≤ 64) (N : Nat) (hN : (N : Int) = 8 + 4 * n) :
    Calls Try.prog 45 #[.int .i64 kind, .int .i64 n, .int .u32 base] w fun e w' => ∃ v, e = .returned (.tuple #[v, .int .i64 0]) ∧
      Kd.R (Kd.int .u32) 64 w' w.heap.size (fun _ => True) v (ws kind base (own kind) N (own kind).length) ∧ Below w.heap.size w w' := by
  have HK := Lib.hid hk
  have HO := Lib.hid (new_in h0 h1)
  have HS := Lib.hid (fun w => size_in n N w h0 h1 hN)
  have hL : 0 < (own kind).length := List.length_pos_iff.2 hk
  have hL5 := own_len kind
  have hN12 : 12 ≤ N := by omega
  have hNb : N ≤ 264 := by omega
  clear hk hN h0 h1
  obtain ⟨L, eL⟩ : ∃ L, L = (own kind).length := ⟨_, rfl⟩
  have HL := Lib.hid eL
  rw [← eL] at hL hL5 ⊢
  clear eL
  go_enter Try.func45, Try.ntmps45
  go_wp2_with (first
    | (go_at_call 68; refine (names_map _).mono ?_; rintro e w1 ⟨rfl, hb1, m, hi, hn⟩; have HN := Lib.hid (hn kind); clear hn)
    | (refine IMap.wp_lookup rfl 104 (.tmp 14) (.tmp 15) rfl 3 37 Try.underlying104 Try.underlying3 (zero37 _) w.heap.size m kind rfl rfl hi ?_; rintro v hv; obtain ⟨b, rfl, hrow⟩ : ∃ b, v = .slice (some ⟨b, 0, none⟩) L L ∧ Hid (StrRow w1 b (own kind)) := (by rcases HN.out with ⟨h, _⟩ | ⟨_, b, h, hr, _⟩; (exact absurd h HK.out); (rw [h] at hv; exact ⟨b, by rw [HL.out]; exact hv.symm, hr⟩)); clear hv)
    | (go_at_call 17; refine (place_New.calls n n 0 _ HO.out).mono ?_; rintro e w2 ⟨rfl, hb2⟩)
    | (go_at_call 23; refine (HS.out _).mono ?_; rintro e w3 ⟨rfl, hb3⟩)
    | (at_make; go_must (refine Kd.R_make (Kd.int .u32) (w0 := w) w.heap.size 64 rfl (N := 30) rfl 65 _ _ rfl (N : Int) rfl rfl Try.underlying65 (.int .u32 0) 4 info64 rfl (by decide) (by omega) 0 (ok := fun _ => True) (okp := fun _ => True) rfl (fun _ hk => hk) trivial (by omega) (by omega) (below_then (below_alloc (below_then hb1 hb1.size hb2) _) (below_alloc (below_then hb1 hb1.size hb2) _).size hb3) (below_then (below_alloc (below_then hb1 hb1.size hb2) _) (below_alloc (below_then hb1 hb1.size hb2) _).size hb3).size ?_; intro v4 w4 hr4 hb4 hg4 ho4)))
  obtain ⟨bo, hbo, hbo3⟩ := ho4
  obtain ⟨g, cap, hv, hg0, hg1, _, _⟩ := Kd.R_form hr4 (by simp; omega)
  simp only [List.length_replicate, Int.toNat_natCast] at hv hr4
  subst hv
  obtain rfl : bo = g := by simpa [Value.ownBlock] using hbo.symm
  have hrow4 : Hid (StrRow w4 b (own kind)) := by
    have h1 := hrow.out.lt
    have c2 := below_alloc (below_then hb1 hb1.size hb2) (.cells #[.int .i64 n] 26)
    have h2 : StrRow w2 b (own kind) := hrow.out.below hb2 h1
    have h3 := (h2.alloc (.cells #[.int .i64 n] 26)).below hb3 (by simp; have := hb2.size; omega)
    exact (hg4.block b h3.lt (by simp)).trans h3
  have hbg : b < bo := by
    have h1 := hrow.out.lt
    have := hb2.size
    have := hb3.size
    simp at this
    omega
  have hg0' := Lib.hid hg0
  clear hbo hbo3 hg0 hg1 hrow hb1 hb2 hb3 hg4 hi HN HO HS
  go_loopw [33] (fun i wr => ∃ k : Nat, k ≤ L ∧ i = .int .i64 k ∧ Hid (StrRow wr b (own kind)) ∧ Hid (Kd.R (Kd.int .u32) 64 wr w.heap.size (fun _ => True) (.slice (some ⟨bo, 0, none⟩) N cap) (ws kind base (own kind) N k)) ∧ Hid (Below w.heap.size w wr)) (fun i _ => L - (intOf i).toNat)
  case atStart => exact ⟨0, Nat.zero_le _, rfl, hrow4, hr4, hb4⟩
  case round =>
    obtain ⟨k, hk, rfl, hrowk, hrk, hbk⟩ := hrel
    clear hr4 hb4 hrow4
    by_cases hlt : k < L
    · obtain ⟨nm, hnm⟩ : ∃ nm, nm = (own kind).getD k ByteArray.empty := ⟨_, rfl⟩
      have HNM := Lib.hid hnm
      have hc : wr.cell? ⟨b, k, none⟩ = some (.string nm) := by
        rw [blk_cell hrowk.out k, hnm]
        simp [show k < (own kind).length by rw [← HL.out]; exact hlt]
      have hlen : (ws kind base (own kind) N k).length = N := ws_length ..
      obtain ⟨xs, hxs⟩ : ∃ xs, xs = ws kind base (own kind) N k := ⟨_, rfl⟩
      rw [← hxs] at hlen hrk
      have HX := Lib.hid hxs
      clear hxs
      have hcf : wr.cell? ⟨bo, k, none⟩ = some (.int .u32 (rdOf 0 xs (k : Int))) ∧ wr.frozen? ⟨bo, k, none⟩ = false := by
        have hrk' : Kd.R (Kd.int .u32) 64 wr w.heap.size (fun _ => True) (.slice (some ⟨bo, 0, none⟩) xs.length cap) xs := by rw [hlen]; exact hrk.out
        have := Kd.R_cell 0 hrk' (k : Int) (by omega) (by omega)
        simpa using this
      obtain ⟨hcg, hfg⟩ := hcf
      have HLN := Lib.hid hlen
      clear hnm hlen
      have hkN : k < N := by omega
      go_wp2_with (first
        | (go_at_call 69; refine (begin_any kind nm base _).mono ?_; rintro e w' ⟨rfl, ⟨nd, rfl⟩⟩))
      go_roundw
      case rel =>
        refine ⟨k + 1, by omega, by go_num, (Below.heap_setCell _ _ _ b (by simp; omega)).trans hrowk.out, ?_, (pw_below_drewN hbk.out nd).setCell (p := ⟨bo, k, none⟩) hg0'.out _⟩
        have h := Kd.R_putn (Kd.R_drewN hrk.out nd) (k : Int) (bgv kind nm base)
        rw [HX.out, HNM.out] at h
        simp only [Int.toNat_natCast] at h
        rw [HNM.out]
        exact h
      case measure => simp [intOf]; omega
    · obtain rfl : k = L := by omega
      go_wp2
      go_ret2
      refine ⟨_, rfl, ?_, hbk.out⟩
      exact hrk.out


theorem and255 {x : Int} (h0 : 0 ≤ x) (h1 : x < 4294967296) : Go.bits .and .u32 x 255 = x % 256 :=
  bits_mask .u32 32 (by decide) (fun n a b => by rw [IntKind.wrap_u32]; omega) 8 (by decide) x h0 h1

theorem tmod256 {x : Int} (h0 : 0 ≤ x) : Int.tmod x 256 = x % 256 := Int.tmod_eq_emod_of_nonneg h0

theorem word6 {x : Int} (h0 : 0 ≤ x) (h1 : x < 4294967296) :
    ((Go.bits .and .u32 x 255) * 65792) % 4294967296 = (((((Int.tmod x 256) * 256) % 4294967296) + (((Int.tmod x 256) * 65536) % 4294967296)) % 4294967296) := by
  rw [and255 h0 h1, tmod256 h0]
  omega

theorem b1 (x : Int) : bgv 1 ⟨#[117, 115, 101, 114, 115]⟩ x = x := by kernel_rfl
theorem b2 (x : Int) : bgv 1 ⟨#[114, 101, 97, 100, 115]⟩ x = x := by kernel_rfl
theorem b3 (x : Int) : bgv 1 ⟨#[119, 114, 105, 116, 101, 115]⟩ x = x := by kernel_rfl
theorem b4 (k x : Int) : bgv k ⟨#[114, 105, 110]⟩ x = (x * 256) % 4294967296 := by kernel_rfl
theorem b5 (k x : Int) : bgv k ⟨#[114, 111, 117, 116]⟩ x = (x * 256) % 4294967296 := by kernel_rfl
theorem b6 (k x : Int) : bgv k ⟨#[119, 105, 110]⟩ x = x := by kernel_rfl
theorem b7 (k x : Int) : bgv k ⟨#[119, 111, 117, 116]⟩ x = x := by kernel_rfl
theorem b8 (k x : Int) : bgv k ⟨#[112, 104, 97, 115, 101]⟩ x = x := by kernel_rfl
theorem b9 (k x : Int) : bgv k ⟨#[116, 97, 105, 108]⟩ x = 0 := by kernel_rfl
theorem b10 (k x : Int) : bgv k ⟨#[99, 111, 117, 110, 116]⟩ x = 0 := by kernel_rfl
theorem b11 (x : Int) : bgv 5 ⟨#[119, 111, 114, 100]⟩ x = 0 := by kernel_rfl
theorem b12 (x : Int) : bgv 6 ⟨#[119, 111, 114, 100]⟩ x = ((Go.bits .and .u32 x 255) * 65792) % 4294967296 := by kernel_rfl

theorem set_zero (N i : Nat) : (List.replicate N (0 : Int)).set i 0 = List.replicate N 0 := by
  apply List.ext_getElem?
  intro j
  rw [List.getElem?_set]
  split
  · rename_i h; subst h
    split <;> rename_i h2 <;> simp at h2 <;> simp [h2]
  · rfl

theorem ref_own (k : Int) : stilemanref03_Own.f k = some (own k) := by
  unfold stilemanref03_Own.f own
  repeat' split
  all_goals rfl

theorem own_cases {k : Int} (h : own k ≠ []) : k = 1 ∨ k = 2 ∨ k = 3 ∨ k = 4 ∨ k = 5 ∨ k = 6 := by
  by_cases h' : 1 ≤ k ∧ k ≤ 6
  · omega
  · exact absurd (own_other h') h

theorem ref_good (kind n base : Int) (hk : own kind ≠ []) (h0 : 1 ≤ n) (h1 : n ≤ 64) (N : Nat) (hN : (N : Int) = 8 + 4 * n) (x0 : 0 ≤ base) (x1 : base < 4294967296) :
    stilemanref03_First.f kind n base = some (ws kind base (own kind) N (own kind).length, 0) := by
  unfold stilemanref03_First.f
  have hs : stilemanref03_Size.f n = some (N : Int) := by rw [(size_f n).2, show sizev n = 8 + 4 * n from if_pos ⟨h0, h1⟩, hN]
  have hl : 0 < (own kind).length := List.length_pos_iff.2 hk
  rw [ref_own, hs]
  simp only [Option.bind_some]
  rw [if_neg (by omega), if_neg (by omega), if_pos (by omega), if_pos (by omega)]
  simp only [Int.toNat_natCast, List.length_replicate]
  rcases own_cases hk with rfl | rfl | rfl | rfl | rfl | rfl
  · rw [if_pos rfl, if_pos (by omega), if_pos (by omega), if_pos (by omega)]
    simp [own, ws, b1, b2, b3]
  · rw [if_neg (by decide), if_pos rfl, if_pos (by omega), if_pos (by omega), if_pos (by omega), if_pos (by omega), if_pos (by omega)]
    simp [own, ws, b4, b5, b6, b7, b8]
  · rw [if_neg (by decide), if_neg (by decide), if_pos rfl, if_pos (by omega), if_pos (by omega), if_pos (by omega)]
    have e : ws 3 base (own 3) N (own 3).length = ((((List.replicate N 0).set 0 (bgv 3 ⟨#[114, 105, 110]⟩ base)).set 1 (bgv 3 ⟨#[114, 111, 117, 116]⟩ base)).set 2 (bgv 3 ⟨#[116, 97, 105, 108]⟩ base)).set 3 (bgv 3 ⟨#[112, 104, 97, 115, 101]⟩ base) := rfl
    rw [e, b4, b5, b8, b9]
    rw [List.set_comm _ _ (show (1 : Nat) ≠ 2 by decide), List.set_comm _ _ (show (0 : Nat) ≠ 2 by decide), set_zero]
    rfl
  · rw [if_neg (by decide), if_neg (by decide), if_neg (by decide), if_neg (by decide)]
    simp [own, ws, b9, b10]
  · rw [if_neg (by decide), if_neg (by decide), if_neg (by decide), if_neg (by decide)]
    simp [own, ws, b11]
  · rw [if_neg (by decide), if_neg (by decide), if_neg (by decide), if_pos rfl, if_pos (by omega)]
    have e : ws 6 base (own 6) N (own 6).length = (List.replicate N 0).set 0 (bgv 6 ⟨#[119, 111, 114, 100]⟩ base) := rfl
    rw [e, b12, word6 x0 x1]
    rfl


theorem ref_none (kind n base : Int) (hk : own kind = []) : stilemanref03_First.f kind n base = some ([], 3) := by
  unfold stilemanref03_First.f
  rw [ref_own, hk]
  simp
theorem ref_bad (kind n base : Int) (hk : own kind ≠ []) (ho : ¬ (1 ≤ n ∧ n ≤ 64)) : stilemanref03_First.f kind n base = some ([], 2) := by
  unfold stilemanref03_First.f
  have hs : stilemanref03_Size.f n = some 0 := by rw [(size_f n).2, show sizev n = 0 from if_neg ho]
  have hl : 0 < (own kind).length := List.length_pos_iff.2 hk
  rw [ref_own, hs]
  simp only [Option.bind_some]
  rw [if_neg (by omega), if_pos trivial]

theorem same_refl (l : List Int) (hl : l.length ≤ 1000000) : ∀ (d : Nat) (i : Int), 0 ≤ i → i + d = l.length → stilemanref01_Same.l0 (d + 1) l l i = some true := by
  intro d
  induction d with
  | zero => intro i h0 h; simp only [stilemanref01_Same.l0]; rw [if_neg (by omega)]
  | succ d ih =>
    intro i h0 h
    rw [stilemanref01_Same.l0]
    rw [if_pos (by omega), if_pos h0, if_pos (by omega), if_pos rfl, Cells.wrap_small (x := i + 1) (by omega) (by omega)]
    exact ih (i + 1) (by omega) (by omega)
theorem same_f (l : List Int) (hl : l.length ≤ 1000000) : stilemanref01_Same.f (l.length + 1) l l = some true := by
  unfold stilemanref01_Same.f
  rw [if_pos rfl]
  exact same_refl l hl l.length 0 (by omega) (by omega)

theorem same_any (A0 A1 : Option Addr) (c0 c1 : Nat) (l : List Int) (w : World) (hl : l.length ≤ 1000000) (h0 : Kd.C (Kd.int .u32) w A0 l.length l) (hc0 : l.length ≤ c0) (h1 : Kd.C (Kd.int .u32) w A1 l.length l) (hc1 : l.length ≤ c1) :
    Calls Try.prog 47 #[.slice A0 l.length c0, .slice A1 l.length c1] w fun e w' => e = .returned (.bool true) ∧ Drawn0 w w' :=
  stilemanref01_Same.calls _ A0 c0 l A1 c1 l true w h0 hc0 h1 hc1 (same_f l hl)

set_option maxRecDepth 100000 in
set_option maxHeartbeats 2000000 in
theorem law_nil (kind n base : Int) (w : World) (er : Int) (h1 : ∀ w, Calls Try.prog 45 #[.int .i64 kind, .int .i64 n, .int .u32 base] w fun e w' => e = .returned (.tuple #[.slice none 0 0, .int .i64 er]) ∧ Below w.heap.size w w')
    (h2 : stilemanref03_First.f kind n base = some ([], er)) :
    Calls Try.prog 10 #[.int .i64 kind, .int .i64 n, .int .u32 base] w fun e w' => e = .returned (.bool true) ∧ Below w.heap.size w w' := by
  have H1 := Lib.hid h1
  have H2 := Lib.hid h2
  clear h1 h2
  go_enter Try.func10, Try.ntmps10
  go_wp2_with (first
    | (go_at_call 45; refine (H1.out _).mono ?_; rintro e w1 ⟨rfl, hb1⟩)
    | (go_at_call 46; refine (stilemanref03_First.calls kind n base [] er _ H2.out).mono ?_; rintro e w2 ⟨v2, rfl, hr2, hb2⟩; obtain ⟨A2, c2, rfl, hc2, hC2⟩ := Kd.R_reads hr2)
    | (go_at_call 47; refine (same_any _ _ _ _ [] _ (by decide) (Kd.C_nil _ _) (by simp) hC2 hc2).mono ?_; rintro e w' ⟨rfl, ⟨nd, rfl⟩⟩)
    | (go_at_call 25; refine (awake _).mono ?_; rintro e w3 ⟨rfl, hb3⟩))
  go_ret
  have c2 := below_then hb1 hb1.size hb2
  have c3 := pw_below_drewN c2 nd
  exact ⟨rfl, below_then c3 c3.size hb3⟩

set_option maxRecDepth 100000 in
set_option maxHeartbeats 2000000 in
theorem law_good (kind n base : Int) (w : World) (l : List Int) (hl : l.length ≤ 1000000) (h1 : ∀ w, Calls Try.prog 45 #[.int .i64 kind, .int .i64 n, .int .u32 base] w fun e w' => ∃ v, e = .returned (.tuple #[v, .int .i64 0]) ∧
      Kd.R (Kd.int .u32) 64 w' w.heap.size (fun _ => True) v l ∧ Below w.heap.size w w')
    (h2 : stilemanref03_First.f kind n base = some (l, 0)) :
    Calls Try.prog 10 #[.int .i64 kind, .int .i64 n, .int .u32 base] w fun e w' => e = .returned (.bool true) ∧ Below w.heap.size w w' := by
  have H1 := Lib.hid h1
  have H2 := Lib.hid h2
  clear h1 h2
  go_enter Try.func10, Try.ntmps10
  go_wp2_with (first
    | (go_at_call 45; refine (H1.out _).mono ?_; rintro e w1 ⟨v1, rfl, hr1, hb1⟩; obtain ⟨A1, c1, rfl, hc1, hC1⟩ := Kd.R_reads hr1)
    | (go_at_call 46; refine (stilemanref03_First.calls kind n base l 0 _ H2.out).mono ?_; rintro e w2 ⟨v2, rfl, hr2, hb2⟩; obtain ⟨A2, c2, rfl, hc2, hC2⟩ := Kd.R_reads hr2)
    | (go_at_call 47; refine (same_any _ _ _ _ l _ hl (Kd.C_below hC1 hb2) hc1 hC2 hc2).mono ?_; rintro e w' ⟨rfl, ⟨nd, rfl⟩⟩)
    | (go_at_call 25; refine (awake _).mono ?_; rintro e w3 ⟨rfl, hb3⟩))
  go_ret
  have c2 := below_then hb1 hb1.size hb2
  have c3 := pw_below_drewN c2 nd
  exact ⟨rfl, below_then c3 c3.size hb3⟩

/-- The law: any kind, any number of tasks, any base. -/
theorem walk (kind n base : Int) (w : World) (x0 : 0 ≤ base) (x1 : base < 4294967296) :
    Calls Try.prog 10 #[.int .i64 kind, .int .i64 n, .int .u32 base] w fun e w' => e = .returned (.bool true) ∧ Below w.heap.size w w' := by
  by_cases hk : own kind = []
  · exact law_nil kind n base w 3 (fun w => first_none kind n base w hk) (ref_none kind n base hk)
  by_cases ho : 1 ≤ n ∧ n ≤ 64
  · obtain ⟨N, hN⟩ : ∃ N : Nat, (N : Int) = 8 + 4 * n := ⟨(8 + 4 * n).toNat, by omega⟩
    exact law_good kind n base w _ (by rw [ws_length]; omega) (fun w => first_good kind n base w hk ho.1 ho.2 N hN) (ref_good kind n base hk ho.1 ho.2 N hN x0 x1)
  · exact law_nil kind n base w 2 (fun w => first_bad kind n base w hk ho) (ref_bad kind n base hk ho)

end Go.Proofs.Ytgbofijdjgpgeaa.First
