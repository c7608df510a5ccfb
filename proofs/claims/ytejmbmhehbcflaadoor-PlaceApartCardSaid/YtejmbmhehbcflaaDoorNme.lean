/- place.Map's Name: the walk. -/
import Derived.Test.YtejmbmhehbcflaaDoorNam
import Derived.Test.YtejmbmhehbcflaaDoorSh
import Derived.Deep.RegionHeld3
import Derived.Test.YtejmbmhehbcflaaDoorWLast
namespace Go.Proofs.YtejmbmhehbcflaaDoor.Nam
open Go.RowKit Go.Proofs.YtejmbmhehbcflaaDoor.Pr Go.Proofs.YtejmbmhehbcflaaDoorW.PrintWords Go.Proofs.YtejmbmhehbcflaaDoorW.PrintLast Go.Proofs.YtejmbmhehbcflaaDoorW.PrintMore
set_option linter.unusedSimpArgs false
set_option linter.unusedVariables false
set_option maxRecDepth 100000

/-- A number below 100, in digits. -/
def txt (i : Nat) : ByteArray := ⟨(Lib.decDigits i).toArray⟩
theorem itoa_walk (i : Nat) (hi : i < 100) (w : World) : Calls Tryd.prog 60 #[.int .i64 (i : Int)] w fun e w' => e = .returned (.string (txt i)) ∧ Below w.heap.size w w' := by
  refine (Tryd.strconv_Itoa_small i hi w).mono ?_
  rintro e w' ⟨rfl, rfl⟩
  exact ⟨rfl, Below.refl _ _⟩
theorem cell_keep {w w1 : World} {a : Addr} {v : Value} (hb : Below w.heap.size w w1) (h : w.cell? a = some v) : w1.cell? a = some v := by
  have hlt : a.block < w.heap.size := by
    cases hx : w.heap[a.block]? with
    | none => simp [World.cell?, hx] at h
    | some o => exact (Array.getElem?_eq_some_iff.1 hx).1
  exact (hb.cell hlt).trans h
theorem cell_of_heap {w : World} {b j : Nat} {cells : Array Value} {t : TypeId} {v : Value} (h : w.heap[b]? = some (.cells cells t (0, 0))) (hv : cells[j]? = some v) : w.cell? ⟨b, j, none⟩ = some v := by
  simp [World.cell?, h, hv]
theorem index_run {P : Program} {w : World} {oi : Oper} {a : Act} {t : TypeId} {x y : Operand} {xv yv v : Value} (hop : oi.op = .index t x y) (hx : a.eval x = xv) (hy : a.eval y = yv) (h : (Instr.index t xv yv).run P w = .ok v w) : (execOp a.eval oi).run P w = .ok (.value v) w := by
  unfold execOp
  simp [hop, hx, hy, h]
/-- The rows' words. -/
def roww : Nat → ByteArray
  | 0 => ⟨#[110, 101, 120, 116]⟩
  | 1 => ⟨#[98, 108, 111, 99, 107, 101, 100]⟩
  | 2 => ⟨#[119, 97, 116, 99, 104]⟩
  | _ => ⟨#[112, 101, 114, 109, 105, 116]⟩
abbrev rowsV : Value := .agg #[.string ⟨#[110, 101, 120, 116]⟩, .string ⟨#[98, 108, 111, 99, 107, 101, 100]⟩, .string ⟨#[119, 97, 116, 99, 104]⟩, .string ⟨#[112, 101, 114, 109, 105, 116]⟩]
theorem index_row (q : Nat) (hq : q < 4) (w : World) : (Instr.index 89 rowsV (.int .i64 (q : Int))).run Tryd.prog w = .ok (.string (roww q)) w := by
  have hk' : (q : Int) < 4 := by omega
  have hv : ([.string ⟨#[110, 101, 120, 116]⟩, .string ⟨#[98, 108, 111, 99, 107, 101, 100]⟩, .string ⟨#[119, 97, 116, 99, 104]⟩, .string ⟨#[112, 101, 114, 109, 105, 116]⟩] : List Value)[q]? = some (.string (roww q)) := by
    match q, hq with
    | 0, _ => rfl
    | 1, _ => rfl
    | 2, _ => rfl
    | 3, _ => rfl
  obtain ⟨hl, hv⟩ := List.getElem?_eq_some_iff.1 hv
  simp [Instr.index, asIntOf, run_underlying Tryd.underlying89, part, hq, hk', hv]
theorem roww_size (q : Nat) : (roww q).size ≤ 7 := by
  match q with
  | 0 => decide
  | 1 => decide
  | 2 => decide
  | _ + 3 => show (6 : Nat) ≤ 7; decide
theorem txt_size : ∀ i : Fin 100, (txt i.val).size ≤ 2 := by decide +kernel
theorem look_run {w w' : World} {m : IMap.M} (hi : IMap.Is w' w.heap.size m) (k : Int) : (Instr.lookup 87 (.map (some w.heap.size)) (.int .i64 k) false).run Tryd.prog w' = .ok ((IMap.get m k).getD (.slice none 0 0)) w' :=
  IMap.run_lookup hi Tryd.underlying87 Tryd.underlying3 (zeroS _) k false
theorem own_len (k : Int) : (own k).length ≤ 5 := by
  unfold own
  split
  · decide
  split
  · decide
  split
  · decide
  split
  · decide
  split
  · decide
  split
  · decide
  · decide
def sizev (n : Int) : Int := if 1 ≤ n ∧ n ≤ 64 then 8 + 4 * n else 0
theorem size_f (n : Int) : place_Map_Size.f n = some (sizev n) := by
  unfold place_Map_Size.f place_right.f sizev
  by_cases a : n ≥ 1
  · by_cases b : n ≤ 64
    · rw [if_pos a, Option.bind_some, if_pos (by simpa using b), if_pos ⟨a, b⟩]
      congr 1
      unfold wrap64
      omega
    · rw [if_pos a, Option.bind_some, if_neg (by simpa using b), if_neg (by omega)]
  · rw [if_neg a, Option.bind_some, if_neg (by simp), if_neg (by omega)]
/-- A cell's name. -/
def nameL (n kind c : Int) : ByteArray :=
  if own kind = [] ∨ c < 0 ∨ c ≥ sizev n then ⟨#[]⟩ else if c < (own kind).length then rdOf ByteArray.empty (own kind) c else if c < 8 then ⟨#[]⟩ else roww ((c.toNat - 8) / n.toNat) ++ ⟨#[32]⟩ ++ txt ((c.toNat - 8) % n.toNat)

set_option maxHeartbeats 4000000 in
theorem name_walk (n kind c : Int) (w : World) : Calls Tryd.prog 22 #[.agg #[.int .i64 n], .int .i64 kind, .int .i64 c] w fun e w' => e = .returned (.string (nameL n kind c)) ∧ Below w.heap.size w w' := by
  have hbox := heap_alloc_new w (.cells #[.int .i64 n] 23)
  have hnm := Lib.hid (names_map (w.alloc (.cells #[.int .i64 n] 23)))
  go_enter Tryd.func22, Tryd.ntmps22
  go_upto_region 2 with (first
    | (go_at_call 59; refine hnm.out.mono ?_; clear hnm; rintro e w1 ⟨rfl, hb1, m, hi, hN⟩; have hlk := look_run hi kind; (simp only [World.size_alloc] at hlk); have hbc := cell_of_heap (j := 0) ((hb1.block w.heap.size (by simp)).trans hbox) rfl; replace hb1 := Lib.hid (below_then (below_alloc (Below.refl _ _) _) (by simp) hb1); replace hi := Lib.hid hi; replace hN := Lib.hid hN))
  rcases hN.out kind with ⟨h0, hg⟩ | ⟨h0, b, hg, hrow, hbw⟩
  · rw [hg]
    simp only [Option.getD_none]
    clear hlk
    have hv : nameL n kind c = ⟨#[]⟩ := if_pos (.inl h0)
    replace hv := Lib.hid hv
    go_wp2
    go_ret
    exact ⟨by rw [hv.out]; rfl, hb1.out⟩
  · rw [hg]
    simp only [Option.getD_some]
    clear hlk
    have hlen := own_len kind
    have hpos : 0 < (own kind).length := List.length_pos_iff.2 h0
    have hsf := size_f n
    obtain ⟨sz, hsz⟩ : ∃ sz, sz = sizev n := ⟨_, rfl⟩
    have hv0 : nameL n kind c = if own kind = [] ∨ c < 0 ∨ c ≥ sz then ⟨#[]⟩ else if c < (own kind).length then rdOf ByteArray.empty (own kind) c else if c < 8 then ⟨#[]⟩ else roww ((c.toNat - 8) / n.toNat) ++ ⟨#[32]⟩ ++ txt ((c.toNat - 8) % n.toNat) := by rw [hsz]; rfl
    have hcells : ∀ k : Nat, k < (own kind).length → w1.cell? ⟨b, k, none⟩ = some (.string (rdOf ByteArray.empty (own kind) k)) := by
      intro k hk
      refine cell_of_heap hrow ?_
      simp [rdOf, hk]
    obtain ⟨L, hL⟩ : ∃ L, L = (own kind).length := ⟨_, rfl⟩
    rw [← hL] at hlen hpos hv0 hcells ⊢
    have hLi : ¬ ((L : Int) = 0) := by omega
    have hLb : ((L : Int) == 0) = false := by simpa using hLi
    rw [← hsz] at hsf
    replace hsf := Lib.hid hsf
    replace hrow := Lib.hid hrow
    replace hL := Lib.hid hL
    replace h0 := Lib.hid h0
    have hcl := Lib.hid hcells
    clear hcells hg hbw
    by_cases hc0 : c < 0
    · have hv : nameL n kind c = ⟨#[]⟩ := hv0.trans (if_pos (.inr (.inl hc0)))
      replace hv := Lib.hid hv
      clear hv0 hsz
      go_wp2
      go_ret
      exact ⟨by rw [hv.out]; rfl, hb1.out⟩
    · by_cases hcs : c ≥ sz
      · have hv : nameL n kind c = ⟨#[]⟩ := hv0.trans (if_pos (.inr (.inr hcs)))
        replace hv := Lib.hid hv
        clear hv0 hsz
        go_wp2_with (go_at_call 21; refine (place_Map_Size.calls n _ _ hsf.out).mono ?_; rintro e w2 ⟨rfl, hb2⟩; have hbc2 := cell_keep hb2 hbc; have hrow2 := Lib.hid (hrow.out.below hb2 hrow.out.lt); replace hb2 := Lib.hid (below_then hb1.out hb1.out.size hb2))
        go_ret
        exact ⟨by rw [hv.out]; rfl, hb2.out⟩
      · rw [if_neg (by rintro (h | h | h); exact h0.out h; exact hc0 h; exact hcs h)] at hv0
        obtain ⟨cc, rfl⟩ := Int.eq_ofNat_of_zero_le (show 0 ≤ c by omega)
        have hcsb : decide (sz ≤ (cc : Int)) = false := by simp; omega
        by_cases hcL : cc < L
        · rw [if_pos (by omega)] at hv0
          replace hv0 := Lib.hid hv0
          have hcell := hcl.out cc hcL
          have hci : (cc : Int) < L := by omega
          replace hsz := Lib.hid hsz
          obtain ⟨st, hst⟩ : ∃ st, st = rdOf ByteArray.empty (own kind) (cc : Int) := ⟨_, rfl⟩
          rw [← hst] at hcell hv0
          replace hst := Lib.hid hst
          replace hcell := Lib.hid hcell
          go_wp2_with (go_at_call 21; refine (place_Map_Size.calls n _ _ hsf.out).mono ?_; rintro e w2 ⟨rfl, hb2⟩; have hcell2 := cell_keep hb2 hcell.out; replace hb2 := Lib.hid (below_then hb1.out hb1.out.size hb2))
          go_ret
          exact ⟨by rw [hv0.out]; rfl, hb2.out⟩
        · have hcL' : ¬ ((cc : Int) < L) := by omega
          rw [if_neg hcL'] at hv0
          by_cases h8 : cc < 8
          · have h8' : (cc : Int) < 8 := by omega
            rw [if_pos h8'] at hv0
            replace hv0 := Lib.hid hv0
            replace hsz := Lib.hid hsz
            go_wp2_with (go_at_call 21; refine (place_Map_Size.calls n _ _ hsf.out).mono ?_; rintro e w2 ⟨rfl, hb2⟩; have hbc2 := cell_keep hb2 hbc; have hrow2 := Lib.hid (hrow.out.below hb2 hrow.out.lt); replace hb2 := Lib.hid (below_then hb1.out hb1.out.size hb2))
            go_ret
            exact ⟨by rw [hv0.out]; rfl, hb2.out⟩
          · have h8' : ¬ ((cc : Int) < 8) := by omega
            rw [if_neg h8'] at hv0
            have hn : 1 ≤ n ∧ n ≤ 64 := by
              by_cases hn : 1 ≤ n ∧ n ≤ 64
              · exact hn
              · rw [hsz] at hcs
                unfold sizev at hcs
                rw [if_neg hn] at hcs
                omega
            obtain ⟨nn, rfl⟩ := Int.eq_ofNat_of_zero_le (show 0 ≤ n by omega)
            have hcs2 : cc < 8 + 4 * nn := by
              rw [hsz] at hcs
              unfold sizev at hcs
              rw [if_pos hn] at hcs
              omega
            obtain ⟨t, ht⟩ : ∃ t, cc = t + 8 := ⟨cc - 8, by omega⟩
            have e1 : ((cc : Nat) : Int).toNat - 8 = t := by omega
            have e2 : ((nn : Nat) : Int).toNat = nn := rfl
            rw [e1, e2] at hv0
            obtain ⟨q, hq⟩ : ∃ q, q = t / nn := ⟨_, rfl⟩
            obtain ⟨i, hi'⟩ : ∃ i, i = t % nn := ⟨_, rfl⟩
            rw [← hq, ← hi'] at hv0
            have hq4 : q < 4 := by rw [hq]; exact Nat.div_lt_of_lt_mul (by omega)
            have hi100 : i < 100 := by have := Nat.mod_lt t (show 0 < nn by omega); omega
            have hw8 : wrap64 ((cc : Int) - 8) = (t : Int) := by unfold wrap64; omega
            have hquo : Int.tdiv (t : Int) (nn : Int) = (q : Int) := by rw [hq]; exact Int.ofNat_tdiv t nn
            have hrem : Int.tmod (t : Int) (nn : Int) = (i : Int) := by rw [hi']; exact Int.ofNat_tmod t nn
            have hn0 : ¬ ((nn : Int) = 0) := by omega
            have hq4i : (q : Int) < 4 := by omega
            have hwq : IntKind.i64.wrap (q : Int) = q := by rw [i64_w]; unfold wrap64; omega
            have hwi : IntKind.i64.wrap (i : Int) = i := by rw [i64_w]; unfold wrap64; omega
            have hnN : ¬ (nn = 0) := by omega
            have hz1 : ¬ (9223372036854775807 < (roww q).size + 1) := by have := roww_size q; omega
            have hz2 : ¬ (9223372036854775807 < (roww q).size + 1 + (txt i).size) := by have := roww_size q; have := txt_size ⟨i, hi100⟩; simp only at this; omega
            replace hv0 := Lib.hid hv0
            replace hsz := Lib.hid hsz
            replace hq := Lib.hid hq
            replace hi' := Lib.hid hi'
            clear e1 e2
            replace ht := Lib.hid ht
            go_upto_region 8 with (go_at_call 21; refine (place_Map_Size.calls (nn : Int) _ _ hsf.out).mono ?_; rintro e w2 ⟨rfl, hb2⟩; have hbc2 := cell_keep hb2 hbc; have hrow2 := Lib.hid (hrow.out.below hb2 hrow.out.lt); replace hb2 := Lib.hid (below_then hb1.out hb1.out.size hb2))
            obtain ⟨bb, hbb⟩ : ∃ bb, bb = w.heap.size := ⟨_, rfl⟩
            rw [← hbb] at hbc2
            have hcell : w2.drew.cell? ⟨bb, 0, none⟩ = some (.int .i64 (nn : Int)) := hbc2
            rw [← hbb]
            replace hbb := Lib.hid hbb
            clear hbc2 hbc hbox
            refine start_ (n := 16) (S := fun w' => w'.cell? ⟨bb, 0, none⟩ = some (.int .i64 (nn : Int))) (ds := []) #[false, false, false, false, false, false, false, false, false, false, false, false, false, false, false, false] (by kernel_rfl) rfl rfl (hcell) (fun hHeld => ?_)
            refine pure_ (i := 0) (N := some 37) (v := ?_) (a' := ?_) #[true, false, false, false, false, false, false, false, false, false, false, false, false, false, false, false] rfl rfl (by kernel_rfl) (fun _ _ _ h => h) (Or.inl ⟨by rfl, ?_⟩) ?_ ?_
            rotate_left
            · intro w'
              go_simp
              with_reducible rfl
            rotate_left
            · simp only [Act.put, List.setIfInBounds_toArray, List.set_cons_zero, List.set_cons_succ, i64_w, i32_w]
              rfl
            refine pure_ (i := 1) (N := some 38) (v := ?_) (a' := ?_) #[true, true, false, false, false, false, false, false, false, false, false, false, false, false, false, false] rfl rfl (by kernel_rfl) (fun _ _ _ h => h) (Or.inl ⟨by rfl, ?_⟩) ?_ ?_
            rotate_left
            · intro w'
              go_simp
              with_reducible rfl
            rotate_left
            · simp only [Act.put, List.setIfInBounds_toArray, List.set_cons_zero, List.set_cons_succ, i64_w, i32_w]
              rfl
            refine pure_ (i := 2) (N := some 39) (v := ?_) (a' := ?_) #[true, true, true, false, false, false, false, false, false, false, false, false, false, false, false, false] rfl rfl (by kernel_rfl) (fun _ _ _ h => h) (Or.inl ⟨by rfl, ?_⟩) ?_ ?_
            rotate_left
            · intro w'
              go_simp
              with_reducible rfl
            rotate_left
            · simp only [Act.put, List.setIfInBounds_toArray, List.set_cons_zero, List.set_cons_succ, i64_w, i32_w]
              rfl
            refine pure_ (i := 3) (N := some 40) (v := ?_) (a' := ?_) #[true, true, true, true, false, false, false, false, false, false, false, false, false, false, false, false] rfl rfl (by kernel_rfl) (fun _ _ _ h => h) (Or.inl ⟨by rfl, ?_⟩) ?_ ?_
            rotate_left
            · intro w'
              go_simp
              with_reducible rfl
            rotate_left
            · simp only [Act.put, List.setIfInBounds_toArray, List.set_cons_zero, List.set_cons_succ, i64_w, i32_w]
              rfl
            refine pure_ (i := 8) (N := some 45) (v := ?_) (a' := ?_) #[true, true, true, true, false, false, false, false, true, false, false, false, false, false, false, false] rfl rfl (by kernel_rfl) (fun _ _ _ h => h) (Or.inl ⟨by rfl, ?_⟩) ?_ ?_
            rotate_left
            · intro w'
              go_simp
              with_reducible rfl
            rotate_left
            · simp only [Act.put, List.setIfInBounds_toArray, List.set_cons_zero, List.set_cons_succ, i64_w, i32_w]
              rfl
            refine pure_ (i := 9) (N := some 46) (v := ?_) (a' := ?_) #[true, true, true, true, false, false, false, false, true, true, false, false, false, false, false, false] rfl rfl (by kernel_rfl) (fun _ _ _ h => h) (Or.inl ⟨by rfl, ?_⟩) ?_ ?_
            rotate_left
            · intro w'
              go_simp
              with_reducible rfl
            rotate_left
            · simp only [Act.put, List.setIfInBounds_toArray, List.set_cons_zero, List.set_cons_succ, i64_w, i32_w]
              rfl
            refine pure_ (i := 10) (N := some 47) (v := ?_) (a' := ?_) #[true, true, true, true, false, false, false, false, true, true, true, false, false, false, false, false] rfl rfl (by kernel_rfl) (fun _ _ _ h => h) (Or.inl ⟨by rfl, ?_⟩) ?_ ?_
            rotate_left
            · intro w'
              go_simp
              with_reducible rfl
            rotate_left
            · simp only [Act.put, List.setIfInBounds_toArray, List.set_cons_zero, List.set_cons_succ, i64_w, i32_w]
              rfl
            refine take_ (i := 4) (N := some 41) (v := ?_) (a' := ?_) #[true, true, true, true, true, false, false, false, true, true, true, false, false, false, false, false] rfl rfl (by kernel_rfl) (fun _ _ _ h => h) (Or.inl ⟨by rfl, ?_⟩) hHeld ?_ ?_
            rotate_left
            · intro w' s0
              go_simp
              with_reducible rfl
            rotate_left
            · simp only [Act.put, List.setIfInBounds_toArray, List.set_cons_zero, List.set_cons_succ, i64_w, i32_w]
              rfl
            refine pure_ (i := 5) (N := some 42) (v := ?_) (a' := ?_) #[true, true, true, true, true, true, false, false, true, true, true, false, false, false, false, false] rfl rfl (by kernel_rfl) (fun _ _ _ h => h) (Or.inl ⟨by rfl, ?_⟩) ?_ ?_
            rotate_left
            · intro w'
              go_simp
              with_reducible rfl
            rotate_left
            · simp only [Act.put, List.setIfInBounds_toArray, List.set_cons_zero, List.set_cons_succ, i64_w, i32_w]
              rfl
            refine take_ (i := 6) (N := some 43) (v := ?_) (a' := ?_) #[true, true, true, true, true, true, true, false, true, true, true, false, false, false, false, false] rfl rfl (by kernel_rfl) (fun _ _ _ h => h) (Or.inl ⟨by rfl, ?_⟩) hHeld ?_ ?_
            rotate_left
            · intro w' _
              refine (index_run (xv := rowsV) (yv := .int .i64 (q : Int)) (v := .string (roww q)) rfl rfl rfl (index_row q hq4 w')).trans ?_
              with_reducible rfl
            rotate_left
            · simp only [Act.put, List.setIfInBounds_toArray, List.set_cons_zero, List.set_cons_succ, i64_w, i32_w]
              rfl
            refine pure_ (i := 7) (N := some 44) (v := ?_) (a' := ?_) #[true, true, true, true, true, true, true, true, true, true, true, false, false, false, false, false] rfl rfl (by kernel_rfl) (fun _ _ _ h => h) (Or.inl ⟨by rfl, ?_⟩) ?_ ?_
            rotate_left
            · intro w'
              go_simp
              with_reducible rfl
            rotate_left
            · simp only [Act.put, List.setIfInBounds_toArray, List.set_cons_zero, List.set_cons_succ, i64_w, i32_w]
              rfl
            refine take_ (i := 11) (N := some 48) (v := ?_) (a' := ?_) #[true, true, true, true, true, true, true, true, true, true, true, true, false, false, false, false] rfl rfl (by kernel_rfl) (fun _ _ _ h => h) (Or.inl ⟨by rfl, ?_⟩) hHeld ?_ ?_
            rotate_left
            · intro w' s0
              go_simp
              with_reducible rfl
            rotate_left
            · simp only [Act.put, List.setIfInBounds_toArray, List.set_cons_zero, List.set_cons_succ, i64_w, i32_w]
              rfl
            refine pure_ (i := 12) (N := some 49) (v := ?_) (a' := ?_) #[true, true, true, true, true, true, true, true, true, true, true, true, true, false, false, false] rfl rfl (by kernel_rfl) (fun _ _ _ h => h) (Or.inl ⟨by rfl, ?_⟩) ?_ ?_
            rotate_left
            · intro w'
              go_simp
              with_reducible rfl
            rotate_left
            · simp only [Act.put, List.setIfInBounds_toArray, List.set_cons_zero, List.set_cons_succ, i64_w, i32_w]
              rfl
            refine one_ (i := 13) (N := some 50) #[true, true, true, true, true, true, true, true, true, true, true, true, true, true, false, false] rfl rfl (by kernel_rfl) (by decide) (fun K hK => ?_)
            refine goes_ Tryd.func60 (by kernel_rfl) rfl #[.int .i64 (i : Int)] (by rfl) rfl rfl (by simp only [List.map_toArray, List.map_cons, List.map_nil]; rfl) ?_
            with_reducible refine (itoa_walk i hi100 _).mono ?_
            rintro e w3 ⟨rfl, hb1'⟩
            refine ⟨_, rfl, ?_⟩
            refine hK.out _ _ (cell_keep hb1' hcell) (fun hHeld => ?_)
            clear hK K
            refine norm_ (a' := ?_) ?_ ?_
            rotate_left
            · show Act.put _ (some 50) _ = _
              simp only [Act.put, List.setIfInBounds_toArray, List.set_cons_zero, List.set_cons_succ, i64_w, i32_w]
              rfl
            refine pure_ (i := 14) (N := some 51) (v := ?_) (a' := ?_) #[true, true, true, true, true, true, true, true, true, true, true, true, true, true, true, false] rfl rfl (by kernel_rfl) (fun _ _ _ h => h) (Or.inl ⟨by rfl, ?_⟩) ?_ ?_
            rotate_left
            · intro w'
              go_simp
              with_reducible rfl
            rotate_left
            · simp only [Act.put, List.setIfInBounds_toArray, List.set_cons_zero, List.set_cons_succ, i64_w, i32_w]
              rfl
            refine pure_ (i := 15) (N := some 6) (v := ?_) (a' := ?_) #[true, true, true, true, true, true, true, true, true, true, true, true, true, true, true, true] rfl rfl (by kernel_rfl) (fun _ _ _ h => h) (Or.inl ⟨by rfl, ?_⟩) ?_ ?_
            rotate_left
            · intro w'
              go_simp
              with_reducible rfl
            rotate_left
            · simp only [Act.put, List.setIfInBounds_toArray, List.set_cons_zero, List.set_cons_succ, i64_w, i32_w]
              rfl
            refine done_ (by kernel_rfl) ?_

            go_wp2
            go_ret
            exact ⟨by rw [hv0.out]; rfl, below_then (below_drew hb2.out) hb2.out.size hb1'⟩
end Go.Proofs.YtejmbmhehbcflaaDoor.Nam
