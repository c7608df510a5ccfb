/- strconv.FormatUint at base 16, of words below 2^32: the walk. -/
import Derived.Test.YtejmbmhehbcflaaDoorQ0
import Derived.Lib.Hide
import Derived.Deep.DeepMust
import Derived.Lib.LaidTab
import Derived.LaidSub
import Derived.Test.YtejmbmhehbcflaaDoorSh
namespace Go.Proofs.YtejmbmhehbcflaaDoor.Fu
open Go.RowKit Go.Proofs.YtejmbmhehbcflaaDoorW.PrintWords Go.Proofs.YtejmbmhehbcflaaDoorW.PrintMore Go.Proofs.YtejmbmhehbcflaaDoorW.PrintLast
set_option linter.unusedSimpArgs false
set_option linter.unusedVariables false

def dig (d : Nat) : UInt8 := if d < 10 then (48 + d).toUInt8 else (87 + d).toUInt8
/-- A number in hexadecimal digits. -/
def hexs (u : Nat) : List UInt8 := if h : u < 16 then [dig u] else hexs (u / 16) ++ [dig (u % 16)]
theorem hexs_small {u : Nat} (h : u < 16) : hexs u = [dig u] := by rw [hexs, dif_pos h]
theorem hexs_big {u : Nat} (h : ¬ u < 16) : hexs u = hexs (u / 16) ++ [dig (u % 16)] := by rw [hexs, dif_neg h]

/-- The one cell of the table that is read. -/
def Tz (w : World) : Prop := w.cell? ⟨7, 15, none⟩ = some (.int .u8 4)
theorem Tz.below {w w' : World} (h : Tz w) (hb : Below w.heap.size w w') : Tz w' := by
  have hlt : 7 < w.heap.size := by
    unfold Tz at h
    cases hx : w.heap[(7 : Nat)]? with
    | none => simp [World.cell?, hx] at h
    | some o => exact (Array.getElem?_eq_some_iff.1 hx).1
  exact (hb.cell (p := ⟨7, 15, none⟩) hlt).trans h
theorem tz64_walk (w : World) (h : Tz w) : Calls Tryd.prog 155 #[.int .u64 16] w fun e w' => e = .returned (.int .i64 4) ∧ w = w' := by
  unfold Tz at h
  have hb : bits .and .u64 16 (IntKind.u64.wrap (-16)) = 16 := by decide +kernel
  have hm : IntKind.u64.wrap (16 * 285870213051353865) = 4573923408821661840 := by decide +kernel
  go_enter Tryd.func155, Tryd.ntmps155
  go_wp2
  go_ret
  exact ⟨rfl, rfl⟩
theorem tz_walk (w : World) (h : Tz w) : Calls Tryd.prog 149 #[.int .u64 16] w fun e w' => e = .returned (.int .i64 4) ∧ w = w' := by
  have h := Lib.hid h
  go_enter Tryd.func149, Tryd.ntmps149
  go_wp2_with (go_at_call 155; refine (tz64_walk _ h.out).mono ?_; rintro e w1 ⟨rfl, rfl⟩)
  go_ret
  exact ⟨rfl, rfl⟩
theorem pow2_walk (w : World) : Calls Tryd.prog 148 #[.int .i64 16] w fun e w' => e = .returned (.bool true) ∧ w = w' := by
  go_enter Tryd.func148, Tryd.ntmps148
  go_wp2
  go_ret
  exact ⟨rfl, rfl⟩

/-- The block g is the row of digits, filled from place i on. -/
def Arr (w : World) (g i : Nat) (l : List UInt8) : Prop :=
  ∃ cells : Array Value, w.heap[g]? = some (.cells cells 172 (0, 0)) ∧ cells.size = 65 ∧ i + l.length = 65 ∧ ∀ j, j < l.length → cells[i + j]? = some (.int .u8 ((l.getD j 0).toNat : Int))
theorem Arr.cell {w : World} {g i : Nat} {l : List UInt8} (h : Arr w g i l) (m : Nat) (hm : m < 65) : (∃ x, w.cell? ⟨g, m, none⟩ = some x) ∧ w.frozen? ⟨g, m, none⟩ = false := by
  obtain ⟨cells, hc, hs, _, _⟩ := h
  exact ⟨⟨cells[m]'(by omega), by simp [World.cell?, hc, hs, hm]⟩, by simp [World.frozen?, hc]⟩
theorem Arr.set {w : World} {g m : Nat} {l : List UInt8} (h : Arr w g (m + 1) l) (b : UInt8) : Arr (w.setCell ⟨g, m, none⟩ (.int .u8 (b.toNat : Int))) g m (b :: l) := by
  obtain ⟨cells, hc, hs, hl, ha⟩ := h
  have hg : g < w.heap.size := (Array.getElem?_eq_some_iff.1 hc).1
  refine ⟨cells.set! m (.int .u8 (b.toNat : Int)), ?_, by simpa using hs, by simp only [List.length_cons]; omega, fun j hj => ?_⟩
  · unfold World.setCell
    rw [Array.getElem?_modify]
    simp [hc]
  · cases j with
    | zero => simp [Array.set!_eq_setIfInBounds, Array.getElem?_setIfInBounds, hs]; omega
    | succ j =>
      have h1 := ha j (by simpa using hj)
      rw [show m + (j + 1) = m + 1 + j by omega, Array.set!_eq_setIfInBounds, Array.getElem?_setIfInBounds, if_neg (by omega), h1]
      simp
theorem Arr.below {w w1 : World} {g i : Nat} {l : List UInt8} (h : Arr w g i l) (hb : w1.heap[g]? = w.heap[g]?) : Arr w1 g i l := by
  obtain ⟨cells, hc, hr⟩ := h
  exact ⟨cells, hb.trans hc, hr⟩
abbrev digits36 : ByteArray := ⟨#[48, 49, 50, 51, 52, 53, 54, 55, 56, 57, 97, 98, 99, 100, 101, 102, 103, 104, 105, 106, 107, 108, 109, 110, 111, 112, 113, 114, 115, 116, 117, 118, 119, 120, 121, 122]⟩
theorem dig_all : ∀ d : Fin 16, digits36.data.toList[d.val]? = some (dig d.val) := by decide
theorem dig_get (d : Nat) (hd : d < 16) (h : d < digits36.size) : digits36[d]'h = dig d := by
  have h1 := dig_all ⟨d, hd⟩
  have h2 : digits36.data.toList[d]? = some (digits36[d]'h) := by
    rw [Array.getElem?_toList, Array.getElem?_eq_getElem (by exact h)]
    rfl
  exact Option.some.inj (h2.symm.trans h1)
theorem and15 (u : Nat) (h : u < 4294967296) : bits .and .u64 (u : Int) 15 = ((u % 16 : Nat) : Int) := by
  have h1 := bits_and_u64_nat u 15 (by omega) (by omega)
  rw [show ((15 : Nat) : Int) = 15 from rfl] at h1
  rw [h1, show (15 : Nat) = 2 ^ 4 - 1 from rfl, Nat.and_two_pow_sub_one_eq_mod]
set_option maxRecDepth 100000 in
set_option maxHeartbeats 4000000 in
theorem bits_walk (v : Nat) (hv : v < 4294967296) (w : World) (hz : Tz w) : Calls Tryd.prog 133 #[.slice none 0 0, .int .u64 (v : Int), .int .i64 16, .bool false, .bool false] w fun e w' => e = .returned (.tuple #[.slice none 0 0, .string ⟨(hexs v).toArray⟩]) ∧ Below w.heap.size w w' := by
  replace hz := Lib.hid hz
  go_enter Tryd.func133, Tryd.ntmps133
  go_wp2_with (first
    | (go_at_call 148; refine (pow2_walk _).mono ?_; rintro e w1 ⟨rfl, rfl⟩)
    | (go_at_call 149; refine (tz_walk _ (hz.out.below (below_alloc (Below.refl _ _) _))).mono ?_; rintro e w1 ⟨rfl, rfl⟩))
  go_loopw [1, 13] (fun a b wr => ∃ (u m : Nat) (l : List UInt8), a = .int .u64 (u : Int) ∧ b = .int .i64 ((m : Int) + 1) ∧ 57 ≤ m ∧ m ≤ 64 ∧ u < 16 ^ (m - 56) ∧ hexs v = hexs u ++ l ∧ Arr wr w.heap.size (m + 1) l ∧ Below w.heap.size w wr) (fun a _ _ => (intOf a).toNat)
  case atStart => exact ⟨v, 64, [], rfl, rfl, by omega, by omega, by omega, by simp, ⟨Tryd.zeroCells172, heap_alloc_new w _, by kernel_rfl, rfl, fun j hj => absurd hj (by simp)⟩, below_alloc (Below.refl _ _) _⟩
  case round =>
    obtain ⟨u, m, l, rfl, rfl, h57, h64, hu, hh, hA, hB⟩ := hrel
    have hu' : u < 4294967296 := by
      have : 16 ^ (m - 56) ≤ 16 ^ 8 := Nat.pow_le_pow_right (by omega) (by omega)
      omega
    obtain ⟨⟨x, hc⟩, hf⟩ := hA.cell m (by omega)
    by_cases h16 : (16 : Int) ≤ u
    · have hu2 : u / 16 < 16 ^ (m - 1 - 56) ∧ 58 ≤ m := by
        by_cases e : m = 57
        · subst e; simp at hu; omega
        · refine ⟨?_, by omega⟩
          have : 16 ^ (m - 56) = 16 ^ (m - 1 - 56) * 16 := by rw [← Nat.pow_succ]; congr 1; omega
          rw [this] at hu
          exact Nat.div_lt_of_lt_mul (by omega)
      have hh2 : hexs v = hexs (u / 16) ++ (dig (u % 16) :: l) := by rw [hh, hexs_big (u := u) (by omega)]; simp
      have ha15 := and15 u hu'
      replace hu := Lib.hid hu
      have h58 := hu2.2
      replace hu2 := Lib.hid hu2
      replace hh := Lib.hid hh
      replace hh2 := Lib.hid hh2
      obtain ⟨k, rfl⟩ : ∃ k, m = k + 1 := ⟨m - 1, by omega⟩
      go_wp2
      go_roundw
      case rel => exact ⟨u / 16, k, dig (u % 16) :: l, by go_num, by go_num, by omega, by omega, by simpa using hu2.out.1, hh2.out, by rw [← dig_get (u % 16) (by omega) (by show u % 16 < 36; omega)]; exact hA.set _, hB.setCell (by simp) _⟩
      case measure => simp [intOf]; omega
    · have hh3 : hexs v = dig u :: l := by rw [hh, hexs_small (u := u) (by omega)]; simp
      have hu6 : u < 16 := by omega
      replace hu := Lib.hid hu
      replace hh := Lib.hid hh
      replace hh3 := Lib.hid hh3
      have hS := hA.set (digits36[u]'(by show u < 36; omega))
      have hl : m + (l.length + 1) = 65 := by obtain ⟨_, _, _, h, _⟩ := hA; omega
      have hsl : ∀ W, (Instr.sliceAt 172 (.pointer (some ⟨w.heap.size, 0, none⟩)) (some (.int .i64 (m : Int))) none none).run Tryd.prog W = .ok (.slice (some ⟨w.heap.size, m, none⟩) (l.length + 1) (l.length + 1)) W := fun W => by
        have hal : Tryd.prog.arrayLen 172 = 65 := by kernel_rfl
        rw [run_sliceAt_array_l W 172 ⟨w.heap.size, 0, none⟩ (by simp [Program.arrayLen, Program.elem, Tryd.underlying172]) .i64 (m : Int) (by omega) (by rw [hal]; omega)]
        go_simp
        omega
      have hcv := run_convert_bytes_back (P := Tryd.prog) (wr.setCell ⟨w.heap.size, m, none⟩ (.int .u8 ((digits36[u]'(by show u < 36; omega)).toNat : Int))) 74 9 5 ⟨w.heap.size, m, none⟩ (l.length + 1) (digits36[u]'(by show u < 36; omega) :: l) Tryd.underlying74 Tryd.underlying5 Tryd.underlying9 (by
        intro j hj
        obtain ⟨cells, hc1, hs1, hl1, ha1⟩ := hS
        have h2 := ha1 j hj
        rw [List.getD_eq_getElem?_getD, List.getElem?_eq_getElem hj, Option.getD_some] at h2
        rw [Lib.add_plain]
        simp only [World.cell?, hc1]
        simpa using h2)
      rw [List.length_cons] at hcv
      replace hS := Lib.hid hS
      replace hA := Lib.hid hA
      go_wp2
      go_ret2
      refine ⟨?_, hB.setCell (by simp) _⟩
      rw [hh3.out, ← dig_get u hu6 (by show u < 36; omega)]
      rfl

theorem inner_walk (v : Nat) (hv : v < 4294967296) (w : World) (hz : Tz w) : Calls Tryd.prog 113 #[.int .u64 (v : Int), .int .i64 16] w fun e w' => e = .returned (.string ⟨(hexs v).toArray⟩) ∧ Below w.heap.size w w' := by
  replace hz := Lib.hid hz
  go_enter Tryd.func113, Tryd.ntmps113
  go_wp2_with (go_at_call 133; refine (bits_walk v hv _ hz.out).mono ?_; rintro e w1 ⟨rfl, hb⟩; replace hb := Lib.hid hb)
  go_ret
  exact ⟨rfl, hb.out⟩
theorem format_walk (v : Nat) (hv : v < 4294967296) (w : World) (hz : Tz w) : Calls Tryd.prog 97 #[.int .u64 (v : Int), .int .i64 16] w fun e w' => e = .returned (.string ⟨(hexs v).toArray⟩) ∧ Below w.heap.size w w' := by
  replace hz := Lib.hid hz
  go_enter Tryd.func97, Tryd.ntmps97
  go_wp2_with (go_at_call 113; refine (inner_walk v hv _ hz.out).mono ?_; rintro e w1 ⟨rfl, hb⟩; replace hb := Lib.hid hb)
  go_ret
  exact ⟨rfl, hb.out⟩

/-! hex: eight digits -/
theorem hexs_len (k : Nat) : ∀ u, u < 16 ^ (k + 1) → 1 ≤ (hexs u).length ∧ (hexs u).length ≤ k + 1 := by
  induction k with
  | zero => intro u h; rw [hexs_small (by simpa using h)]; simp
  | succ k ih =>
    intro u h
    by_cases h16 : u < 16
    · rw [hexs_small h16]; simp
    · rw [hexs_big h16]
      have := ih (u / 16) (Nat.div_lt_of_lt_mul (by rw [Nat.mul_comm, ← Nat.pow_succ]; exact h))
      simp; omega
/-- Eight hexadecimal digits. -/
def hex8 (v : Nat) : List UInt8 := List.replicate (8 - (hexs v).length) 48 ++ hexs v
theorem hex8_len {v : Nat} (hv : v < 4294967296) : (hex8 v).length = 8 := by
  have := hexs_len 7 v (by simpa using hv)
  unfold hex8
  simp; omega
theorem rep_one (c : Nat) : (⟨(Lib.repeatL [48] c).toArray⟩ : ByteArray).data.toList = List.replicate c 48 := by
  induction c with
  | zero => rfl
  | succ c ih =>
    simp only at ih
    simp only [Lib.repeatL, List.replicate_succ]
    rw [← ih]
    rfl
theorem rep_walk (x : Int) (h0 : 0 ≤ x) (h8 : x ≤ 8) (w : World) : Calls Tryd.prog 98 #[.string ⟨#[48]⟩, .int .i64 x] w fun e w' => ∃ R : ByteArray, e = .returned (.string R) ∧ R.data.toList = List.replicate x.toNat 48 ∧ Below w.heap.size w w' := by
  obtain ⟨c, rfl⟩ : ∃ c : Nat, x = c := ⟨x.toNat, by omega⟩
  refine (Tryd.strings_Repeat ⟨#[48]⟩ c w (by omega) (by show 1 * c ≤ _; omega)).mono ?_
  rintro e w2 ⟨rfl, hb2⟩
  exact ⟨_, rfl, rep_one c, hb2⟩
set_option maxHeartbeats 1000000 in
theorem hex_walk (v : Nat) (hv : v < 4294967296) (w : World) (hz : Tz w) : Calls Tryd.prog 73 #[.int .u32 (v : Int)] w fun e w' => e = .returned (.string ⟨(hex8 v).toArray⟩) ∧ Below w.heap.size w w' := by
  replace hz := Lib.hid hz
  have hl := hexs_len 7 v (by simpa using hv)
  obtain ⟨H, hH⟩ : ∃ H : ByteArray, H = ⟨(hexs v).toArray⟩ := ⟨_, rfl⟩
  have hHs : H.size = (hexs v).length := by rw [hH]; rfl
  have hH8 : 1 ≤ H.size ∧ H.size ≤ 8 := by omega
  have hfm := format_walk v hv w hz.out
  rw [← hH] at hfm
  replace hfm := Lib.hid hfm
  replace hH := Lib.hid hH
  replace hHs := Lib.hid hHs
  go_enter Tryd.func73, Tryd.ntmps73
  go_wp2_with (first
    | (go_at_call 97; refine hfm.out.mono ?_; rintro e w1 ⟨rfl, hb⟩; replace hb := Lib.hid hb)
    | (go_at_call 98; refine (rep_walk (8 - (H.size : Int)) (by omega) (by omega) _).mono ?_; rintro e w2 ⟨R, rfl, hR, hb2⟩; have hRs : R.size ≤ 8 := (by have h3 := congrArg List.length hR; simp at h3; omega); replace hR := Lib.hid hR; replace hb2 := Lib.hid hb2))
  go_ret
  refine ⟨?_, below_then hb.out hb.out.size hb2.out⟩
  have h1 := hR.out
  have h2 := hHs.out
  rw [show ((8 : Int) - (H.size : Int)).toNat = 8 - (hexs v).length by omega] at h1
  have hfin : R ++ H = ⟨(hex8 v).toArray⟩ := by
    apply ByteArray.ext
    apply Array.toList_inj.1
    rw [ByteArray.data_append, Array.toList_append, h1, hH.out]
    rfl
  rw [← hfin]
  rfl

end Go.Proofs.YtejmbmhehbcflaaDoor.Fu
