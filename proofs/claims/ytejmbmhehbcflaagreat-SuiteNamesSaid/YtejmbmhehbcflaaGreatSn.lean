/- suite.Lines, and the law SuiteNames: walks. -/
import Derived.Test.YtejmbmhehbcflaaGreatS1
import Derived.Lib.Hide
import Derived.Deep.DeepMust
namespace Go.Proofs.YtejmbmhehbcflaaGreat.Sn
open Go.RowKit Go.Proofs.YtejmbmhehbcflaaGreatW.PrintWords Go.Proofs.YtejmbmhehbcflaaGreatW.PrintMore Go.Proofs.YtejmbmhehbcflaaGreatW.PrintLast Go.Proofs.YtejmbmhehbcflaaGreat.Pr

/-! plain -/
/-- A kind's name. -/
def nm (k : Int) : ByteArray := if k = 1 then ⟨#[116, 97, 115, 107, 45, 102, 97, 105, 114]⟩ else if k = 2 then ⟨#[112, 104, 97, 115, 101, 45, 102, 97, 105, 114]⟩ else if k = 3 then ⟨#[112, 104, 97, 115, 101, 45, 113, 117, 101, 117, 101]⟩ else if k = 4 then ⟨#[102, 97, 105, 114, 45, 113, 117, 101, 117, 101]⟩ else if k = 5 then ⟨#[114, 101, 97, 100, 101, 114, 115, 45, 102, 105, 114, 115, 116]⟩ else if k = 6 then ⟨#[119, 114, 105, 116, 101, 114, 115, 45, 102, 105, 114, 115, 116]⟩ else ⟨#[]⟩
theorem ref_f (k : Int) : stilemanref17_Name.f k = some (nm k) := by
  unfold stilemanref17_Name.f nm
  split
  · rfl
  split
  · rfl
  split
  · rfl
  split
  · rfl
  split
  · rfl
  split
  · rfl
  · rfl
theorem nm_other {k : Int} (h : ¬ (1 ≤ k ∧ k ≤ 6)) : nm k = ⟨#[]⟩ := by
  unfold nm
  rw [if_neg (by omega), if_neg (by omega), if_neg (by omega), if_neg (by omega), if_neg (by omega), if_neg (by omega)]
theorem name_f (k : Int) : suite_Name.f k = some (nm k) := by
  unfold suite_Name.f suite_kinds.f
  rw [Option.bind_some]
  by_cases h0 : k < 0
  · rw [if_pos h0, nm_other (by omega)]
  · rw [if_neg h0]
    by_cases h7 : 7 ≤ k
    · rw [if_pos (by simpa using h7), nm_other (by omega)]
    · rw [if_neg (by simp; omega), if_pos (by omega), if_pos (by simp; omega)]
      have : k = 0 ∨ k = 1 ∨ k = 2 ∨ k = 3 ∨ k = 4 ∨ k = 5 ∨ k = 6 := by omega
      rcases this with rfl | rfl | rfl | rfl | rfl | rfl | rfl <;> rfl
/-- The number of a name, as the first rounds find it. -/
def st (s : ByteArray) : Nat → Int × Bool
  | 0 => (0, false)
  | k + 1 => if (nm ((k : Int) + 1)).toList = s.toList then ((k : Int) + 1, true) else st s k
theorem bytes_ext {a b : ByteArray} (h : a.toList = b.toList) : a = b := by
  rw [ByteArray.toList_eq, ByteArray.toList_eq] at h
  obtain ⟨⟨x⟩⟩ := a
  obtain ⟨⟨y⟩⟩ := b
  simpa using h
theorem nm_eq {s : ByteArray} {k : Int} : (nm k).toList = s.toList ↔ s = nm k := ⟨fun h => (bytes_ext h).symm, fun h => by rw [h]⟩
theorem nm_list (s : ByteArray) : ∀ k, s.toList = (nm k).toList ↔ s = nm k := fun k => ⟨fun h => bytes_ext h, fun h => by rw [h]⟩
set_option maxRecDepth 10000 in
theorem kind_known : ∀ i : Fin 7, suite_Kind.f 8 (nm i.val) = some (st (nm i.val) 6) := by decide +kernel
theorem wrap_small {x : Int} (h0 : 0 ≤ x) (h : x < 100) : wrap64 (x + 1) = x + 1 := by unfold wrap64; omega
theorem kinds_at : ∀ i : Fin 7, rdOf ByteArray.empty ((suite_kinds.f).getD []) i.val = nm i.val := by decide +kernel
theorem kind_none {s : ByteArray} (h : ∀ i : Fin 7, s ≠ nm i.val) (d : Nat) : ∀ (k : Nat) (i : Int), 0 ≤ i → 7 - i = d → d < k → suite_Kind.l0 k s ((suite_kinds.f).getD []) 7 i = some (0, false) := by
  induction d with
  | zero =>
    intro k i h0 hd hk
    obtain ⟨k, rfl⟩ : ∃ m, k = m + 1 := ⟨k - 1, by omega⟩
    simp only [suite_Kind.l0]
    rw [if_neg (by omega)]
  | succ d ih =>
    intro k i h0 hd hk
    obtain ⟨k, rfl⟩ : ∃ m, k = m + 1 := ⟨k - 1, by omega⟩
    obtain ⟨j, rfl⟩ : ∃ j : Nat, i = j := ⟨i.toNat, by omega⟩
    have hj := kinds_at ⟨j, by omega⟩
    simp only at hj
    simp only [suite_Kind.l0]
    rw [if_pos (by omega), if_pos h0, if_pos (show (j : Int) < (((suite_kinds.f).getD []).length : Int) from (by show (j : Int) < ((7 : Nat) : Int); omega)), hj, wrap_small h0 (by omega)]
    have r := ih k (j + 1) (by omega) (by omega) (by omega)
    split
    · exact r
    · rw [if_neg (fun e => h ⟨j, by omega⟩ (nm_eq.1 e))]
      exact r
theorem st_none {s : ByteArray} (h : ∀ i : Fin 7, s ≠ nm i.val) : ∀ k, k ≤ 6 → st s k = (0, false)
  | 0, _ => rfl
  | k + 1, hk => by
    unfold st
    rw [if_neg (fun e => h ⟨k + 1, by omega⟩ (by have := nm_eq.1 e; simpa using this))]
    exact st_none h k (by omega)
theorem kind_f (s : ByteArray) : suite_Kind.f 8 s = some (st s 6) := by
  by_cases h : ∃ i : Fin 7, s = nm i.val
  · obtain ⟨i, rfl⟩ := h
    exact kind_known i
  · have h' : ∀ i : Fin 7, s ≠ nm i.val := fun i e => h ⟨i, e⟩
    rw [st_none h' 6 (Nat.le_refl _)]
    exact kind_none h' 7 8 0 (by omega) (by omega) (by omega)
theorem nm_full {k : Int} (h : 1 ≤ k ∧ k ≤ 6) : (nm k).toList.isEmpty = false := by
  have : k = 1 ∨ k = 2 ∨ k = 3 ∨ k = 4 ∨ k = 5 ∨ k = 6 := by omega
  rcases this with rfl | rfl | rfl | rfl | rfl | rfl <;> decide +kernel
theorem awake_f : stilemanlaw17_awake.f 5 = some true := by decide +kernel

/-! walks -/
theorem fn_in {P : Program} (w : World) (d : Nat) (t : TypeId) {a b c} (n : Fn) (h : P.underlying t = some (.func a b c)) : (Op.equalIn (d + 1) t (.func n #[] #[]) .nilFunc).run P w = .ok false w := by
  simp [Op.equalIn, run_underlying h]
theorem nn_in {P : Program} (w : World) (d : Nat) (t : TypeId) {a b c} (h : P.underlying t = some (.func a b c)) : (Op.equalIn (d + 1) t .nilFunc .nilFunc).run P w = .ok true w := by
  simp [Op.equalIn, run_underlying h]
theorem fn_eq {P : Program} (w : World) (t : TypeId) {a b c} (n : Fn) (h : P.underlying t = some (.func a b c)) : (Op.equal t (.func n #[] #[]) .nilFunc).run P w = .ok false w := fn_in w 9999 t n h
theorem nn_eq {P : Program} (w : World) (t : TypeId) {a b c} (h : P.underlying t = some (.func a b c)) : (Op.equal t .nilFunc .nilFunc).run P w = .ok true w := nn_in w 9999 t h
theorem func_neq (n : Nat) (w : World) : (binOp .neq 26 (.func (.func n) #[] #[]) .nilFunc).run Tryz.prog w = .ok (.bool true) w := by
  simp [binOp, fn_eq w 26 (.func n) Tryz.underlying26]
theorem nil_neq (w : World) : (binOp .neq 26 .nilFunc .nilFunc).run Tryz.prog w = .ok (.bool false) w := by
  simp [binOp, nn_eq w 26 Tryz.underlying26]
/-- What suite.Lines tells. -/
def inB (k : Int) : Bool := decide (1 ≤ k ∧ k ≤ 6)
/-- What suite.Lines tells. -/
def LinesIs (k : Int) (v : Value) : Prop := (1 ≤ k ∧ k ≤ 6 ∧ ∃ n, v = .func (.func n) #[] #[]) ∨ (¬ (1 ≤ k ∧ k ≤ 6) ∧ v = .nilFunc)
theorem lines_walk (k : Int) (w : World) : Calls Tryz.prog 7 #[.int .i64 k] w fun e w' => ∃ v, e = .returned (.tuple #[v, .bool (inB k)]) ∧ LinesIs k v ∧ w = w' := by
  by_cases h1 : k = 1
  · subst h1
    go_enter Tryz.func7, Tryz.ntmps7
    go_wp2
    go_ret2
    exact ⟨_, rfl, .inl ⟨by omega, by omega, _, rfl⟩, rfl⟩
  by_cases h2 : k = 2
  · subst h2
    go_enter Tryz.func7, Tryz.ntmps7
    go_wp2
    go_ret2
    exact ⟨_, rfl, .inl ⟨by omega, by omega, _, rfl⟩, rfl⟩
  by_cases h3 : k = 3
  · subst h3
    go_enter Tryz.func7, Tryz.ntmps7
    go_wp2
    go_ret2
    exact ⟨_, rfl, .inl ⟨by omega, by omega, _, rfl⟩, rfl⟩
  by_cases h4 : k = 4
  · subst h4
    go_enter Tryz.func7, Tryz.ntmps7
    go_wp2
    go_ret2
    exact ⟨_, rfl, .inl ⟨by omega, by omega, _, rfl⟩, rfl⟩
  by_cases h5 : k = 5
  · subst h5
    go_enter Tryz.func7, Tryz.ntmps7
    go_wp2
    go_ret2
    exact ⟨_, rfl, .inl ⟨by omega, by omega, _, rfl⟩, rfl⟩
  by_cases h6 : k = 6
  · subst h6
    go_enter Tryz.func7, Tryz.ntmps7
    go_wp2
    go_ret2
    exact ⟨_, rfl, .inl ⟨by omega, by omega, _, rfl⟩, rfl⟩
  have e1 : (k == 1) = false := by simpa using h1
  have e2 : (k == 2) = false := by simpa using h2
  have e3 : (k == 3) = false := by simpa using h3
  have e4 : (k == 4) = false := by simpa using h4
  have e5 : (k == 5) = false := by simpa using h5
  have e6 : (k == 6) = false := by simpa using h6
  have hn : ¬ (1 ≤ k ∧ k ≤ 6) := by omega
  clear h1 h2 h3 h4 h5 h6
  rw [inB, decide_eq_false hn]
  go_enter Tryz.func7, Tryz.ntmps7
  go_wp2
  go_ret2
  exact ⟨_, rfl, .inr ⟨hn, rfl⟩, rfl⟩

set_option maxRecDepth 100000 in
set_option maxHeartbeats 4000000 in
theorem law_walk (kind : Int) (s : ByteArray) (w : World) :
    Calls Tryz.prog 3 #[.int .i64 kind, .string s] w fun e w' => e = .returned (.bool true) ∧ Below w.heap.size w w' := by
  by_cases hs : s.size > 100
  · have hs1 : decide ((s.size : Int) > 100) = true := by simpa using (by omega : (s.size : Int) > 100)
    go_enter Tryz.func3, Tryz.ntmps3
    go_wp2_with (go_at_call 4; refine (stilemanlaw17_awake.calls 5 true _ awake_f).mono ?_; rintro e w1 ⟨rfl, hb⟩; replace hb := Lib.hid hb)
    go_ret
    exact ⟨rfl, hb.out⟩
  · have hs0 : ¬ (s.size : Int) > 100 := by omega
    have hs1 : decide ((s.size : Int) > 100) = false := by simpa using hs0
    have hk := Lib.hid (kind_f s)
    have hall := Lib.hid (fun k : Int => nm_eq (s := s) (k := k))
    go_enter Tryz.func3, Tryz.ntmps3
    go_wp2_with (go_at_call 5; refine (suite_Kind.calls 8 s (st s 6).1 (st s 6).2 _ hk.out).mono ?_; rintro e w1 ⟨rfl, hb⟩; replace hb := Lib.hid hb)
    go_loopw [7, 8, 9] (fun a b i wr => ∃ k : Nat, k ≤ 6 ∧ a = .int .i64 (st s k).1 ∧ b = .bool (st s k).2 ∧ i = .int .i64 ((k : Int) + 1) ∧ Below w.heap.size w wr) (fun _ _ i _ => 8 - (intOf i).toNat)
    case atStart => exact ⟨0, by omega, rfl, rfl, rfl, hb.out⟩
    case round =>
      obtain ⟨k, hk6, rfl, rfl, rfl, hB⟩ := hrel
      replace hB := Lib.hid hB
      by_cases hlt : k < 6
      · have hlt' : ((k : Int) + 1) ≤ 6 := by omega
        have hd : decide (((k : Int) + 1) ≤ 6) = true := by simpa using hlt'
        have hw := wrap_small (x := ((k : Int) + 1)) (by omega) (by omega)
        by_cases he : (nm ((k : Int) + 1)).toList = s.toList
        · have he2 : ((nm ((k : Int) + 1)).toList == s.toList) = true := by simpa using he
          have hst : st s (k + 1) = (((k : Int) + 1), true) := by rw [st, if_pos he]
          replace he := Lib.hid he
          replace hst := Lib.hid hst
          go_wp2_with (go_at_call 6; refine (stilemanref17_Name.calls _ _ _ (ref_f _)).mono ?_; rintro e w2 ⟨rfl, hb2⟩; replace hb2 := Lib.hid hb2.below)
          go_roundw
          case rel => exact ⟨k + 1, by omega, by rw [hst.out], by rw [hst.out], by go_num, below_then hB.out hB.out.size hb2.out⟩
          case measure => simp [intOf]; omega
        · have he2 : ((nm ((k : Int) + 1)).toList == s.toList) = false := by simpa using he
          have hst : st s (k + 1) = st s k := by rw [st, if_neg he]
          replace he := Lib.hid he
          replace hst := Lib.hid hst
          go_wp2_with (go_at_call 6; refine (stilemanref17_Name.calls _ _ _ (ref_f _)).mono ?_; rintro e w2 ⟨rfl, hb2⟩; replace hb2 := Lib.hid hb2.below)
          go_roundw
          case rel => exact ⟨k + 1, by omega, by rw [hst.out], by rw [hst.out], by go_num, below_then hB.out hB.out.size hb2.out⟩
          case measure => simp [intOf]; omega
      · obtain rfl : k = 6 := by omega
        clear hlt hk6
        go_upto_region 11 with (go_at_call 7; refine (lines_walk kind _).mono ?_; rintro e w3 ⟨v, rfl, hv, rfl⟩; replace hv := Lib.hid hv)
        have tail : ∀ W : World, Calls Tryz.prog 4 #[] W fun e w' => e = .returned (.bool true) ∧ Below W.heap.size W w' := fun W => stilemanlaw17_awake.calls 5 true W awake_f
        replace tail := Lib.hid tail
        rcases hv.out with ⟨h1, h6, n, rfl⟩ | ⟨hn, rfl⟩
        · rw [inB, decide_eq_true ⟨h1, h6⟩]
          have hf := nm_full ⟨h1, h6⟩
          have hq := func_neq n
          go_wp2_with (first
            | (go_at_call 8; refine (suite_Name.calls _ _ _ (name_f kind)).mono ?_; rintro e w4 ⟨rfl, hb4⟩; replace hB := Lib.hid (below_then hB.out hB.out.size hb4); clear hb4)
            | (go_at_call 6; refine (stilemanref17_Name.calls _ _ _ (ref_f kind)).mono ?_; rintro e w5 ⟨rfl, hb5⟩; replace hb5 := hb5.below; replace hB := Lib.hid (below_then hB.out hB.out.size hb5); clear hb5)
            | (go_at_call 4; refine (tail.out _).mono ?_; rintro e w6 ⟨rfl, hb6⟩; replace hB := Lib.hid (below_then hB.out hB.out.size hb6); clear hb6))
          go_ret
          exact ⟨by simp, hB.out⟩
        · rw [inB, decide_eq_false hn]
          have hf := nm_other hn
          have hq := nil_neq
          go_wp2_with (first
            | (go_at_call 8; refine (suite_Name.calls _ _ _ (name_f kind)).mono ?_; rintro e w4 ⟨rfl, hb4⟩; replace hB := Lib.hid (below_then hB.out hB.out.size hb4); clear hb4)
            | (go_at_call 6; refine (stilemanref17_Name.calls _ _ _ (ref_f kind)).mono ?_; rintro e w5 ⟨rfl, hb5⟩; replace hb5 := hb5.below; replace hB := Lib.hid (below_then hB.out hB.out.size hb5); clear hb5)
            | (go_at_call 4; refine (tail.out _).mono ?_; rintro e w6 ⟨rfl, hb6⟩; replace hB := Lib.hid (below_then hB.out hB.out.size hb6); clear hb6))
          go_ret
          exact ⟨by simp, hB.out⟩
end Go.Proofs.YtejmbmhehbcflaaGreat.Sn
