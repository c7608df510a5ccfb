/- slices.Repeat over rows of picks. -/
import Derived.Test.YtkmlefbdhdlfmaaGreatQ3
import Derived.Test.YtkmlefbdhdlfmaaGreatWLast
import Derived.Test.YtkmlefbdhdlfmaaGreatWx
import Derived.Laws.CopyRow
import Derived.Laws.BitsAllLaws
import Derived.Lib.Hide
import Derived.WalkSpells
import Derived.Deep.DeepMust
import Derived.Deep.RegionHeld3
namespace Go.Proofs.YtkmlefbdhdlfmaaGreat.Stv
open Go.RowKit Go.Proofs.YtkmlefbdhdlfmaaGreatW.PrintWords Go.Proofs.YtkmlefbdhdlfmaaGreatW.PrintMore Go.Proofs.YtkmlefbdhdlfmaaGreatW.PrintLast Go.Proofs.YtkmlefbdhdlfmaaGreat.Pr
def mk (n m : Nat) : Array Bool := ((List.range n).map (fun i => m.testBit i)).toArray
abbrev Pk := Int × Int
abbrev k2 : Kd Pk := Kd.pair (Kd.int .i64) (Kd.int .i64)
abbrev pc (x : Pk) : List Value := [.int .i64 x.1, .int .i64 x.2]
def flat : List Pk → List Value
 | [] => []
 | x :: l => .int .i64 x.1 :: .int .i64 x.2 :: flat l
theorem flat_length : ∀ l, (flat l).length = l.length * 2
 | [] => rfl
 | x :: l => by simp only [flat, List.length_cons, flat_length l]; omega
theorem flat_append : ∀ l m, flat (l ++ m) = flat l ++ flat m
 | [], _ => rfl
 | x :: l, m => by simp only [List.cons_append, flat, flat_append l m]
theorem flat_take : ∀ (l : List Pk) (n : Nat), flat (l.take n) = (flat l).take (n * 2)
 | [], n => by simp [flat]
 | x :: l, 0 => rfl
 | x :: l, n + 1 => by
  have e : (n + 1) * 2 = n * 2 + 1 + 1 := by omega
  simp only [List.take_succ_cons, flat, e, flat_take l n]
theorem flat_drop : ∀ (l : List Pk) (n : Nat), flat (l.drop n) = (flat l).drop (n * 2)
 | [], n => by simp [flat]
 | x :: l, 0 => rfl
 | x :: l, n + 1 => by
  have e : (n + 1) * 2 = n * 2 + 1 + 1 := by omega
  simp only [List.drop_succ_cons, flat, e, flat_drop l n]
theorem flat_one : ∀ l, ∀ v ∈ flat l, v.oneCell' = true
 | [], v, h => by cases h
 | x :: l, v, h => by
  simp only [flat, List.mem_cons] at h
  rcases h with rfl | rfl | h
  ·rfl
  ·rfl
  ·exact flat_one l v h
theorem k2_M {w : World} {B : Nat} {ok : Nat → Prop} (x : Pk) : k2.M w B ok x (pc x) := ⟨_, _, rfl, rfl, rfl⟩
theorem k2_open {w : World} {B : Nat} {ok : Nat → Prop} {x : Pk} {cs : List Value} (h : k2.M w B ok x cs) : cs = pc x := by
 obtain ⟨_, _, rfl, rfl, rfl⟩ := h
 exact rfl
theorem k2_openK {w : World} {x : Pk} {cs : List Value} (h : k2.K w x cs) : cs = pc x := by
 obtain ⟨_, _, rfl, rfl, rfl⟩ := h
 exact rfl
theorem reps_flat {Q : Pk → List Value → Prop} (hQ : ∀ x cs, Q x cs → cs = pc x) : ∀ (ys : List Pk) (cs : List Value), Reps Q 2 ys cs → cs = flat ys
 | [], cs, h => List.eq_nil_of_length_eq_zero (by rw [h.1]; rfl)
 | y :: ys, cs, h => by
  have h0 := hQ _ _ (h.2 0 y rfl)
  rw [Nat.zero_mul, List.drop_zero] at h0
  have hd : cs.drop 2 = flat ys := by
   refine reps_flat hQ ys (cs.drop 2) ⟨by rw [List.length_drop, h.1, List.length_cons]; omega, fun j p hj => ?_⟩
   have := h.2 (j + 1) p hj
   rw [List.drop_drop]
   have e : 2 + j * 2 = (j + 1) * 2 := by omega
   rw [e]
   exact this
  rw [← List.take_append_drop 2 cs, h0, hd]
  rfl
theorem flat_reps {Q : Pk → List Value → Prop} (hQ : ∀ x, Q x (pc x)) : ∀ (ys : List Pk), Reps Q 2 ys (flat ys)
 | [] => Reps.none _ _
 | y :: ys => by
  refine ⟨by rw [flat_length], fun j p hj => ?_⟩
  cases j with
  | zero =>
   cases hj
   exact hQ y
  | succ j =>
   have e : (j + 1) * 2 = j * 2 + 1 + 1 := by omega
   simp only [flat, e, List.drop_succ_cons]
   exact (flat_reps hQ ys).2 j p hj
abbrev T : Nat → Prop := fun _ => True
variable {w w1 : World} {B g n cap : Nat} {v : Value} {ys : List Pk}
theorem R_flat : Kd.R k2 30 w B T v ys ↔ w.ownsRow B 30 2 v ys.length (flat ys) := by
 constructor
 ·rintro ⟨_, inner, ho, hr⟩
  rw [← reps_flat (fun x cs h => k2_open h) ys inner hr]
  exact ho
 ·intro ho
  exact ⟨fun _ _ => trivial, flat ys, ho, flat_reps (fun x => k2_M x) ys⟩
theorem R_splice (h : Kd.R k2 30 w B T (.slice (some ⟨g, 0, none⟩) n cap) ys) (i : Nat) (zs : List Pk) (hi : i + zs.length ≤ n) :
  ∃ cur : Array Value, w.heap[g]? = some (.cells cur 30 (0, 0)) ∧ i * 2 + (flat zs).length ≤ cur.size ∧
   Kd.R k2 30 (w.setRow g (cur.toList.take (i * 2) ++ flat zs ++ cur.toList.drop (i * 2 + (flat zs).length)).toArray) B T (.slice (some ⟨g, 0, none⟩) n cap) (ys.take i ++ zs ++ ys.drop (i + zs.length)) := by
 have hn := (Kd.R_reads' h).1
 have ho := R_flat.1 h
 obtain ⟨ho1, ho2⟩ := ho
 rcases ho2 with ⟨hv, _⟩ | ⟨g', cap', cur, hv, hb, hh, hnc, hcm, hcs, ht⟩
 ·cases hv
 injection hv with ha _ hc
 injection ha with ha
 injection ha with hg
 subst hg; subst hc
 rw [flat_length]
 have hsz : i * 2 + zs.length * 2 ≤ cur.size := by rw [hcs]; have := Nat.mul_le_mul_right 2 (Nat.le_trans hi (hn ▸ hnc)); omega
 refine ⟨cur, hh, hsz, R_flat.2 ?_⟩
 have hlen : (ys.take i ++ zs ++ ys.drop (i + zs.length)).length = n := by simp; omega
 rw [hlen]
 refine ⟨by rw [flat_length, hlen], .inr ⟨g, cap, _, rfl, hb, setRow_heap w g cur _ _ _ hh, by rw [hn]; exact hnc, hcm, ?_, ?_⟩⟩
 ·simp only [List.size_toArray, List.length_append, List.length_take, List.length_drop, Array.length_toList, flat_length]
  omega
 ·simp only [flat_append, flat_take, flat_drop, ← ht]
  rw [← hn]
  have hl : cur.toList.length = cap * 2 := by rw [Array.length_toList, hcs]
  have hnc' : n ≤ cap := by rw [hn]; exact hnc
  rw [List.take_append, List.take_append, List.take_of_length_le (l := cur.toList.take (i * 2)) (by rw [List.length_take]; omega), List.take_of_length_le (l := flat zs) (by rw [flat_length, List.length_take]; omega)]
  rw [List.take_take, Nat.min_eq_left (by omega)]
  congr 1
  rw [List.length_append, List.length_take, flat_length, Nat.min_eq_left (by omega), List.take_drop]
  congr 1
  ·omega
  ·congr 1
   omega
theorem run_copyN {P : Program} (w : World) (dT sT ty elem : TypeId) (g o dLen dCap sz : Nat) (a : Addr) (sLen sCap : Nat) (cur : Array Value) (t : TypeId) (cs : List Value)
  (hu : P.underlying dT = some (.slice elem)) (hs : (P.info? elem).map (·.size) = some sz)
  (hg : w.heap[g]? = some (.cells cur t (0, 0))) (hn : cs.length = Nat.min sLen dLen * sz)
  (hsrc : ∀ j v, cs[j]? = some v → w.cell? (a.add j) = some v) (hfit : o + cs.length ≤ cur.size) (h1 : ∀ v ∈ cs, v.oneCell' = true) :
  (Builtin.copy_ #[dT, sT] ty #[.slice (some ⟨g, o, none⟩) dLen dCap, .slice (some a) sLen sCap]).run P w =
   .ok (goInt ((Nat.min sLen dLen : Nat) : Int)) (w.setRow g (cur.toList.take o ++ cs ++ cur.toList.drop (o + cs.length)).toArray) := by
 have hl := run_loadCells_list (P := P) w a cs hsrc
 have hst := run_storeCells_at P g o t cs 0 cur w hg (by simpa using hfit) h1
 cases hq : P.info? elem with
 | none => simp [hq] at hs
 | some i =>
  have hi : i.size = sz := by simpa [hq] using hs
  simp [Builtin.copy_, run_underlying hu, Builtin.lenOf, Builtin.firstCells, sizeOf, typeInfo, hq, hi, ← hn, hl, hst]
end Go.Proofs.YtkmlefbdhdlfmaaGreat.Stv
