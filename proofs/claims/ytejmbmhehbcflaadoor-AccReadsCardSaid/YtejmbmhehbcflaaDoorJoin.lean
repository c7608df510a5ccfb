/- Joining a few words with a blank between: strings.Join at a row of the call's own. -/
import Derived.Test.YtejmbmhehbcflaaDoorQ0
import Derived.Test.YtejmbmhehbcflaaDoorSh
import Derived.Lib.Join
import Derived.Lib.Hide
namespace Go.Proofs.YtejmbmhehbcflaaDoor.Jn
open Go.RowKit Go.Proofs.YtejmbmhehbcflaaDoorW.PrintWords Go.Proofs.YtejmbmhehbcflaaDoorW.PrintMore Go.Proofs.YtejmbmhehbcflaaDoorW.PrintLast

theorem cell_of_heap {w : World} {b j : Nat} {cells : Array Value} {t : TypeId} {v : Value} (h : w.heap[b]? = some (.cells cells t (0, 0))) (hv : cells[j]? = some v) : w.cell? ⟨b, j, none⟩ = some v := by
  simp [World.cell?, h, hv]
theorem lt_of {w : World} {b : Nat} {o : Obj} (h : w.heap[b]? = some o) : b < w.heap.size := (Array.getElem?_eq_some_iff.1 h).1
theorem lt_of_cell {w : World} {a : Addr} {v : Value} (h : w.cell? a = some v) : a.block < w.heap.size := by
  cases hx : w.heap[a.block]? with
  | none => simp [World.cell?, hx] at h
  | some o => exact (Array.getElem?_eq_some_iff.1 hx).1
theorem bytes_ext {a b : ByteArray} (h : a.toList = b.toList) : a = b := by
  rw [ByteArray.toList_eq, ByteArray.toList_eq] at h
  obtain ⟨⟨x⟩⟩ := a
  obtain ⟨⟨y⟩⟩ := b
  simpa using h
theorem empty_of {s : ByteArray} (h : s = ⟨#[]⟩) : s.toList.isEmpty = true := by subst h; rw [ByteArray.toList_eq]; rfl
theorem list_full {s : ByteArray} (h : ¬ s = ⟨#[]⟩) : s.toList.isEmpty = false := by
  cases hs : s.toList.isEmpty with
  | false => rfl
  | true =>
    refine absurd ?_ h
    rw [ByteArray.toList_eq] at hs
    obtain ⟨⟨l⟩⟩ := s
    cases l with
    | nil => rfl
    | cons a l => simp at hs

/-- Words with a blank between. -/
def joined (l : List ByteArray) : ByteArray := ⟨(Lib.join (l.map (·.data.toList)) [32]).toArray⟩
theorem reps1 (w : World) (base : Nat) (ok : Nat → Prop) (x : ByteArray) : Reps (Kd.M Kd.string w base ok) (Kd.sz Kd.string) [x] [.string x] := by
  refine ⟨rfl, fun j p h => ?_⟩
  match j, h with
  | 0, h => obtain rfl := Option.some.inj h; exact rfl
theorem reps2 (w : World) (base : Nat) (ok : Nat → Prop) (x y : ByteArray) : Reps (Kd.M Kd.string w base ok) (Kd.sz Kd.string) [x, y] [.string x, .string y] := by
  refine ⟨rfl, fun j p h => ?_⟩
  match j, h with
  | 0, h => obtain rfl := Option.some.inj h; exact rfl
  | 1, h => obtain rfl := Option.some.inj h; exact rfl
theorem joinTail_len (l : List (List UInt8)) (h : ∀ x ∈ l, x.length ≤ 100) : ∀ b : List UInt8, ([32].intercalate (b :: l) : List UInt8).length ≤ b.length + 101 * l.length := by
  induction l with
  | nil => intro b; simp [List.intercalate]
  | cons c l ih =>
    intro b
    have h1 := ih (fun x hx => h x (by simp [hx])) c
    have h2 := h c (by simp)
    simp only [List.intercalate, List.intersperse, List.flatten_cons, List.length_append, List.length_cons, List.length_nil] at h1 ⊢
    omega
theorem join_len {l : List ByteArray} (h : ∀ x ∈ l, x.data.toList.length ≤ 100) : (Lib.join (l.map (·.data.toList)) [32]).length ≤ 101 * l.length := by
  unfold Lib.join
  cases l with
  | nil => simp [List.intercalate]
  | cons b l =>
    have h1 := joinTail_len (l.map (·.data.toList)) (by intro x hx; obtain ⟨y, hy, rfl⟩ := List.mem_map.1 hx; exact h y (by simp [hy])) b.data.toList
    have h2 := h b (by simp)
    simp only [List.map_cons, List.length_map, List.length_cons] at h1 ⊢
    omega
theorem some_row {w : World} {B : Nat} {v : Value} {l : List ByteArray} (hp : 0 < l.length) (h : Kd.R Kd.string 9 w B (fun _ => True) v l) : ∃ g c, v = .slice (some ⟨g, 0, none⟩) l.length c ∧ l.length ≤ c ∧ Kd.C Kd.string w (some ⟨g, 0, none⟩) l.length l := by
  obtain ⟨g, cap, rfl, _⟩ := Kd.R_form h hp
  obtain ⟨_, hm, hC⟩ := Kd.R_reads' h
  exact ⟨g, cap, rfl, hm, hC⟩
theorem join_walk {w : World} {base : Nat} {v : Value} {l : List ByteArray} (hR : Kd.R Kd.string 9 w base (fun _ => True) v l) (h1 : 1 ≤ l.length) (h4 : l.length ≤ 500) (hl : ∀ x ∈ l, x.data.toList.length ≤ 100) :
    Calls Tryd.prog 65 #[v, .string ⟨#[32]⟩] w fun e w' => e = .returned (.string (joined l)) ∧ Below w.heap.size w w' := by
  obtain ⟨g, c, rfl, hm, hC⟩ := some_row (by omega) hR
  have hlen := join_len hl
  have hg : g < w.heap.size := by
    have h2 := Kd.R_cell (α := ByteArray) ByteArray.empty hR 0 (by omega) (by omega)
    exact lt_of_cell h2.1
  refine (Tryd.strings_Join g 0 c l ⟨#[32]⟩ w ?_ hg (by omega) hm (by show (Lib.join (l.map (·.data.toList)) [32]).length ≤ _; omega)).mono fun e w' h => h
  intro j x hx
  obtain ⟨hj, rfl⟩ := List.getElem?_eq_some_iff.1 hx
  have h2 := (Kd.R_cell (α := ByteArray) ByteArray.empty hR (j : Int) (by omega) (by omega)).1
  simp only [Int.toNat_natCast, rdOf, List.getD_eq_getElem?_getD, List.getElem?_eq_getElem hj, Option.getD_some] at h2
  simpa using h2
theorem joined_cons (x y : ByteArray) (l : List ByteArray) : (joined (x :: y :: l)).data.toList = x.data.toList ++ 32 :: (joined (y :: l)).data.toList := by
  simp [joined, Lib.join, List.intercalate]
theorem joined_one (x : ByteArray) : (joined [x]).data.toList = x.data.toList := by simp [joined, Lib.join, List.intercalate]
theorem cut_eq {c : UInt8} : ∀ {l1 l2 r1 r2 : List UInt8}, c ∉ l1 → c ∉ l2 → l1 ++ c :: r1 = l2 ++ c :: r2 → l1 = l2 ∧ r1 = r2
  | [], [], _, _, _, _, h => ⟨rfl, by simpa using h⟩
  | [], b :: l2, _, _, _, h2, h => by
    simp only [List.nil_append, List.cons_append, List.cons.injEq] at h
    exact absurd (by simp [h.1]) h2
  | a :: l1, [], _, _, h1, _, h => by
    simp only [List.nil_append, List.cons_append, List.cons.injEq] at h
    exact absurd (by simp [h.1]) h1
  | a :: l1, b :: l2, _, _, h1, h2, h => by
    simp only [List.cons_append, List.cons.injEq] at h
    obtain ⟨k1, k2⟩ := cut_eq (fun k => h1 (by simp [k])) (fun k => h2 (by simp [k])) h.2
    exact ⟨by rw [h.1, k1], k2⟩
end Go.Proofs.YtejmbmhehbcflaaDoor.Jn
