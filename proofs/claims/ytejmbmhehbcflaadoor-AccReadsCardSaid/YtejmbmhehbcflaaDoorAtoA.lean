/- What strconv.Atoi and strings.Split give, over any text; words of joined texts; the world's variables that they read. -/
import Derived.Test.YtejmbmhehbcflaaDoorQ0
import Derived.Test.YtejmbmhehbcflaaDoorSh2
import Derived.Lib.Join
namespace Go.Proofs.YtejmbmhehbcflaaDoor.Note
open Go.RowKit Go.Proofs.YtejmbmhehbcflaaDoor.Pr Go.Proofs.YtejmbmhehbcflaaDoorW.PrintWords Go.Proofs.YtejmbmhehbcflaaDoorW.PrintMore Go.Proofs.YtejmbmhehbcflaaDoorW.PrintLast
set_option linter.unusedSimpArgs false
set_option linter.unusedVariables false

def joined (l : List ByteArray) : ByteArray := ⟨(Lib.join (l.map (·.data.toList)) [32]).toArray⟩
theorem lt_of_cell {w : World} {a : Addr} {v : Value} (h : w.cell? a = some v) : a.block < w.heap.size := by
  cases hx : w.heap[a.block]? with
  | none => simp [World.cell?, hx] at h
  | some o => exact (Array.getElem?_eq_some_iff.1 hx).1
/-- What the library's variables hold. -/
def Vars (w : World) : Prop :=
  (∃ m, w.cell? ⟨3, 0, none⟩ = some (.int .i64 m)) ∧ (∃ tp p, w.var? Tryd.prog "strconv.ErrSyntax" = some #[.iface tp p]) ∧ (∃ tp p, w.var? Tryd.prog "strconv.ErrRange" = some #[.iface tp p])
theorem var_keep {w w' : World} {n : String} {c : Array Value} (h : w.var? Tryd.prog n = some c) (hb : Below w.heap.size w w') : w'.var? Tryd.prog n = some c := by
  unfold World.var? at h ⊢
  cases hg : Tryd.prog.globalNamed n with
  | none => rw [hg] at h; simp at h
  | some g =>
    rw [hg] at h
    simp only [Option.bind_some] at h ⊢
    cases ho : w.heap[g]? with
    | none => rw [ho] at h; simp at h
    | some o =>
      rw [ho] at h
      rw [(hb.block g (Array.getElem?_eq_some_iff.1 ho).1).trans ho]
      exact h
theorem Vars.below {w w' : World} (h : Vars w) (hb : Below w.heap.size w w') : Vars w' := by
  obtain ⟨⟨m, h1⟩, ⟨t2, p2, h2⟩, ⟨t3, p3, h3⟩⟩ := h
  exact ⟨⟨m, (hb.cell (p := ⟨3, 0, none⟩) (lt_of_cell h1)).trans h1⟩, ⟨t2, p2, var_keep h2 hb⟩, ⟨t3, p3, var_keep h3 hb⟩⟩
/-- The number that Atoi gives. -/
def atoiV (s : ByteArray) : Int :=
  match Lib.atoiAll s.data.toList with
  | .ok v => v
  | .range => Lib.atoiSat s.data.toList
  | _ => 0
theorem atoi_walk (s : ByteArray) (hs : s.size ≤ 281474976710656) (w : World) (hV : Vars w) :
    Calls Tryd.prog 79 #[.string s] w fun e w' => ∃ x, e = .returned (.tuple #[.int .i64 (atoiV s), x]) ∧ Below w.heap.size w w' := by
  obtain ⟨_, ⟨t2, p2, h2⟩, ⟨t3, p3, h3⟩⟩ := hV
  unfold atoiV
  cases h : Lib.atoiAll s.data.toList with
  | ok v =>
    refine (Any.strconv_Atoi_ok Tryd.laysC172 s (by omega) v h w).mono ?_
    rintro e w' ⟨rfl, hw⟩
    refine ⟨_, rfl, ?_⟩
    rcases hw with rfl | ⟨t, rfl⟩
    · exact Below.refl _ _
    · exact Lib.bytesWorld_below _ _ _
  | range =>
    refine (Any.strconv_Atoi_range_var Tryd.laysC172 s hs h t3 p3 w h3).mono ?_
    rintro e w' ⟨_, rfl, _, _, hb⟩
    exact ⟨_, rfl, hb⟩
  | _ =>
    refine (Any.strconv_Atoi_syntax_var Tryd.laysC172 s hs h t2 p2 w h2).mono ?_
    rintro e w' ⟨_, rfl, _, _, hb⟩
    exact ⟨_, rfl, hb⟩
/-- What Split gives. -/
def cut (s : ByteArray) : List ByteArray := Lib.splitB ⟨#[32]⟩ 0 (Lib.countB s ⟨#[32]⟩) s
theorem cut_len (s : ByteArray) : (cut s).length = Lib.countB s ⟨#[32]⟩ + 1 := Lib.splitB_all _ (by decide) _ _ _ rfl
theorem split_walk (s : ByteArray) (hs : s.size ≤ 1000) (w : World) (hV : Vars w) :
    Calls Tryd.prog 78 #[.string s, .string ⟨#[32]⟩] w fun e w' => ∃ b, e = .returned (.slice (some ⟨b, 0, none⟩) (cut s).length (cut s).length) ∧ w.heap.size ≤ b ∧ w'.heap[b]? = some (.cells ((cut s).map Value.string).toArray 9 (0, 0)) ∧ Below w.heap.size w w' := by
  obtain ⟨⟨m, h1⟩, _⟩ := hV
  refine (Tryd.strings_Split s ⟨#[32]⟩ m w (by omega) h1 (by decide)).mono ?_
  rintro e w' ⟨rfl, rfl⟩
  refine ⟨w.heap.size, ?_, Nat.le_refl _, heap_alloc_new w _, below_alloc (Below.refl _ _) _⟩
  rw [cut_len]
theorem bytes_eq {a b : ByteArray} (h : a.toList = b.toList) : a = b := by
  rw [ByteArray.toList_eq, ByteArray.toList_eq] at h
  obtain ⟨⟨x⟩⟩ := a
  obtain ⟨⟨y⟩⟩ := b
  simpa using h
theorem str_at {l : List ByteArray} {j : Nat} (h : j < l.length) : (l.map Value.string).toArray[j]? = some (.string (l.getD j ByteArray.empty)) := by simp [h]
theorem size_at {l : List ByteArray} {j : Nat} (hc : ∀ x ∈ l, x.size ≤ 1000) : (l.getD j ByteArray.empty).size ≤ 1000 := by
  by_cases h : j < l.length
  · have e : l.getD j ByteArray.empty = l[j] := by simp [h]
    rw [e]
    exact hc _ (List.getElem_mem h)
  · have e : l.getD j ByteArray.empty = ByteArray.empty := by simp [show l.length ≤ j by omega]
    rw [e]
    decide
theorem joined_cons (x y : ByteArray) (l : List ByteArray) : joined (x :: y :: l) = x ++ ⟨#[32]⟩ ++ joined (y :: l) := by
  apply ByteArray.ext
  apply Array.toList_inj.1
  have h : (joined (x :: y :: l)).data.toList = x.data.toList ++ 32 :: (joined (y :: l)).data.toList := by simp [joined, Lib.join, List.intercalate]
  rw [ByteArray.data_append, ByteArray.data_append, Array.toList_append, Array.toList_append, h, List.append_assoc]
  rfl
theorem joined_one (x : ByteArray) : joined [x] = x := by
  apply ByteArray.ext
  apply Array.toList_inj.1
  simp [joined, Lib.join, List.intercalate]
theorem ix_none : ∀ {p : List UInt8}, (32 : UInt8) ∉ p → Lib.index p [32] = -1 := by
  intro p h
  rw [Lib.index_one]
  induction p with
  | nil => rfl
  | cons c p ih =>
    have h1 : ¬ c = 32 := fun e => h (by simp [e])
    have h2 := ih (fun e => h (by simp [e]))
    unfold Lib.indexByte
    simp [h1, h2]
theorem ix_hit : ∀ {p : List UInt8} (r : List UInt8), (32 : UInt8) ∉ p → Lib.index (p ++ 32 :: r) [32] = (p.length : Int) := by
  intro p r h
  rw [Lib.index_one]
  induction p with
  | nil => unfold Lib.indexByte; simp
  | cons c p ih =>
    have h1 : ¬ c = 32 := fun e => h (by simp [e])
    have h2 := ih (fun e => h (by simp [e]))
    rw [List.cons_append]
    unfold Lib.indexByte
    rw [h2]
    simp [h1]
theorem splitK_join : ∀ (ps : List (List UInt8)) (k : Nat), ps ≠ [] → (∀ p ∈ ps, (32 : UInt8) ∉ p) → ps.length ≤ k + 1 → Lib.splitK [32] 0 k (Lib.join ps [32]) = ps := by
  intro ps
  induction ps with
  | nil => intro k h; exact absurd rfl h
  | cons p r ih =>
    intro k _ hp hk
    have h0 := hp p (by simp)
    cases r with
    | nil =>
      rw [Lib.join_one]
      cases k with
      | zero => rfl
      | succ k => unfold Lib.splitK; rw [ix_none h0]; rfl
    | cons q r =>
      have e : Lib.join (p :: q :: r) [32] = p ++ 32 :: Lib.join (q :: r) [32] := by simp [Lib.join, List.intercalate]
      cases k with
      | zero => simp at hk
      | succ k =>
        rw [e]
        unfold Lib.splitK
        rw [ix_hit _ h0]
        have hn : (((p.length : Int)) == -1) = false := by rw [beq_eq_false_iff_ne]; omega
        rw [hn]
        have ih' := ih k (by simp) (fun x hx => hp x (by simp at hx ⊢; exact .inr hx)) (by simpa using hk)
        simp [ih']
theorem count_join : ∀ (ps : List (List UInt8)), ps.length ≤ (Lib.join ps [32]).count 32 + 1 := by
  intro ps
  induction ps with
  | nil => simp
  | cons p r ih =>
    cases r with
    | nil => simp
    | cons q r =>
      have e : Lib.join (p :: q :: r) [32] = p ++ 32 :: Lib.join (q :: r) [32] := by simp [Lib.join, List.intercalate]
      rw [e, List.count_append, List.count_cons_self]
      simp only [List.length_cons] at ih ⊢
      omega
theorem data_inj {l m : List ByteArray} (h : l.map (·.data.toList) = m.map (·.data.toList)) : l = m := by
  have hf : Function.Injective (fun x : ByteArray => x.data.toList) := by
    intro a b e
    obtain ⟨⟨x⟩⟩ := a
    obtain ⟨⟨y⟩⟩ := b
    simpa using e
  exact List.map_inj_right hf |>.1 h
theorem cut_joined (ps : List ByteArray) (h0 : ps ≠ []) (hp : ∀ p ∈ ps, (32 : UInt8) ∉ p.data.toList) : cut (joined ps) = ps := by
  apply data_inj
  unfold cut
  rw [Lib.splitB_data]
  have hc : Lib.countB (joined ps) ⟨#[32]⟩ = (Lib.join (ps.map (·.data.toList)) [32]).count 32 := by
    rw [← Lib.count_one]
    rfl
  rw [hc]
  have := count_join (ps.map (·.data.toList))
  exact splitK_join (ps.map (·.data.toList)) _ (by simpa using h0) (fun p hx => by obtain ⟨q, hq, rfl⟩ := List.mem_map.1 hx; exact hp q hq) this
theorem splitK_le (sep : List UInt8) : ∀ (k : Nat) (s : List UInt8), ∀ p ∈ Lib.splitK sep 0 k s, p.length ≤ s.length
  | 0, s, p, hp => by
    unfold Lib.splitK at hp
    rw [List.mem_singleton.1 hp]
    exact Nat.le_refl _
  | k + 1, s, p, hp => by
    unfold Lib.splitK at hp
    split at hp
    · rw [List.mem_singleton.1 hp]
      exact Nat.le_refl _
    · rcases List.mem_cons.1 hp with rfl | hp
      · rw [List.length_take]
        omega
      · have := splitK_le sep k _ p hp
        rw [List.length_drop] at this
        omega
theorem cut_le (s : ByteArray) : ∀ x ∈ cut s, x.size ≤ s.size := by
  intro x hx
  have h : x.data.toList ∈ (cut s).map (·.data.toList) := List.mem_map_of_mem hx
  unfold cut at h
  rw [Lib.splitB_data] at h
  have := splitK_le _ _ _ _ h
  rw [Array.length_toList, Array.length_toList] at this
  exact this
theorem mono_le {α : Type} {f : Nat → Option α} (hm : ∀ k, LeO (f k) (f (k + 1))) {k : Nat} {r : α} (h : f k = some r) : ∀ d, f (k + d) = some r
  | 0 => h
  | d + 1 => hm (k + d) r (mono_le hm h d)
end Go.Proofs.YtejmbmhehbcflaaDoor.Note
