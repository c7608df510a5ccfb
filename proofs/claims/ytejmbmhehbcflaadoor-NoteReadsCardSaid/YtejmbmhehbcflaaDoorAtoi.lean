/- What strconv.Atoi and strings.Split give, over any text; the world's variables that they read. -/
import Derived.Test.YtejmbmhehbcflaaDoorText
import Derived.Test.YtejmbmhehbcflaaDoorQ3
import Derived.Test.YtejmbmhehbcflaaDoorSh2
namespace Go.Proofs.YtejmbmhehbcflaaDoor.Note
open Go.RowKit Go.Proofs.YtejmbmhehbcflaaDoor.Pr Go.Proofs.YtejmbmhehbcflaaDoorW.PrintWords Go.Proofs.YtejmbmhehbcflaaDoorW.PrintMore Go.Proofs.YtejmbmhehbcflaaDoorW.PrintLast
set_option linter.unusedSimpArgs false
set_option linter.unusedVariables false

/-- What the library's variables hold. -/
def Vars (w : World) : Prop :=
  (∃ m, w.cell? ⟨3, 0, none⟩ = some (.int .i64 m)) ∧ (∃ tp p, w.var? Tryd.prog "strconv.ErrSyntax" = some #[.iface tp p]) ∧ (∃ tp p, w.var? Tryd.prog "strconv.ErrRange" = some #[.iface tp p])
theorem var_keep {w w' : World} {n : String} {c : Array Value} (h : w.var? Tryd.prog n = some c) (hb : Below w.heap.size w w') : w'.var? Tryd.prog n = some c := by
  unfold World.var? at h ⊢
  cases hg : Tryd.prog.globalNamed n with
  | none => rw [hg] at h; simp at h
  | some g =>
    rw [hg] at h
    simp only [Option.bind_some] at h ⊢
    cases ho : w.heap[g]? with
    | none => rw [ho] at h; simp at h
    | some o =>
      rw [ho] at h
      rw [(hb.block g (Array.getElem?_eq_some_iff.1 ho).1).trans ho]
      exact h
theorem Vars.below {w w' : World} (h : Vars w) (hb : Below w.heap.size w w') : Vars w' := by
  obtain ⟨⟨m, h1⟩, ⟨t2, p2, h2⟩, ⟨t3, p3, h3⟩⟩ := h
  exact ⟨⟨m, (hb.cell (p := ⟨3, 0, none⟩) (lt_of_cell h1)).trans h1⟩, ⟨t2, p2, var_keep h2 hb⟩, ⟨t3, p3, var_keep h3 hb⟩⟩
/-- The number that Atoi gives. -/
def atoiV (s : ByteArray) : Int :=
  match Lib.atoiAll s.data.toList with
  | .ok v => v
  | .range => Lib.atoiSat s.data.toList
  | _ => 0
theorem atoi_walk (s : ByteArray) (hs : s.size ≤ 281474976710656) (w : World) (hV : Vars w) :
    Calls Tryd.prog 79 #[.string s] w fun e w' => ∃ x, e = .returned (.tuple #[.int .i64 (atoiV s), x]) ∧ Below w.heap.size w w' := by
  obtain ⟨_, ⟨t2, p2, h2⟩, ⟨t3, p3, h3⟩⟩ := hV
  unfold atoiV
  cases h : Lib.atoiAll s.data.toList with
  | ok v =>
    refine (Any.strconv_Atoi_ok Tryd.laysC172 s (by omega) v h w).mono ?_
    rintro e w' ⟨rfl, hw⟩
    refine ⟨_, rfl, ?_⟩
    rcases hw with rfl | ⟨t, rfl⟩
    · exact Below.refl _ _
    · exact Lib.bytesWorld_below _ _ _
  | range =>
    refine (Any.strconv_Atoi_range_var Tryd.laysC172 s hs h t3 p3 w h3).mono ?_
    rintro e w' ⟨_, rfl, _, _, hb⟩
    exact ⟨_, rfl, hb⟩
  | _ =>
    refine (Any.strconv_Atoi_syntax_var Tryd.laysC172 s hs h t2 p2 w h2).mono ?_
    rintro e w' ⟨_, rfl, _, _, hb⟩
    exact ⟨_, rfl, hb⟩
/-- What Split gives. -/
def cut (s : ByteArray) : List ByteArray := Lib.splitB ⟨#[32]⟩ 0 (Lib.countB s ⟨#[32]⟩) s
theorem cut_len (s : ByteArray) : (cut s).length = Lib.countB s ⟨#[32]⟩ + 1 := Lib.splitB_all _ (by decide) _ _ _ rfl
theorem split_walk (s : ByteArray) (hs : s.size ≤ 1000) (w : World) (hV : Vars w) :
    Calls Tryd.prog 78 #[.string s, .string ⟨#[32]⟩] w fun e w' => ∃ b, e = .returned (.slice (some ⟨b, 0, none⟩) (cut s).length (cut s).length) ∧ w.heap.size ≤ b ∧ w'.heap[b]? = some (.cells ((cut s).map Value.string).toArray 9 (0, 0)) ∧ Below w.heap.size w w' := by
  obtain ⟨⟨m, h1⟩, _⟩ := hV
  refine (Tryd.strings_Split s ⟨#[32]⟩ m w (by omega) h1 (by decide)).mono ?_
  rintro e w' ⟨rfl, rfl⟩
  refine ⟨w.heap.size, ?_, Nat.le_refl _, heap_alloc_new w _, below_alloc (Below.refl _ _) _⟩
  rw [cut_len]

end Go.Proofs.YtejmbmhehbcflaaDoor.Note
