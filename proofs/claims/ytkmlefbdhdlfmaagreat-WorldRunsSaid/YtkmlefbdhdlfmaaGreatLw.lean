/- Equality of structs and of rows; a world that isn't made. -/
import Derived.Test.YtkmlefbdhdlfmaaGreatAw
import Derived.Test.YtkmlefbdhdlfmaaGreatQ2
namespace Go.Proofs.YtkmlefbdhdlfmaaGreat.Wo
open Go.RowKit Go.Proofs.YtkmlefbdhdlfmaaGreatW.PrintWords Go.Proofs.YtkmlefbdhdlfmaaGreatW.PrintMore Go.Proofs.YtkmlefbdhdlfmaaGreatW.PrintLast
open Stile
set_option linter.unusedSimpArgs false
set_option linter.unusedVariables false
set_option maxRecDepth 100000
variable {w w1 w2 w0 V V1 : World} {a pm g t kf n b B p cap gc gt : Nat} {W : Stile.W} {l : List (Int × Int)} {ok : Nat → Prop}
theorem same_l0 (l : List Int) (hl : l.length ≤ 1000000) : ∀ (d : Nat) (i : Int), 0 ≤ i → (l.length : Int) - i ≤ d → Pr.stilemanref01_Same.l0 (d + 1) l l i = some true := by
  intro d
  induction d with
  | zero => intro i h0 h; simp only [Pr.stilemanref01_Same.l0]; rw [if_neg (by omega)]
  | succ d ih =>
    intro i h0 h
    rw [Pr.stilemanref01_Same.l0]
    by_cases hi : i < (l.length : Int)
    · rw [if_pos hi, if_pos h0, if_pos hi, if_pos rfl, show wrap64 (i + 1) = i + 1 by unfold wrap64; omega]
      exact ih (i + 1) (by omega) (by omega)
    · rw [if_neg hi]
theorem same_f (l : List Int) (hl : l.length ≤ 1000000) : Pr.stilemanref01_Same.f (l.length + 1) l l = some true := by
  unfold Pr.stilemanref01_Same.f
  rw [if_pos rfl]
  exact same_l0 l hl l.length 0 (by omega) (by omega)
theorem same_rows {l : List Int} {g0 g1 c0 c1 : Nat} (h0 : Wr w g0 l) (h1 : Wr w g1 l) (hl : l.length ≤ 2000) (hc0 : l.length ≤ c0) (hc1 : l.length ≤ c1) : Calls Tryz.prog 18 #[.slice (some ⟨g0, 0, none⟩) l.length c0, .slice (some ⟨g1, 0, none⟩) l.length c1] w fun e w' => e = .returned (.bool true) ∧ Below w.heap.size w w' :=
  (Pr.stilemanref01_Same.calls _ _ c0 l _ c1 l true w (Wr_C h0 hl) hc0 (Wr_C h1 hl) hc1 (same_f l (by omega))).mono fun _ _ h => ⟨h.1, h.2.below⟩
theorem new_no (kind mode n base : Int) (h : ¬ ((1 ≤ kind ∧ kind ≤ 6) ∧ (mode = 1 ∨ mode = 2) ∧ (1 ≤ n ∧ n ≤ 64))) (w : World) : Calls Tryz.prog 13 #[.int .i64 kind, .int .i64 mode, .int .i64 n, .int .u32 base] w fun e w' => ∃ x : Int, (x != 0) = true ∧ e = .returned (.tuple #[.pointer none, .int .i64 x]) ∧ Below w.heap.size w w' := by
  by_cases hk : 1 ≤ kind ∧ kind ≤ 6
  · by_cases hm : mode = 1 ∨ mode = 2
    · have hn : ¬ (1 ≤ n ∧ n ≤ 64) := fun q => h ⟨hk, hm, q⟩
      exact (new_badn kind mode n base hk hm hn w).mono fun e w' q => ⟨2, by decide, q.1, q.2⟩
    · exact (new_badmode kind mode n base hk hm w).mono fun e w' q => ⟨1, by decide, q.1, q.2 ▸ Below.refl _ _⟩
  · exact (new_badkind kind mode n base hk w).mono fun e w' q => ⟨3, by decide, q.1, q.2 ▸ Below.refl _ _⟩

theorem good_len (h : Stile.Good W) : 1 ≤ W.l.length ∧ W.l.length ≤ 2000 ∧ 1 ≤ W.t.length ∧ W.t.length ≤ 2000 := by
  have h1 := h.n
  have h2 := h.few
  have h3 := h.size
  omega
theorem pick_n (W : Stile.W) (i op : Int) : (pick W i op).2.n = W.n := by
  unfold pick
  split
  · split
    · split
      · unfold begin_
        dsimp only
        split
        · unfold Stile.step
          dsimp only
          split <;> rfl
        · rfl
      · rfl
    · split
      · rfl
      · unfold Stile.step
        dsimp only
        split <;> rfl
  · rfl
theorem runPicks_n : ∀ (l : List (Int × Int)) (W : Stile.W), (runPicks W l).2.n = W.n
  | [], _ => rfl
  | x :: l, W => (runPicks_n l _).trans (pick_n W x.1 x.2)
theorem w32_wf {x : Int} (h : (Lit.int .u32 x).wf = true) : W32 x := by
  have h1 : (decide (IntKind.u32.min ≤ x) && decide (x ≤ IntKind.u32.max)) = true := h
  rw [Bool.and_eq_true, decide_eq_true_eq, decide_eq_true_eq] at h1
  have e0 : IntKind.u32.min = 0 := by decide
  have e1 : IntKind.u32.max = 4294967295 := by decide
  unfold W32
  omega

end Go.Proofs.YtkmlefbdhdlfmaaGreat.Wo
