/- What a new world is: its words, and that it is as it should be. -/
import Derived.Test.YtkmlefbdhdlfmaaGreatNew
namespace Go.Proofs.YtkmlefbdhdlfmaaGreat.Wo
open Go.RowKit Go.Proofs.YtkmlefbdhdlfmaaGreatW.PrintWords Go.Proofs.YtkmlefbdhdlfmaaGreatW.PrintMore Go.Proofs.YtkmlefbdhdlfmaaGreatW.PrintLast
open Stile
set_option linter.unusedSimpArgs false
set_option linter.unusedVariables false
set_option maxRecDepth 100000
theorem nw_and255 {x : Int} (h0 : 0 ≤ x) (h1 : x < 4294967296) : Go.bits .and .u32 x 255 = x % 256 := wfand_0 x h0 h1
theorem nb1 (x : Int) : First.bgv 1 ⟨#[117, 115, 101, 114, 115]⟩ x = x := by kernel_rfl
theorem nb2 (x : Int) : First.bgv 1 ⟨#[114, 101, 97, 100, 115]⟩ x = x := by kernel_rfl
theorem nb3 (x : Int) : First.bgv 1 ⟨#[119, 114, 105, 116, 101, 115]⟩ x = x := by kernel_rfl
theorem nb4 (k x : Int) : First.bgv k ⟨#[114, 105, 110]⟩ x = (x * 256) % 4294967296 := by kernel_rfl
theorem nb5 (k x : Int) : First.bgv k ⟨#[114, 111, 117, 116]⟩ x = (x * 256) % 4294967296 := by kernel_rfl
theorem nb6 (k x : Int) : First.bgv k ⟨#[119, 105, 110]⟩ x = x := by kernel_rfl
theorem nb7 (k x : Int) : First.bgv k ⟨#[119, 111, 117, 116]⟩ x = x := by kernel_rfl
theorem nb8 (k x : Int) : First.bgv k ⟨#[112, 104, 97, 115, 101]⟩ x = x := by kernel_rfl
theorem nb9 (k x : Int) : First.bgv k ⟨#[116, 97, 105, 108]⟩ x = 0 := by kernel_rfl
theorem nb10 (k x : Int) : First.bgv k ⟨#[99, 111, 117, 110, 116]⟩ x = 0 := by kernel_rfl
theorem nb11 (x : Int) : First.bgv 5 ⟨#[119, 111, 114, 100]⟩ x = 0 := by kernel_rfl
theorem nb12 (x : Int) : First.bgv 6 ⟨#[119, 111, 114, 100]⟩ x = ((Go.bits .and .u32 x 255) * 65792) % 4294967296 := by kernel_rfl
theorem rep8 (m : Nat) : List.replicate (8 + m) (0 : Int) = 0 :: 0 :: 0 :: 0 :: 0 :: 0 :: 0 :: 0 :: List.replicate m 0 := by
 rw [Nat.add_comm]
 rfl
theorem ws_first (kind n base : Int) (hk : 1 ≤ kind ∧ kind ≤ 6) (hb : W32 base) : First.ws kind base (First.own kind) (8 + 4 * n.toNat) (First.own kind).length = Stile.first kind n base := by
 have h : kind = 1 ∨ kind = 2 ∨ kind = 3 ∨ kind = 4 ∨ kind = 5 ∨ kind = 6 := by omega
 rcases h with rfl | rfl | rfl | rfl | rfl | rfl
 ·show (((List.replicate (8 + 4 * n.toNat) 0).set 0 (First.bgv 1 ⟨#[117, 115, 101, 114, 115]⟩ base)).set 1 (First.bgv 1 ⟨#[114, 101, 97, 100, 115]⟩ base)).set 2 (First.bgv 1 ⟨#[119, 114, 105, 116, 101, 115]⟩ base) = _
  rw [nb1, nb2, nb3, rep8]
  rfl
 ·show (((((List.replicate (8 + 4 * n.toNat) 0).set 0 (First.bgv 2 ⟨#[114, 105, 110]⟩ base)).set 1 (First.bgv 2 ⟨#[114, 111, 117, 116]⟩ base)).set 2 (First.bgv 2 ⟨#[119, 105, 110]⟩ base)).set 3 (First.bgv 2 ⟨#[119, 111, 117, 116]⟩ base)).set 4 (First.bgv 2 ⟨#[112, 104, 97, 115, 101]⟩ base) = _
  rw [nb4, nb5, nb6, nb7, nb8, rep8]
  rfl
 ·show ((((List.replicate (8 + 4 * n.toNat) 0).set 0 (First.bgv 3 ⟨#[114, 105, 110]⟩ base)).set 1 (First.bgv 3 ⟨#[114, 111, 117, 116]⟩ base)).set 2 (First.bgv 3 ⟨#[116, 97, 105, 108]⟩ base)).set 3 (First.bgv 3 ⟨#[112, 104, 97, 115, 101]⟩ base) = _
  rw [nb4, nb5, nb8, nb9, rep8]
  rfl
 ·show ((List.replicate (8 + 4 * n.toNat) 0).set 0 (First.bgv 4 ⟨#[116, 97, 105, 108]⟩ base)).set 1 (First.bgv 4 ⟨#[99, 111, 117, 110, 116]⟩ base) = _
  rw [nb9, nb10, rep8]
  rfl
 ·show (List.replicate (8 + 4 * n.toNat) 0).set 0 (First.bgv 5 ⟨#[119, 111, 114, 100]⟩ base) = _
  rw [nb11, rep8]
  rfl
 ·show (List.replicate (8 + 4 * n.toNat) 0).set 0 (First.bgv 6 ⟨#[119, 111, 114, 100]⟩ base) = _
  have e : (Go.bits .and .u32 base 255 * 65792) % 4294967296 = base % 256 * 65792 := by rw [nw_and255 hb.1 hb.2]; omega
  rw [nb12, e, rep8]
  rfl
theorem first_words (kind n base : Int) (hb : W32 base) : ∀ i, W32 ((Stile.first kind n base).getD i 0) := by
 have h : ∀ x ∈ Stile.first kind n base, W32 x := by
  intro x hx
  have h0 := w32_zero
  have h1 := w32_u32 (base * 256)
  have h2 : W32 (base % 256 * 65792) := by unfold W32; omega
  unfold Stile.first at hx
  rw [List.mem_append] at hx
  rcases hx with hx | hx
  ·repeat' split at hx
   all_goals
    simp only [List.mem_cons, List.not_mem_nil, or_false] at hx
    rcases hx with rfl | rfl | rfl | rfl | rfl | rfl | rfl | rfl <;> assumption
  ·rw [List.eq_of_mem_replicate hx]
   exact h0
 intro i
 by_cases hi : i < (Stile.first kind n base).length
 ·rw [List.getD_eq_getElem?_getD, List.getElem?_eq_getElem hi]
  exact h _ (List.getElem_mem hi)
 ·rw [List.getD_eq_getElem?_getD, List.getElem?_eq_none (by omega)]
  exact w32_zero
theorem first_length (kind n base : Int) : (Stile.first kind n base).length = 8 + 4 * n.toNat := by
 unfold Stile.first
 rw [List.length_append, List.length_replicate]
 repeat' split
 all_goals rfl
theorem newW_good (kind mode n base : Int) (hk : 1 ≤ kind ∧ kind ≤ 6) (hm : mode = 1 ∨ mode = 2) (hn : 1 ≤ n ∧ n ≤ 64) (hb : W32 base) : Stile.Good (newW kind mode n base) := by
 refine ⟨hk, hm, ?_, hn, first_words kind n base hb, ?_, fun i => ?_⟩
 ·show n = ((List.replicate n.toNat (⟨0, .zero⟩ : Task)).length : Int)
  rw [List.length_replicate]
  omega
 ·show (Stile.first kind n base).length = 8 + 4 * (List.replicate n.toNat (⟨0, .zero⟩ : Task)).length
  rw [first_length, List.length_replicate]
 ·show Fok kind ((List.replicate n.toNat (⟨0, .zero⟩ : Task)).getD i ⟨0, .zero⟩).f
  have : (List.replicate n.toNat (⟨0, .zero⟩ : Task)).getD i ⟨0, .zero⟩ = ⟨0, .zero⟩ := by
   rw [List.getD_eq_getElem?_getD, List.getElem?_replicate]
   split <;> rfl
  rw [this]
  exact fok_zero kind
theorem new_run (kind mode n base : Int) (hk : 1 ≤ kind ∧ kind ≤ 6) (hm : mode = 1 ∨ mode = 2) (hn : 1 ≤ n ∧ n ≤ 64) (hb : W32 base) (w : World) : Calls Tryz.prog 13 #[.int .i64 kind, .int .i64 mode, .int .i64 n, .int .u32 base] w fun e w' => ∃ a pm g t kf, e = .returned (.tuple #[.pointer (some ⟨a, 0, none⟩), .int .i64 0]) ∧ Wd w' a pm g t kf (newW kind mode n base) ∧ Below w.heap.size w w' ∧ w.heap.size ≤ a ∧ w.heap.size ≤ pm ∧ w.heap.size ≤ g ∧ w.heap.size ≤ t :=
 new_walk kind mode n base hk hm hn (Stile.first kind n base) (ws_first kind n base hk hb) w
end Go.Proofs.YtkmlefbdhdlfmaaGreat.Wo
