/- The laws SignalNone and SignalOnce: walks. -/
import Derived.Test.YtgbofijdjgpgeaaSig
namespace Go.Proofs.Ytgbofijdjgpgeaa.Sig
open Go.RowKit Go.Conc

theorem below_only {w w1 w2 : World} {c : Nat} (hb : Below w.heap.size w w1) (hc : w.heap.size ≤ c) (h : Only w1 w2 c) : Below w.heap.size w w2 := h.below hc hb
theorem below_next {B : Nat} {w w1 w2 : World} (h : Below B w w1) (hB : B ≤ w1.heap.size) (k : Below w1.heap.size w1 w2) : Below B w w2 :=
  h.trans (k.mono hB)

set_option maxHeartbeats 1000000 in
theorem awake (w : World) : Calls Try.prog 29 #[] w fun e w' => e = .returned (.bool true) ∧ Below w.heap.size w w' := by
  go_enter Try.func29, Try.ntmps29
  go_wp2_with (first
    | (go_at_call 34; refine (new_int _).mono ?_; rintro e w1 ⟨rfl, hB, hb⟩)
    | (go_at_call 35; refine (put_int _ _ _ _ _ hB).mono ?_; clear hB; rintro e w2 ⟨rfl, hB, hO⟩; replace hb := below_only hb (Nat.le_refl _) hO; clear hO)
    | (go_at_call 37; refine (take_int_full _ _ _ _ hB).mono ?_; rintro e w4 ⟨rfl, hB4, hO4⟩; replace hb := below_only hb (Nat.le_refl _) hO4; clear hO4))
  go_ret
  exact ⟨rfl, hb⟩

theorem first_nil (w : World) : Calls Try.prog 39 #[.slice none 0 0] w fun e w' => e = .returned (.tuple #[.int .i64 0, .int .i64 0, .bool false]) ∧ w = w' := by
  go_enter Try.func39, Try.ntmps39
  go_wp2
  go_loop [9, 2] (fun i v => i = .int .i64 0 ∧ v = .int .i64 0) (fun _ _ => 0)
  case atStart => exact ⟨rfl, rfl⟩
  case round =>
    obtain ⟨rfl, rfl⟩ := hrel
    go_wp2
    go_ret3
    exact ⟨rfl, rfl⟩

set_option maxRecDepth 100000 in
set_option maxHeartbeats 4000000 in
theorem none_walk (v : Int) (w : World) : Calls Try.prog 8 #[.int .i64 v] w fun e w' => e = .returned (.bool true) ∧ Below w.heap.size w w' := by
  have hz : (w.alloc (.cells #[.chan none] 61)).cell? ⟨w.heap.size, 0, none⟩ = some (.chan none) := by
    simp only [World.cell?, heap_alloc_new]; rfl
  have HZ := Lib.hid hz
  clear hz
  have HF : Hid (Calls Try.prog 39 #[.slice (some ⟨w.heap.size + 1, 0, none⟩) 2 2] ((w.alloc (.cells #[.chan none] 61)).alloc (.cells #[.pointer none, .pointer (some ⟨w.heap.size, 0, none⟩)] 49)) fun e w' => e = .returned (.tuple #[.int .i64 0, .int .i64 0, .bool false]) ∧ (w.alloc (.cells #[.chan none] 61)).alloc (.cells #[.pointer none, .pointer (some ⟨w.heap.size, 0, none⟩)] 49) = w') := by
    have hn := heap_alloc_new (w.alloc (.cells #[.chan none] 61)) (.cells #[.pointer none, .pointer (some ⟨w.heap.size, 0, none⟩)] 49)
    simp only [World.size_alloc] at hn
    refine first_none _ 2 2 [.pointer none, .pointer (some ⟨w.heap.size, 0, none⟩)] _ (by decide) ?_ ?_
    · intro i hi
      simp only [World.cell?, hn]
      match i, hi with
      | 0, _ => rfl
      | 1, _ => rfl
    · intro i hi
      match i, hi with
      | 0, _ => exact take_nil _
      | 1, _ =>
        refine take_zero _ _ ?_
        have h1 := HZ.out
        have : ((w.alloc (.cells #[.chan none] 61)).alloc (.cells #[.pointer none, .pointer (some ⟨w.heap.size, 0, none⟩)] 49)).heap[w.heap.size]? = (w.alloc (.cells #[.chan none] 61)).heap[w.heap.size]? := Below.heap_alloc _ _ _ (by simp)
        exact (World.cell?_of_block (w := w.alloc (.cells #[.chan none] 61)) this (a := ⟨w.heap.size, 0, none⟩)).trans h1
  have HZ2 : Hid (∀ o, ((w.alloc (.cells #[.chan none] 61)).alloc o).cell? ⟨w.heap.size, 0, none⟩ = some (.chan none)) := by
    intro o
    have : ((w.alloc (.cells #[.chan none] 61)).alloc o).heap[w.heap.size]? = (w.alloc (.cells #[.chan none] 61)).heap[w.heap.size]? := Below.heap_alloc _ _ _ (by simp)
    exact (World.cell?_of_block (w := w.alloc (.cells #[.chan none] 61)) this (a := ⟨w.heap.size, 0, none⟩)).trans HZ.out
  go_enter Try.func8, Try.ntmps8
  go_wp2_with (first
    | (go_at_call 37; (with_reducible refine (take_nil _).mono ?_); rintro e w' ⟨rfl, rfl⟩)
    | (go_at_call 37; (with_reducible refine (take_zero _ _ HZ.out).mono ?_); rintro e w' ⟨rfl, rfl⟩)
    | (go_at_call 39; (with_reducible refine (HF.out).mono ?_); rintro e w' ⟨rfl, rfl⟩)
    | (go_at_call 39; (with_reducible refine (first_nil _).mono ?_); rintro e w' ⟨rfl, rfl⟩)
    | (go_at_call 35; (with_reducible refine (put_nil _ _).mono ?_); rintro e w' ⟨rfl, rfl⟩)
    | (go_at_call 35; (with_reducible refine (put_zero _ _ _ (HZ2.out _)).mono ?_); rintro e w' ⟨rfl, rfl⟩)
    | (go_at_call 40; (with_reducible refine (full_nil _).mono ?_); rintro e w' ⟨rfl, rfl⟩)
    | (go_at_call 40; (with_reducible refine (full_zero _ _ (HZ2.out _)).mono ?_); rintro e w' ⟨rfl, rfl⟩)
    | (go_at_call 29; refine (awake _).mono ?_; rintro e w9 ⟨rfl, hb9⟩))
  go_ret
  exact ⟨rfl, below_next (((Below.refl _ w).alloc (Nat.le_refl _) _).alloc (by simp) _) (by simp; omega) hb9⟩

end Go.Proofs.Ytgbofijdjgpgeaa.Sig
