/- A pick of any world that is as it should be is the plain one. -/
import Derived.Test.YtkmlefbdhdlfmaaGreatPk
import Derived.Test.YtkmlefbdhdlfmaaGreatGood
import Derived.Test.YtkmlefbdhdlfmaaGreatRf
import Derived.Test.YtkmlefbdhdlfmaaGreatTf
import Derived.Test.YtkmlefbdhdlfmaaGreatPf
import Derived.Test.YtkmlefbdhdlfmaaGreatFq
import Derived.Test.YtkmlefbdhdlfmaaGreatPq
import Derived.Test.YtkmlefbdhdlfmaaGreatWf
namespace Go.Proofs.YtkmlefbdhdlfmaaGreat.Wo
open Go.RowKit Go.Proofs.YtkmlefbdhdlfmaaGreatW.PrintWords Go.Proofs.YtkmlefbdhdlfmaaGreatW.PrintMore Go.Proofs.YtkmlefbdhdlfmaaGreatW.PrintLast
open Stile
set_option linter.unusedSimpArgs false
set_option linter.unusedVariables false
set_option maxRecDepth 100000
variable {w w1 w2 w0 V V1 : World} {a pm g t kf n b B p : Nat} {W W2 : Stile.W} {r : Run}
theorem lines_run {kind : Int} (hk : kindFn kind = some kf) (hv : KValid kind r.f.op r.f.line) (hO : Ok r) (hn : r.notes = []) (h : At B w p pm g r) : Calls Tryz.prog kf #[.pointer (some ⟨p, 0, none⟩)] w fun e w' => e = .returned (.tuple #[]) ∧ At B w' p pm g (linesOf kind r) ∧ Fr B p g w w' := by
 rcases hv with ⟨rfl, hv⟩ | ⟨rfl, hv⟩ | ⟨rfl, hv⟩ | ⟨rfl, hv⟩ | ⟨rfl, hv⟩ | ⟨rfl, hv⟩
 ·obtain rfl : kf = 71 := (Option.some.inj hk).symm
  exact tf_lines h hO hn hv
 ·obtain rfl : kf = 72 := (Option.some.inj hk).symm
  exact pf_lines h hO hn hv
 ·obtain rfl : kf = 73 := (Option.some.inj hk).symm
  exact pq_lines h hO hn hv
 ·obtain rfl : kf = 74 := (Option.some.inj hk).symm
  exact fq_lines h hO hn hv
 ·obtain rfl : kf = 75 := (Option.some.inj hk).symm
  exact rf_lines h hO hn hv
 ·obtain rfl : kf = 76 := (Option.some.inj hk).symm
  exact wf_lines h hO hn hv
theorem kind_fn {kind : Int} (hk : kindFn kind = some kf) : ∃ fn, Tryz.prog.funcs[kf]? = some fn ∧ (fn.name == "runtime.NumGoroutine") = false ∧ fn.body.isSome = true := by
 unfold kindFn at hk
 split at hk
 ·obtain rfl := Option.some.inj hk; exact ⟨_, Tryz.func71, rfl, rfl⟩
 split at hk
 ·obtain rfl := Option.some.inj hk; exact ⟨_, Tryz.func72, rfl, rfl⟩
 split at hk
 ·obtain rfl := Option.some.inj hk; exact ⟨_, Tryz.func73, rfl, rfl⟩
 split at hk
 ·obtain rfl := Option.some.inj hk; exact ⟨_, Tryz.func74, rfl, rfl⟩
 split at hk
 ·obtain rfl := Option.some.inj hk; exact ⟨_, Tryz.func75, rfl, rfl⟩
 split at hk
 ·obtain rfl := Option.some.inj hk; exact ⟨_, Tryz.func76, rfl, rfl⟩
 ·cases hk
def evV (e : Stile.Event) (nv : Value) : Value := .agg #[.bool e.ran, .int .i64 e.acc.kind, .int .i64 e.acc.cell, .int .u32 e.acc.x, .int .u32 e.acc.y, .int .u32 e.acc.old, nv]
theorem nat_of {i : Int} (hi : there W i) : ((i.toNat : Nat) : Int) = i ∧ i.toNat < W.t.length := by unfold there at hi; omega
theorem wstep_run (h : Wd w a pm g t kf W) (hG : Stile.Good W) (i : Int) (hi : there W i) (hop : (taskAt W i).f.op ≠ 0) : Calls Tryz.prog 48 #[.pointer (some ⟨a, 0, none⟩), .int .i64 i] w fun e w' => ∃ nv, e = .returned (evV (Stile.step W i).1 nv) ∧ nk.R 44 w' w.heap.size (fun _ => True) nv (Stile.step W i).1.notes ∧ Wd w' a pm g t kf (Stile.step W i).2 ∧ Bt g t w w' := by
 obtain ⟨hi0, hik⟩ := nat_of hi
 have hf : Fok W.kind (runAt W i).f := hG.tasks i.toNat
 have hlen := (step_good hG i hop).2
 have hS : ∀ (W' : World) (p : Nat), At w.heap.size W' p pm g (runAt W i) → Calls Tryz.prog 88 #[.pointer (some ⟨p, 0, none⟩), .func (.func kf) #[] #[]] W' fun e w' => e = .returned (.bool (stepRun W.kind (runAt W i)).over) ∧ At w.heap.size w' p pm g (stepRun W.kind (runAt W i)) ∧ Fr w.heap.size p g W' w' := by
  intro W' p hA
  refine linestep_run hA W.kind ⟨hf.wi.1, by have := hf.wi.2; omega⟩ kf (kind_fn h.fn) fun hon W'' hA' => ?_
  have hv : KValid W.kind (runAt W i).f.op (runAt W i).f.line := by
   rcases hf.valid hop with q | q
   ·exact absurd (hf.on q) (by rw [hon]; decide)
   ·exact q
  exact lines_run h.fn hv ⟨hG.words, hf.a, hf.b, w32_zero⟩ rfl hA'
 have hst : Stile.step W i = if (stepRun W.kind (runAt W i)).over = true then
   (⟨true, (stepRun W.kind (runAt W i)).acc, (stepRun W.kind (runAt W i)).notes ++ [⟨i, 11, (stepRun W.kind (runAt W i)).f.op, (stepRun W.kind (runAt W i)).f.ret⟩]⟩, { W with l := (stepRun W.kind (runAt W i)).l, t := W.t.set i.toNat ⟨behind (stepRun W.kind (runAt W i)).f.op (stepRun W.kind (runAt W i)).f.ret (taskAt W i).hold, .zero⟩ })
  else (⟨true, (stepRun W.kind (runAt W i)).acc, (stepRun W.kind (runAt W i)).notes⟩, { W with l := (stepRun W.kind (runAt W i)).l, t := W.t.set i.toNat ⟨(taskAt W i).hold, (stepRun W.kind (runAt W i)).f⟩ }) := rfl
 rw [hst]
 clear hst hf
 have hri : runAt W ((i.toNat : Nat) : Int) = runAt W i := by rw [hi0]
 generalize stepRun W.kind (runAt W i) = r2 at hS hlen ⊢
 obtain ⟨l2, n2, m2, k2, ⟨gop, gln, ga, gb, gst, gon, gwc, gwi, ghit, gret⟩, ⟨a0, a1, a2, a3, a4⟩, ns⟩ := r2
 rw [← hri] at hS
 have hlen : ns.length ≤ 1000 := Nat.le_trans hlen (by decide)
 cases hov : (Run.over ⟨l2, n2, m2, k2, ⟨gop, gln, ga, gb, gst, gon, gwc, gwi, ghit, gret⟩, ⟨a0, a1, a2, a3, a4⟩, ns⟩) with
 | true =>
  rw [hov] at hS
  have := wstep_yes h i.toNat hik l2 n2 m2 k2 gop gln ga gb gst gwc gwi gret a0 a1 a2 a3 a4 gon ghit ns hlen hS
  rw [hi0] at this
  exact this
 | false =>
  rw [hov] at hS
  have := wstep_no h i.toNat hik l2 n2 m2 k2 gop gln ga gb gst gwc gwi gret a0 a1 a2 a3 a4 gon ghit ns hlen hS
  rw [hi0] at this
  exact this
theorem step_few {W : Stile.W} (hG : Stile.Good W) (i : Int) (hop : (taskAt W i).f.op ≠ 0) : (Stile.step W i).1.notes.length ≤ 11 := by
 have := (step_good hG i hop).2
 unfold Stile.step
 dsimp only
 split
 ·simp; omega
 ·show (stepRun W.kind (runAt W i)).notes.length ≤ 11
  omega
theorem begin_run (h : Wd w a pm g t kf W) (hG : Stile.Good W) (i op : Int) (hi : there W i) (ho : 1 ≤ op ∧ op ≤ 8) : Calls Tryz.prog 47 #[.pointer (some ⟨a, 0, none⟩), .int .i64 i, .int .i64 op] w fun e w' => ∃ nv, e = .returned (evV (begin_ W i op).1 nv) ∧ nk.R 44 w' w.heap.size (fun _ => True) nv (begin_ W i op).1.notes ∧ Wd w' a pm g t kf (begin_ W i op).2 ∧ Bt g t w w' := by
 obtain ⟨hi0, hik⟩ := nat_of hi
 cases hm : may op (taskAt W i).hold with
 | false =>
  have hb : begin_ W i op = (⟨true, .zero, [⟨i, 1, op, 0⟩, ⟨i, 11, op, 3⟩]⟩, W) := by
   unfold begin_
   dsimp only
   rw [if_neg (by rw [hm]; decide)]
  rw [hb]
  have := begin_no h i.toNat hik op hm
  rw [hi0] at this
  exact this
 | true =>
  obtain ⟨W1, hW1⟩ : ∃ W1, W1 = ({ W with t := W.t.set i.toNat ⟨atHold op (taskAt W i).hold, { Frame.zero with op := op }⟩ } : Stile.W) := ⟨_, rfl⟩
  have hG1 : Stile.Good W1 := by rw [hW1]; exact begin_set hG i op ho
  have hi1 : there W1 i := by rw [hW1]; unfold there at *; simpa using hi
  have ht1 : (taskAt W1 i).f.op ≠ 0 := by
   rw [hW1, taskAt_set i hi]
   show op ≠ 0
   omega
  have hb : begin_ W i op = ({ (Stile.step W1 i).1 with notes := ⟨i, 1, op, 0⟩ :: (Stile.step W1 i).1.notes }, (Stile.step W1 i).2) := by
   unfold begin_
   dsimp only
   rw [if_pos hm, ← hW1]
  have hS := fun V (hV : Wd V a pm g t kf W1) => wstep_run hV hG1 i hi1 ht1
  have hfew := step_few hG1 i ht1
  have hran : (Stile.step W1 i).1.ran = true := by
   unfold Stile.step
   dsimp only
   split <;> rfl
  rw [hb]
  generalize Stile.step W1 i = d at hS hfew hran ⊢
  obtain ⟨⟨rn, ⟨a0, a1, a2, a3, a4⟩, ns⟩, W2⟩ := d
  obtain rfl : rn = true := hran
  rw [hW1] at hS
  have := begin_yes h i.toNat hik op hm a0 a1 a2 a3 a4 ns (Nat.le_trans hfew (by decide)) (fun V hV => by rw [hi0]; exact hS V hV)
  rw [hi0] at this
  exact this
theorem pick_run (h : Wd w a pm g t kf W) (hG : Stile.Good W) (i op : Int) : Calls Tryz.prog 17 #[.pointer (some ⟨a, 0, none⟩), .agg #[.int .i64 i, .int .i64 op]] w fun e w' => ∃ nv, e = .returned (evV (Stile.pick W i op).1 nv) ∧ nk.R 44 w' w.heap.size (fun _ => True) nv (Stile.pick W i op).1.notes ∧ Wd w' a pm g t kf (Stile.pick W i op).2 ∧ Bt g t w w' := by
 have hz : ∀ {Q : World → Prop} (e : Ending) (w' : World), e = .returned (.agg #[.bool false, .int .i64 0, .int .i64 0, .int .u32 0, .int .u32 0, .int .u32 0, .slice none 0 0]) ∧ Wd w' a pm g t kf W ∧ Bt g t w w' → ∃ nv, e = .returned (evV Stile.Event.none nv) ∧ nk.R 44 w' w.heap.size (fun _ => True) nv Stile.Event.none.notes ∧ Wd w' a pm g t kf W ∧ Bt g t w w' := by
  rintro _ e w' ⟨rfl, h1, h2⟩
  exact ⟨.slice none 0 0, rfl, Kd.R_nil _ _ _ _ _, h1, h2⟩
 by_cases hi : there W i
 ·by_cases hop : (taskAt W i).f.op = 0
  ·by_cases ho : 1 ≤ op ∧ op ≤ 8
   ·have hp : Stile.pick W i op = begin_ W i op := by unfold Stile.pick; rw [if_pos hi, if_pos hop, if_pos ho]
    rw [hp]
    have hC := fun V (hV : Wd V a pm g t kf W) => begin_run hV hG i op hi ho
    generalize begin_ W i op = d at hC ⊢
    obtain ⟨⟨rn, ⟨a0, a1, a2, a3, a4⟩, ns⟩, W2⟩ := d
    exact pick_begin h i op hi hop ho rn a0 a1 a2 a3 a4 ns hC
   ·have hp : Stile.pick W i op = (.none, W) := by unfold Stile.pick; rw [if_pos hi, if_pos hop, if_neg ho]
    rw [hp]
    exact (pick_bad h i op hi hop ho).mono (hz (Q := fun _ => True))
  ·cases hst : Stile.stuck W i with
   | true =>
    have hp : Stile.pick W i op = (.none, W) := by unfold Stile.pick; rw [if_pos hi, if_neg hop, if_pos hst]
    rw [hp]
    exact (pick_stuck h i op hi hop hst).mono (hz (Q := fun _ => True))
   | false =>
    have hp : Stile.pick W i op = Stile.step W i := by unfold Stile.pick; rw [if_pos hi, if_neg hop, if_neg (by rw [hst]; decide)]
    rw [hp]
    have hC := fun V (hV : Wd V a pm g t kf W) => wstep_run hV hG i hi hop
    generalize Stile.step W i = d at hC ⊢
    obtain ⟨⟨rn, ⟨a0, a1, a2, a3, a4⟩, ns⟩, W2⟩ := d
    exact pick_step h i op hi hop hst rn a0 a1 a2 a3 a4 ns hC
 ·have hp : Stile.pick W i op = (.none, W) := by unfold Stile.pick; rw [if_neg hi]
  rw [hp]
  exact (pick_away h i op hi).mono (hz (Q := fun _ => True))
end Go.Proofs.YtkmlefbdhdlfmaaGreat.Wo
