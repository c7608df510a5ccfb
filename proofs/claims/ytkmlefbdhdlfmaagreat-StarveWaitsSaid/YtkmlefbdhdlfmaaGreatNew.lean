/- A world is made: rows of words and of tasks, cells.From, world.New. -/
import Derived.Test.YtkmlefbdhdlfmaaGreatFst
namespace Go.Proofs.YtkmlefbdhdlfmaaGreat.Wo
open Go.RowKit Go.Proofs.YtkmlefbdhdlfmaaGreatW.PrintWords Go.Proofs.YtkmlefbdhdlfmaaGreatW.PrintMore Go.Proofs.YtkmlefbdhdlfmaaGreatW.PrintLast
open Stile
set_option linter.unusedSimpArgs false
set_option linter.unusedVariables false
set_option maxRecDepth 100000
variable {w w1 w2 w0 V V1 : World} {a pm g t kf n b B p cap : Nat} {W : Stile.W} {ok : Nat → Prop}
theorem e163 {P : Prop} (h : P := by
 obtain ⟨_, _, rfl, rfl, ⟨_, _, rfl, rfl, ⟨_, _, rfl, rfl, ⟨_, _, rfl, rfl, ⟨_, _, rfl, rfl, ⟨_, _, rfl, rfl, ⟨_, _, rfl, rfl, ⟨_, _, rfl, rfl, ⟨_, _, rfl, rfl, ⟨_, _, rfl, rfl, rfl⟩⟩⟩⟩⟩⟩⟩⟩⟩⟩ := h
 rfl) : P := h
abbrev taskL (x : Task) : List Value := [.int .i64 x.hold, .int .i64 x.f.op, .int .i64 x.f.line, .int .u32 x.f.a, .int .u32 x.f.b, .int .i64 x.f.stage, .bool x.f.on, .int .i64 x.f.wc, .int .i64 x.f.wi, .bool x.f.hit, .int .i64 x.f.ret]
def tt (x : Task) : Int × Int × Int × Int × Int × Int × Bool × Int × Int × Bool × Int := (x.hold, x.f.op, x.f.line, x.f.a, x.f.b, x.f.stage, x.f.on, x.f.wc, x.f.wi, x.f.hit, x.f.ret)
abbrev kt : Kd Task := Kd.iso (Kd.pair (Kd.int .i64) (Kd.pair (Kd.int .i64) (Kd.pair (Kd.int .i64) (Kd.pair (Kd.int .u32) (Kd.pair (Kd.int .u32) (Kd.pair (Kd.int .i64) (Kd.pair Kd.bool (Kd.pair (Kd.int .i64) (Kd.pair (Kd.int .i64) (Kd.pair Kd.bool (Kd.int .i64))))))))))) tt
theorem kt_M (x : Task) : kt.M w B ok x (taskL x) := ⟨_, _, rfl, rfl, ⟨_, _, rfl, rfl, ⟨_, _, rfl, rfl, ⟨_, _, rfl, rfl, ⟨_, _, rfl, rfl, ⟨_, _, rfl, rfl, ⟨_, _, rfl, rfl, ⟨_, _, rfl, rfl, ⟨_, _, rfl, rfl, ⟨_, _, rfl, rfl, rfl⟩⟩⟩⟩⟩⟩⟩⟩⟩⟩
theorem kt_open {x : Task} {cs : List Value} (h : kt.M w B ok x cs) : cs = taskL x := e163
theorem taskL_get (x : Task) (j : Nat) (hj : j < 11) : (taskL x)[j]? = some (taskV x j) := by
 have : j = 0 ∨ j = 1 ∨ j = 2 ∨ j = 3 ∨ j = 4 ∨ j = 5 ∨ j = 6 ∨ j = 7 ∨ j = 8 ∨ j = 9 ∨ j = 10 := by omega
 rcases this with rfl | rfl | rfl | rfl | rfl | rfl | rfl | rfl | rfl | rfl | rfl <;> rfl
theorem R_Tk {c : Nat} {xs : List Task} (h : kt.R 53 w B ok (.slice (some ⟨t, 0, none⟩) n c) xs) : Tk w t xs.length (fun i j => taskV (xs.getD i ⟨0, .zero⟩) j) := by
 obtain ⟨_, inner, ho, hr⟩ := h
 obtain ⟨ho1, ho2⟩ := ho
 rcases ho2 with ⟨hv, _⟩ | ⟨g', cap', cur, hv, hb, hh, hnc, hcm, hcs, ht⟩
 ·cases hv
 injection hv with ha _ _
 injection ha with ha
 injection ha with hg
 subst hg
 refine ⟨cur, hh, fun i j hi hj => ?_⟩
 have hx : xs[i]? = some (xs.getD i ⟨0, .zero⟩) := by simp [List.getD_eq_getElem?_getD, hi]
 have h1 := kt_open (hr.2 i _ hx)
 have h2 := taskL_get (xs.getD i ⟨0, .zero⟩) j hj
 rw [← h1, List.getElem?_take] at h2
 have hs : kt.sz = 11 := rfl
 rw [hs] at h2
 rw [if_pos hj, List.getElem?_drop, ← ht, List.getElem?_take] at h2
 split at h2
 ·rw [← Array.getElem?_toList]
  exact h2
 ·cases h2
theorem R_Mm {c : Nat} {xs : List Int} (h : (Kd.int .u32).R 22 w B ok (.slice (some ⟨g, 0, none⟩) n c) xs) (hp : w.heap[pm]? = some (.cells #[.slice (some ⟨g, 0, none⟩) n c] 139 (0, 0))) : Mm w pm g xs := by
 have hn := (Kd.R_reads' h).1
 subst hn
 obtain ⟨_, inner, ho, hr⟩ := h
 obtain ⟨ho1, ho2⟩ := ho
 rcases ho2 with ⟨hv, _⟩ | ⟨g', cap', cur, hv, hb, hh, hnc, hcm, hcs, ht⟩
 ·cases hv
 injection hv with ha _ _
 injection ha with ha
 injection ha with hg
 subst hg
 refine ⟨⟨c, hp⟩, cur, hh, fun i hi => ?_⟩
 have hx : xs[i]? = some (xs.getD i 0) := by simp [List.getD_eq_getElem?_getD, hi]
 have h1 : (inner.drop (i * 1)).take 1 = [.int .u32 (xs.getD i 0)] := hr.2 i _ hx
 have h2 : ((inner.drop (i * 1)).take 1)[0]? = some (.int .u32 (xs.getD i 0)) := by rw [h1]; rfl
 rw [List.getElem?_take, if_pos (by decide), List.getElem?_drop, ← ht, List.getElem?_take] at h2
 split at h2
 ·rw [← Array.getElem?_toList]
  simpa using h2
 ·cases h2
theorem sl_in {P : Program} (w : World) (d : Nat) (t : TypeId) {e : TypeId} (ad : Addr) (n c : Nat) (h : P.underlying t = some (.slice e)) : (Op.equalIn (d + 1) t (.slice (some ad) n c) (.slice none 0 0)).run P w = .ok false w := by
 simp [Op.equalIn, run_underlying h]
theorem sl_eq {P : Program} (w : World) (t : TypeId) {e : TypeId} (ad : Addr) (n c : Nat) (h : P.underlying t = some (.slice e)) : (Op.equal t (.slice (some ad) n c) (.slice none 0 0)).run P w = .ok false w := sl_in w 9999 t ad n c h
theorem words_eql (ad : Addr) (n c : Nat) (w : World) : (binOp .eql 32 (.slice (some ad) n c) (.slice none 0 0)).run Tryz.prog w = .ok (.bool false) w := by
 simp [binOp, sl_eq w 32 ad n c Tryz.underlying32]
theorem R_emptyrow {α : Type} (d : Kd α) (e : TypeId) : d.R e (w.alloc (.cells #[] e)) w.heap.size (fun _ => True) (.slice (some ⟨w.heap.size, 0, none⟩) 0 0) [] :=
 ⟨fun _ _ => trivial, [], World.ownsRow_made w #[] 0 (Nat.le_refl _) (by decide) (by simp), Reps.none _ _⟩
theorem info_u32 : (Tryz.prog.info? 22).map (fun i => (i.zero, i.size, i.bytes)) = some (some (.int .u32 0), 1, 4) := by kernel_rfl
theorem info_task : (Tryz.prog.info? 53).map (fun i => (i.zero, i.size, i.bytes)) = some (some (.agg #[.int .i64 0, .int .i64 0, .int .i64 0, .int .u32 0, .int .u32 0, .int .i64 0, .bool false, .int .i64 0, .int .i64 0, .bool false, .int .i64 0]), 11, 80) := by kernel_rfl
theorem clone_walk {xs : List Int} {ad : Addr} {c : Nat} (hC : (Kd.int .u32).C w (some ad) xs.length xs) (hl : xs.length ≤ 2000) : Calls Tryz.prog 81 #[.slice (some ad) xs.length c] w fun e w' => ∃ v, e = .returned v ∧ (Kd.int .u32).R 22 w' w.heap.size (fun _ => True) v xs ∧ Below w.heap.size w w' := by
 have hR := R_emptyrow (w := w) (Kd.int .u32) 22
 have hB := below_alloc (Below.refl _ w) (.cells #[] 22)
 have hC1 := Kd.C_below hC hB
 replace hR := Lib.hid hR
 replace hB := Lib.hid hB
 replace hC1 := Lib.hid hC1
 replace hC := Lib.hid hC
 obtain ⟨len, hlen⟩ : ∃ len, len = xs.length := ⟨_, rfl⟩
 rw [← hlen]
 rw [← hlen] at hC1
 replace hl : len ≤ 2000 := by omega
 replace hlen := Lib.hid hlen
 have hq := words_eql ad len c
 go_enter Tryz.func81, Tryz.ntmps81
 go_wp2_with ((with_reducible refine gate_builtin (b := .append) (xs := #[.tmp 5, .tmp 6]) rfl ?_); at_builtin; refine Kd.R_append_rows (Kd.int .u32) (w0 := w) w.heap.size rfl (.tmp 5) (.tmp 6) 32 22 (.int .u32 0) 4 rfl Tryz.underlying32 info_u32 rfl (by decide) (by decide) _ [] xs (some ad) len c (fun _ => True) (fun _ => False) rfl rfl hR.out hC1.out (fun x cs h => h) (fun _ hk => hk.elim) (fun _ _ => trivial) hB.out (by simp) (by simp; omega) ?_; intro v7 w7 hR7 hB7 _ _; obtain ⟨A7, c7, rfl⟩ := Kd.R_slice hR7; replace hR7 := Lib.hid hR7; replace hB7 := Lib.hid hB7)
 go_ret
 exact ⟨_, rfl, hR7.out, hB7.out⟩
theorem from_walk {xs : List Int} {ad : Addr} {c : Nat} (hC : (Kd.int .u32).C w (some ad) xs.length xs) (h1 : 1 ≤ xs.length) (hl : xs.length ≤ 1000) : Calls Tryz.prog 40 #[.slice (some ad) xs.length c] w fun e w' => ∃ pm g, e = .returned (.tuple #[.pointer (some ⟨pm, 0, none⟩), .int .i64 0]) ∧ Mm w' pm g xs ∧ Below w.heap.size w w' ∧ w.heap.size ≤ pm ∧ w.heap.size ≤ g := by
 have hcl := clone_walk (c := c) hC (by omega)
 obtain ⟨len, hlen⟩ : ∃ len, len = xs.length := ⟨_, rfl⟩
 rw [← hlen] at hcl h1 hl ⊢
 have hgt : decide ((len : Int) > 1024) = false := decide_eq_false (by omega)
 replace hC := Lib.hid hC
 replace hcl := Lib.hid hcl
 replace hlen := Lib.hid hlen
 go_enter Tryz.func40, Tryz.ntmps40
 go_wp2_with (go_at_call 81; go_must (refine hcl.out.mono ?_; rintro e w1 ⟨v, rfl, hR, hB⟩; obtain ⟨g, cap, rfl, hg0, hg1, _⟩ := Kd.R_form hR (by rw [← hlen.out]; exact h1); rw [← hlen.out] at hR; replace hR := Lib.hid hR; replace hB := Lib.hid hB; rw [← hlen.out]))
 go_ret2
 refine ⟨w1.heap.size, g, rfl, ?_, below_alloc hB.out _, hB.out.size, hg0⟩
 have hq := Kd.R_below hR.out (below_alloc (Below.refl _ w1) (.cells #[.slice (some ⟨g, 0, none⟩) len cap] 139))
 exact R_Mm hq (heap_alloc_new w1 _)
theorem slines (kind : Int) (hk : kindFn kind = some kf) (w : World) : Calls Tryz.prog 38 #[.int .i64 kind] w fun e w' => e = .returned (.tuple #[.func (.func kf) #[] #[], .bool true]) ∧ w' = w := by
 have h : kind = 1 ∨ kind = 2 ∨ kind = 3 ∨ kind = 4 ∨ kind = 5 ∨ kind = 6 := by
  unfold kindFn at hk
  split at hk
  ·omega
  split at hk
  ·omega
  split at hk
  ·omega
  split at hk
  ·omega
  split at hk
  ·omega
  split at hk
  ·omega
  ·cases hk
 rcases h with rfl | rfl | rfl | rfl | rfl | rfl <;> obtain rfl := Option.some.inj hk
 ·exact slines_1 w
 ·exact slines_2 w
 ·exact slines_3 w
 ·exact slines_4 w
 ·exact slines_5 w
 ·exact slines_6 w
theorem kindFn_some {kind : Int} (hk : 1 ≤ kind ∧ kind ≤ 6) : ∃ kf, kindFn kind = some kf := by
 have h : kind = 1 ∨ kind = 2 ∨ kind = 3 ∨ kind = 4 ∨ kind = 5 ∨ kind = 6 := by omega
 rcases h with rfl | rfl | rfl | rfl | rfl | rfl <;> exact ⟨_, rfl⟩
theorem own_some {kind : Int} (hk : 1 ≤ kind ∧ kind ≤ 6) : First.own kind ≠ [] := by
 have h : kind = 1 ∨ kind = 2 ∨ kind = 3 ∨ kind = 4 ∨ kind = 5 ∨ kind = 6 := by omega
 rcases h with rfl | rfl | rfl | rfl | rfl | rfl <;> decide
set_option maxHeartbeats 2000000 in
theorem new_walk (kind mode n base : Int) (hk : 1 ≤ kind ∧ kind ≤ 6) (hm : mode = 1 ∨ mode = 2) (hn : 1 ≤ n ∧ n ≤ 64) (ws : List Int) (hws : First.ws kind base (First.own kind) (8 + 4 * n.toNat) (First.own kind).length = ws) (w : World) : Calls Tryz.prog 13 #[.int .i64 kind, .int .i64 mode, .int .i64 n, .int .u32 base] w fun e w' => ∃ a pm g t kf, e = .returned (.tuple #[.pointer (some ⟨a, 0, none⟩), .int .i64 0]) ∧ Wd w' a pm g t kf ⟨kind, mode, n, ws, List.replicate n.toNat ⟨0, .zero⟩⟩ ∧ Below w.heap.size w w' ∧ w.heap.size ≤ a ∧ w.heap.size ≤ pm ∧ w.heap.size ≤ g ∧ w.heap.size ≤ t := by
 obtain ⟨kf, hkf⟩ := kindFn_some hk
 have hs := slines kind hkf
 have hf := fun w => First.first_good kind n base w (own_some hk) hn.1 hn.2 (8 + 4 * n.toNat) (by omega)
 have hlen : ws.length = 8 + 4 * n.toNat := by rw [← hws]; exact First.ws_length _ _ _ _ _
 rw [hws] at hf
 have hw1 : 1 ≤ ws.length := by omega
 have hw2 : ws.length ≤ 1000 := by omega
 have hn0 : 0 ≤ n := by omega
 have hn64 : n.toNat * 80 ≤ 281474976710656 := by omega
 replace hlen := Lib.hid hlen
 replace hws := Lib.hid hws
 replace hk := Lib.hid hk
 replace hn := Lib.hid hn
 replace hf := Lib.hid hf
 replace hkf := Lib.hid hkf
 replace hw1 := Lib.hid hw1
 replace hw2 := Lib.hid hw2
 have hres : ∀ (w4 : World) (pm g t c4 : Nat) (md : Int), mode = md → Hid (Below w.heap.size w w4) → Hid (Mm w4 pm g ws) → Hid (kt.R 53 w4 w.heap.size (fun _ => True) (.slice (some ⟨t, 0, none⟩) n.toNat c4) (List.replicate n.toNat ⟨0, .zero⟩)) → w.heap.size ≤ pm → w.heap.size ≤ g → w.heap.size ≤ t →
   ∃ a1 pm1 g1 t1 kf1, Ending.returned (.tuple #[.pointer (some ⟨w4.heap.size, 0, none⟩), .int .i64 0]) = .returned (.tuple #[.pointer (some ⟨a1, 0, none⟩), .int .i64 0]) ∧ Wd (w4.alloc (.cells #[.int .i64 kind, .int .i64 md, .pointer (some ⟨pm, 0, none⟩), .int .i64 n, .func (.func kf) #[] #[], .slice (some ⟨t, 0, none⟩) n.toNat c4] 96)) a1 pm1 g1 t1 kf1 ⟨kind, mode, n, ws, List.replicate n.toNat ⟨0, .zero⟩⟩ ∧ Below w.heap.size w (w4.alloc (.cells #[.int .i64 kind, .int .i64 md, .pointer (some ⟨pm, 0, none⟩), .int .i64 n, .func (.func kf) #[] #[], .slice (some ⟨t, 0, none⟩) n.toNat c4] 96)) ∧ w.heap.size ≤ a1 ∧ w.heap.size ≤ pm1 ∧ w.heap.size ≤ g1 ∧ w.heap.size ≤ t1 := by
  intro w4 pm g t c4 md hmd hB hM hR h1 h2 h3
  subst hmd
  refine ⟨w4.heap.size, pm, g, t, kf, rfl, ⟨⟨c4, ?_⟩, hM.out.alloc _, ?_, hkf.out⟩, below_alloc hB.out _, hB.out.size, h1, h2, h3⟩
  ·have := heap_alloc_new w4 (.cells #[.int .i64 kind, .int .i64 mode, .pointer (some ⟨pm, 0, none⟩), .int .i64 n, .func (.func kf) #[] #[], .slice (some ⟨t, 0, none⟩) n.toNat c4] 96)
   simpa using this
  ·have h5 := R_Tk (Kd.R_below hR.out (below_alloc (Below.refl _ w4) (.cells #[.int .i64 kind, .int .i64 mode, .pointer (some ⟨pm, 0, none⟩), .int .i64 n, .func (.func kf) #[] #[], .slice (some ⟨t, 0, none⟩) n.toNat c4] 96)))
   exact h5
 replace hres := Lib.hid hres
 rcases hm with rfl | rfl
 all_goals
  go_enter Tryz.func13, Tryz.ntmps13
  go_wp2_with (first
   | (go_at_call 38; go_must (refine (hs _).mono ?_; rintro e w1 ⟨rfl, rfl⟩))
   | (go_at_call 39; go_must (refine (hf.out _).mono ?_; rintro e w2 ⟨v, rfl, hR2, hB2⟩; obtain ⟨gf, cf, rfl, _, _, _⟩ := Kd.R_form hR2 hw1.out; have hC2 := (Kd.R_reads' hR2).2.2; clear hR2; replace hC2 := Lib.hid hC2; replace hB2 := Lib.hid hB2))
   | (go_at_call 40; go_must (refine (from_walk hC2.out hw1.out hw2.out).mono ?_; rintro e w3 ⟨pm, g, rfl, hM3, hB3, hp3, hg3⟩; have hp3' := Nat.le_trans hB2.out.size hp3; have hg3' := Nat.le_trans hB2.out.size hg3; have hB3' := below_then hB2.out hB2.out.size hB3; clear hB3 hp3 hg3 hC2; replace hM3 := Lib.hid hM3; replace hB3' := Lib.hid hB3'))
   | (at_make; go_must (refine Kd.R_make kt (w0 := w1) w1.heap.size 53 rfl (N := 55) rfl 33 _ _ rfl n rfl rfl Tryz.underlying33 (.agg #[.int .i64 0, .int .i64 0, .int .i64 0, .int .u32 0, .int .u32 0, .int .i64 0, .bool false, .int .i64 0, .int .i64 0, .bool false, .int .i64 0]) 80 info_task rfl (by decide) (by decide) ⟨0, .zero⟩ (ok := fun _ => True) (okp := fun _ => True) (kt_M _) (fun _ hk => hk) trivial hn0 hn64 hB3'.out hB3'.out.size ?_; intro v4 w4 hR4 hB4 hg4 ho4; obtain ⟨bo, hbo, hbo3⟩ := ho4; obtain ⟨gt, ct, rfl, hgt0, _, _⟩ := Kd.R_form hR4 (by have := hn.out; simp; omega); have hM4 := hM3.out.of_blocks (hg4.block pm hM3.out.lt.1 (by simp)) (hg4.block g hM3.out.lt.2 (by simp)); rw [List.length_replicate] at hR4; replace hR4 := Lib.hid hR4; replace hB4 := Lib.hid hB4; replace hM4 := Lib.hid hM4; rw [List.length_replicate]; clear hg4 hbo hbo3)))
  go_ret2
  exact hres.out w4 pm g gt ct _ rfl hB4 hM4 hR4 hp3' hg3' hgt0
end Go.Proofs.YtkmlefbdhdlfmaaGreat.Wo
