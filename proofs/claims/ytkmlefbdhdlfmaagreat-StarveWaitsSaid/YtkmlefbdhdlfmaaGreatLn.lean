/- What the walks of lines share: stores into the run's own words; loops over notes. -/
import Derived.Test.YtkmlefbdhdlfmaaGreatWt
import Derived.Deep.QuietTactic
import Derived.StillTailTactics
import Derived.BigQuiet
namespace Go.Proofs.YtkmlefbdhdlfmaaGreat.Wo
open Go.RowKit Go.Proofs.YtkmlefbdhdlfmaaGreatW.PrintWords Go.Proofs.YtkmlefbdhdlfmaaGreatW.PrintMore Go.Proofs.YtkmlefbdhdlfmaaGreatW.PrintLast
open Stile
set_option linter.unusedSimpArgs false
set_option linter.unusedVariables false
set_option maxRecDepth 100000
variable {w w1 w2 : World} {B p pm g : Nat} {r r1 : Run}
theorem e11 {P : Prop} (h : P := by
 obtain ⟨nv, hp, _⟩ := h.head
 exact run_store_run 22 (.int .u32 v) [.int .u32 v] hp rfl size_u32 (by simp [runCells]) (fun v hv => by cases List.mem_singleton.1 hv; rfl)) : P := h
theorem store_run' {P : Program} {oi : Oper} {a : Act} {t : TypeId} {x y : Operand} {pv xv : Value} (hop : oi.op = .store t x y) (hp : a.eval x = pv) (hx : a.eval y = xv) (h : (Instr.storeAt t pv xv).run P w = .ok () w1) : (execOp a.eval oi).run P w = .ok .skip w1 := by
 unfold execOp
 simp [hop, hp, hx, h]
theorem wp_store {P : Program} {oi : Oper} {a : Act} {t : TypeId} {ops : Array Oper} {rest : List Oper} {Q : Exit → Act → World → Prop} (hN : oi.dst = none) (hg : oi.guard = none) {p x : Operand} {pv xv : Value} (hop : oi.op = .store t p x) (hp : a.eval p = pv) (hx : a.eval x = xv) (hrun : (Instr.storeAt t pv xv).run P w = .ok () w1)
  (h : wpList P ops Q rest a w1) : wpList P ops Q (oi :: rest) a w := by
 refine wpList_plain hg fun K hK => ?_
 unfold Oper.wp
 rw [store_run' hop hp hx hrun]
 show K (a.put oi.dst undef) w1
 rw [hN]
 exact hK _ _ h
theorem size_u32 : (Tryz.prog.info? 22).map (·.size) = some 1 := by kernel_rfl
theorem At.runA (h : At B w p pm g r) (v : Int) : (Instr.storeAt 22 (.pointer (some ⟨p, 6, none⟩)) (.int .u32 v)).run Tryz.prog w = .ok () (w.setCell ⟨p, 6, none⟩ (.int .u32 v)) := e11
theorem At.runB (h : At B w p pm g r) (v : Int) : (Instr.storeAt 22 (.pointer (some ⟨p, 7, none⟩)) (.int .u32 v)).run Tryz.prog w = .ok () (w.setCell ⟨p, 7, none⟩ (.int .u32 v)) := e11
section
variable {ops : Array Oper} {Q : Exit → Act → World → Prop} {rest : List Oper} {oi : Oper} {a : Act} {x y : Operand} {v : Int}
theorem store_A (hop : oi.op = .store 22 x y) (hN : oi.dst = none) (hg : oi.guard = none) (hp : a.eval x = .pointer (some ⟨p, 6, none⟩)) (hx : a.eval y = .int .u32 v) (h : At B w p pm g r)
  (k : ∀ w1, At B w1 p pm g (r.setA v) → Fr B p g w w1 → wpList Tryz.prog ops Q rest a w1) : wpList Tryz.prog ops Q (oi :: rest) a w :=
 wp_store hN hg hop hp hx (h.runA v) (k _ (h.store 6 (.int .u32 v) (r.setA v) (fun _ => rfl) rfl rfl) ((Fr.refl B p g w).set ⟨p, 6, none⟩ (.inl rfl) _))
theorem store_B (hop : oi.op = .store 22 x y) (hN : oi.dst = none) (hg : oi.guard = none) (hp : a.eval x = .pointer (some ⟨p, 7, none⟩)) (hx : a.eval y = .int .u32 v) (h : At B w p pm g r)
  (k : ∀ w1, At B w1 p pm g (r.setB v) → Fr B p g w w1 → wpList Tryz.prog ops Q rest a w1) : wpList Tryz.prog ops Q (oi :: rest) a w :=
 wp_store hN hg hop hp hx (h.runB v) (k _ (h.store 7 (.int .u32 v) (r.setB v) (fun _ => rfl) rfl rfl) ((Fr.refl B p g w).set ⟨p, 7, none⟩ (.inl rfl) _))
end
theorem and32 (a b : Nat) (ha : a < 4294967296) (hb : b < 4294967296) : bits .and .u32 (a : Int) (b : Int) = ((a &&& b : Nat) : Int) := by
 have h : a &&& b < 4294967296 := Nat.lt_of_le_of_lt Nat.and_le_left ha
 have e : (BitVec.ofInt 32 (a : Int) &&& BitVec.ofInt 32 (b : Int) : BitVec 32).toNat = a &&& b := by
  simp [BitVec.toNat_and, Nat.mod_eq_of_lt ha, Nat.mod_eq_of_lt hb]
 show IntKind.u32.wrap (((BitVec.ofInt 32 (a : Int) &&& BitVec.ofInt 32 (b : Int) : BitVec 32).toNat : Nat) : Int) = _
 exact e12
theorem or32 (a b : Nat) (ha : a < 4294967296) (hb : b < 4294967296) : bits .or .u32 (a : Int) (b : Int) = ((a ||| b : Nat) : Int) := by
 have h : a ||| b < 4294967296 := Nat.or_lt_two_pow (n := 32) ha hb
 have e : (BitVec.ofInt 32 (a : Int) ||| BitVec.ofInt 32 (b : Int) : BitVec 32).toNat = a ||| b := by
  simp [BitVec.toNat_or, Nat.mod_eq_of_lt ha, Nat.mod_eq_of_lt hb]
 show IntKind.u32.wrap (((BitVec.ofInt 32 (a : Int) ||| BitVec.ofInt 32 (b : Int) : BitVec 32).toNat : Nat) : Int) = _
 exact e12
theorem nat_bit16' (n : Nat) : n &&& 2 ^ 16 = if n.testBit 16 then 2 ^ 16 else 0 := by
 apply Nat.eq_of_testBit_eq
 intro i
 rw [Nat.testBit_and, Nat.testBit_two_pow]
 by_cases e : 16 = i
 ·subst e
  cases h : n.testBit 16
  ·simp
  ·rw [if_pos rfl, Nat.testBit_two_pow]
   simp
 ·cases h : n.testBit 16
  ·simp [e]
  ·rw [if_pos rfl, Nat.testBit_two_pow]
   simp [e]
theorem nat_bit16 (n : Nat) : n &&& 65536 = if n / 65536 % 2 = 1 then 65536 else 0 := by
 have h := nat_bit16' n
 rw [Nat.testBit_eq_decide_div_mod_eq] at h
 by_cases e : n / 65536 % 2 = 1
 ·rw [if_pos e]
  rw [if_pos (by simpa using e)] at h
  exact h
 ·rw [if_neg e]
  rw [if_neg (by simpa using e)] at h
  exact h
theorem and_bit16 (v : Int) (h0 : 0 ≤ v) (h1 : v < 4294967296) : (bits .and .u32 v 65536 != 0) = decide (v / 65536 % 2 ≠ 0) := by
 obtain ⟨n, rfl⟩ := Int.eq_ofNat_of_zero_le h0
 have := and32 n 65536 (by omega) (by decide)
 rw [show ((65536 : Nat) : Int) = 65536 from rfl] at this
 rw [this, nat_bit16]
 split
 ·rw [decide_eq_true (by omega)]
  decide
 ·rw [decide_eq_false (by omega)]
  decide
theorem and_low2 (v : Int) (h0 : 0 ≤ v) (h1 : v < 4294967296) : bits .and .u32 v 3 = v % 4 := by
 obtain ⟨n, rfl⟩ := Int.eq_ofNat_of_zero_le h0
 have := and32 n 3 (by omega) (by decide)
 rw [show ((3 : Nat) : Int) = 3 from rfl] at this
 rw [this, show (3 : Nat) = 2 ^ 2 - 1 from rfl, Nat.and_two_pow_sub_one_eq_mod]
 omega
theorem and_low1 (v : Int) (h0 : 0 ≤ v) (h1 : v < 4294967296) : bits .and .u32 v 1 = v % 2 := by
 obtain ⟨n, rfl⟩ := Int.eq_ofNat_of_zero_le h0
 have := and32 n 1 (by omega) (by decide)
 rw [show ((1 : Nat) : Int) = 1 from rfl] at this
 rw [this, show (1 : Nat) = 2 ^ 1 - 1 from rfl, Nat.and_two_pow_sub_one_eq_mod]
 omega
theorem or_two (v : Int) (h : v = 0 ∨ v = 1) : bits .or .u32 2 v = 2 + v := by
 rcases h with rfl | rfl <;> decide
theorem kept_false (r : Run) (s : Bool) (v : Int) : kept false r s v = r := by simp [kept]
theorem n_cas (r : Run) (c x y : Int) : (r.cas c x y).notes = r.notes := rfl
theorem n_note (r : Run) (a b : Int) : (r.note a b).notes.length = r.notes.length + 1 := by simp [Run.note]
structure Car (B : Nat) (w0 w : World) (p pm g : Nat) (r : Run) (m : Nat) : Prop where
 at_ : At B w p pm g r
 fr : Fr B p g w0 w
 ok : Ok r
 few : r.notes.length ≤ m
section
variable {w0 : World} {m : Nat} {Q : Ending → World → Prop}
theorem Car.c6 (h : Car B w0 w p pm g r m) : w.cell? ⟨p, 6, none⟩ = some (.int .u32 r.f.a) := h.at_.cell 6 (fun _ => rfl)
theorem Car.c7 (h : Car B w0 w p pm g r m) : w.cell? ⟨p, 7, none⟩ = some (.int .u32 r.f.b) := h.at_.cell 7 (fun _ => rfl)
theorem Car.drewN (h : Car B w0 w p pm g r m) (n : Nat) : Car B w0 (w.drewN n) p pm g r m := ⟨h.at_.drewN n, h.fr.drewN n, h.ok, h.few⟩
theorem Car.drew (h : Car B w0 w p pm g r m) : Car B w0 w.drew p pm g r m := ⟨h.at_.drew, h.fr.drew, h.ok, h.few⟩
theorem Car.alloc (h : Car B w0 w p pm g r m) (o : Obj) : Car B w0 (w.alloc o) p pm g r m := ⟨h.at_.alloc o, h.fr.alloc o, h.ok, h.few⟩
theorem Car.below (h : Car B w0 w p pm g r m) (hb : Below w.heap.size w w1) : Car B w0 w1 p pm g r m := ⟨h.at_.below hb, h.fr.trans (Fr.of_below hb), h.ok, h.few⟩
theorem Car.to {r1 : Run} {m1 : Nat} (h : Car B w0 w p pm g r m) (ha : At B w1 p pm g r1) (hf : Fr B p g w w1) (ho : Ok r1) (hn : r1.notes.length ≤ m1) : Car B w0 w1 p pm g r1 m1 := ⟨ha, h.fr.trans hf, ho, hn⟩
theorem load_step (h : Hid (Car B w0 w p pm g r m)) (c : Int) (k : ∀ w1, Fr B p g w w1 → Hid (Car B w0 w1 p pm g (r.load c) m) → w1.cell? ⟨p, 6, none⟩ = some (.int .u32 (r.load c).f.a) → w1.cell? ⟨p, 7, none⟩ = some (.int .u32 (r.load c).f.b) → Q (.returned (.int .u32 (r.load c).old)) w1) : Calls Tryz.prog 112 #[.pointer (some ⟨p, 0, none⟩), .int .i64 c] w Q := by
 have h := h.out
 refine (load_run h.at_ c).mono ?_
 rintro e w1 ⟨rfl, ha, hf⟩
 have hc : Car B w0 w1 p pm g (r.load c) m := h.to ha hf (h.ok.load c) (h.few)
 exact k w1 hf hc hc.c6 hc.c7
theorem add_step (h : Hid (Car B w0 w p pm g r m)) (c x : Int) (hx : W32 x) (k : ∀ w1, Fr B p g w w1 → Hid (Car B w0 w1 p pm g (r.add c x) m) → w1.cell? ⟨p, 6, none⟩ = some (.int .u32 (r.add c x).f.a) → w1.cell? ⟨p, 7, none⟩ = some (.int .u32 (r.add c x).f.b) → Q (.returned (.int .u32 (r.add c x).old)) w1) : Calls Tryz.prog 104 #[.pointer (some ⟨p, 0, none⟩), .int .i64 c, .int .u32 x] w Q := by
 have h := h.out
 refine (add_run h.at_ c x).mono ?_
 rintro e w1 ⟨rfl, ha, hf⟩
 have hc : Car B w0 w1 p pm g (r.add c x) m := h.to ha hf (h.ok.add c hx) (h.few)
 exact k w1 hf hc hc.c6 hc.c7
theorem store_step (h : Hid (Car B w0 w p pm g r m)) (c x : Int) (hx : W32 x) (k : ∀ w1, Fr B p g w w1 → Hid (Car B w0 w1 p pm g (r.store c x) m) → w1.cell? ⟨p, 6, none⟩ = some (.int .u32 (r.store c x).f.a) → w1.cell? ⟨p, 7, none⟩ = some (.int .u32 (r.store c x).f.b) → Q (.returned (.tuple #[])) w1) : Calls Tryz.prog 154 #[.pointer (some ⟨p, 0, none⟩), .int .i64 c, .int .u32 x] w Q := by
 have h := h.out
 refine (store_run h.at_ c x).mono ?_
 rintro e w1 ⟨rfl, ha, hf⟩
 have hc : Car B w0 w1 p pm g (r.store c x) m := h.to ha hf (h.ok.store c hx) (h.few)
 exact k w1 hf hc hc.c6 hc.c7
theorem swp_step (h : Hid (Car B w0 w p pm g r m)) (c x : Int) (hx : W32 x) (k : ∀ w1, Fr B p g w w1 → Hid (Car B w0 w1 p pm g (r.swp c x) m) → w1.cell? ⟨p, 6, none⟩ = some (.int .u32 (r.swp c x).f.a) → w1.cell? ⟨p, 7, none⟩ = some (.int .u32 (r.swp c x).f.b) → Q (.returned (.int .u32 (r.swp c x).old)) w1) : Calls Tryz.prog 193 #[.pointer (some ⟨p, 0, none⟩), .int .i64 c, .int .u32 x] w Q := by
 have h := h.out
 refine (swp_run h.at_ c x).mono ?_
 rintro e w1 ⟨rfl, ha, hf⟩
 have hc : Car B w0 w1 p pm g (r.swp c x) m := h.to ha hf (h.ok.swp c hx) (h.few)
 exact k w1 hf hc hc.c6 hc.c7
theorem cas_step (h : Hid (Car B w0 w p pm g r m)) (c x y : Int) (v : Bool) (hv : (r.cas c x y).hitCas x = v) (hx : W32 x) (hy : W32 y) (k : ∀ w1, Fr B p g w w1 → Hid (Car B w0 w1 p pm g (r.cas c x y) m) → w1.cell? ⟨p, 6, none⟩ = some (.int .u32 (r.cas c x y).f.a) → w1.cell? ⟨p, 7, none⟩ = some (.int .u32 (r.cas c x y).f.b) → Q (.returned (.bool v)) w1) : Calls Tryz.prog 128 #[.pointer (some ⟨p, 0, none⟩), .int .i64 c, .int .u32 x, .int .u32 y] w Q := by
 have h := h.out
 refine (cas_run h.at_ c x y).mono ?_
 rintro e w1 ⟨rfl, ha, hf⟩
 rw [hv]
 have hc : Car B w0 w1 p pm g (r.cas c x y) m := h.to ha hf (h.ok.cas c hx hy) (h.few)
 exact k w1 hf hc hc.c6 hc.c7
theorem note_step (h : Hid (Car B w0 w p pm g r m)) (a b : Int) (hm : m ≤ 1000) (k : ∀ w1, Fr B p g w w1 → Hid (Car B w0 w1 p pm g (r.note a b) (m + 1)) → w1.cell? ⟨p, 6, none⟩ = some (.int .u32 (r.note a b).f.a) → w1.cell? ⟨p, 7, none⟩ = some (.int .u32 (r.note a b).f.b) → Q (.returned (.tuple #[])) w1) : Calls Tryz.prog 105 #[.pointer (some ⟨p, 0, none⟩), .int .i64 a, .int .i64 b] w Q := by
 have h := h.out
 refine (note_run h.at_ a b (by have := h.few; omega)).mono ?_
 rintro e w1 ⟨rfl, ha, hf⟩
 have hc : Car B w0 w1 p pm g (r.note a b) (m + 1) := h.to ha hf (h.ok.note a b) (by rw [n_note]; have := h.few; omega)
 exact k w1 hf hc hc.c6 hc.c7
theorem go_step (h : Hid (Car B w0 w p pm g r m)) (n : Int) (k : ∀ w1, Fr B p g w w1 → Hid (Car B w0 w1 p pm g (r.go n) m) → w1.cell? ⟨p, 6, none⟩ = some (.int .u32 (r.go n).f.a) → w1.cell? ⟨p, 7, none⟩ = some (.int .u32 (r.go n).f.b) → Q (.returned (.tuple #[])) w1) : Calls Tryz.prog 102 #[.pointer (some ⟨p, 0, none⟩), .int .i64 n] w Q := by
 have h := h.out
 refine (go_run h.at_ n).mono ?_
 rintro e w1 ⟨rfl, ha, hf⟩
 have hc : Car B w0 w1 p pm g (r.go n) m := h.to ha hf (h.ok.go n) (h.few)
 exact k w1 hf hc hc.c6 hc.c7
theorem end_step (h : Hid (Car B w0 w p pm g r m)) (b : Bool) (k : ∀ w1, Fr B p g w w1 → Hid (Car B w0 w1 p pm g (r.fin b) m) → w1.cell? ⟨p, 6, none⟩ = some (.int .u32 (r.fin b).f.a) → w1.cell? ⟨p, 7, none⟩ = some (.int .u32 (r.fin b).f.b) → Q (.returned (.tuple #[])) w1) : Calls Tryz.prog 107 #[.pointer (some ⟨p, 0, none⟩), .bool b] w Q := by
 have h := h.out
 refine (end_run h.at_ b).mono ?_
 rintro e w1 ⟨rfl, ha, hf⟩
 have hc : Car B w0 w1 p pm g (r.fin b) m := h.to ha hf (h.ok.fin b) (h.few)
 exact k w1 hf hc hc.c6 hc.c7
theorem wake_step (h : Hid (Car B w0 w p pm g r m)) (c : Int) (k : ∀ w1, Fr B p g w w1 → Hid (Car B w0 w1 p pm g (r.wake c) m) → w1.cell? ⟨p, 6, none⟩ = some (.int .u32 (r.wake c).f.a) → w1.cell? ⟨p, 7, none⟩ = some (.int .u32 (r.wake c).f.b) → Q (.returned (.tuple #[])) w1) : Calls Tryz.prog 106 #[.pointer (some ⟨p, 0, none⟩), .int .i64 c] w Q := by
 have h := h.out
 refine (wake_run h.at_ c).mono ?_
 rintro e w1 ⟨rfl, ha, hf⟩
 have hc : Car B w0 w1 p pm g (r.wake c) m := h.to ha hf (h.ok.wake c) (h.few)
 exact k w1 hf hc hc.c6 hc.c7
theorem wait_step (h : Hid (Car B w0 w p pm g r m)) (c : Int) {kf : Nat} {caps : Array Value} (is : Int → Bool) (hT : Tells B p pm g r false is kf caps w) (s d : Bool) (hs : (r.waited c is).seen = s) (hd : (r.waited c is).done = d) (k : ∀ w1, Fr B p g w w1 → Hid (Car B w0 w1 p pm g (r.wait c is) m) → w1.cell? ⟨p, 6, none⟩ = some (.int .u32 r.f.a) → w1.cell? ⟨p, 7, none⟩ = some (.int .u32 r.f.b) → Q (.returned (.tuple #[.bool s, .bool d])) w1) : Calls Tryz.prog 101 #[.pointer (some ⟨p, 0, none⟩), .int .i64 c, .func (.func kf) #[] caps] w Q := by
 have h := h.out
 refine (wait_run h.at_ h.ok.words c kf caps false is hT).mono ?_
 rintro e w1 ⟨rfl, ha, hf⟩
 rw [kept_false] at ha
 rw [hs, hd]
 have hc : Car B w0 w1 p pm g (r.wait c is) m := h.to ha hf (h.ok.wait c is) h.few
 exact k w1 hf hc hc.c6 hc.c7
theorem waitset_step (h : Hid (Car B w0 w p pm g r m)) (c : Int) {kf : Nat} {caps : Array Value} (is : Int → Bool) (hT : Tells B p pm g r true is kf caps w) (s d : Bool) (hs : (r.waited c is).seen = s) (hd : (r.waited c is).done = d) (k : ∀ w1, Fr B p g w w1 → Hid (Car B w0 w1 p pm g (if s then (r.wait c is).setA (r.wait c is).old else r.wait c is) m) → Q (.returned (.tuple #[.bool s, .bool d])) w1) : Calls Tryz.prog 101 #[.pointer (some ⟨p, 0, none⟩), .int .i64 c, .func (.func kf) #[] caps] w Q := by
 have h := h.out
 refine (wait_run h.at_ h.ok.words c kf caps true is hT).mono ?_
 rintro e w1 ⟨rfl, ha, hf⟩
 rw [hs, hd]
 have hk : kept true (r.wait c is) (r.waited c is).seen (r.waited c is).acc.old = if s then (r.wait c is).setA (r.wait c is).old else r.wait c is := by rw [hs]; unfold kept; simp; rfl
 rw [hk] at ha
 refine k w1 hf (h.to ha hf ?_ ?_)
 ·split
  ·exact (h.ok.wait c is).setA (h.ok.wait c is).old
  ·exact h.ok.wait c is
 ·split <;> exact h.few
section
variable {ops : Array Oper} {Qx : Exit → Act → World → Prop} {rest : List Oper} {oi : Oper} {a : Act} {x y : Operand} {v : Int}
theorem stA_step (h : Hid (Car B w0 w p pm g r m)) (hop : oi.op = .store 22 x y) (hN : oi.dst = none) (hg : oi.guard = none) (hp : a.eval x = .pointer (some ⟨p, 6, none⟩)) (hx : a.eval y = .int .u32 v) (hv : v = r.acc.old)
  (k : ∀ w1, Fr B p g w w1 → Hid (Car B w0 w1 p pm g (r.setA v) m) → w1.cell? ⟨p, 6, none⟩ = some (.int .u32 v) → w1.cell? ⟨p, 7, none⟩ = some (.int .u32 r.f.b) → wpList Tryz.prog ops Qx rest a w1) : wpList Tryz.prog ops Qx (oi :: rest) a w :=
 store_A hop hN hg hp hx h.out.at_ fun w1 ha hf => by
  have hc : Car B w0 w1 p pm g (r.setA v) m := h.out.to ha hf (h.out.ok.setA (by rw [hv]; exact h.out.ok.old)) h.out.few
  exact k w1 hf hc hc.c6 hc.c7
theorem stB_step (h : Hid (Car B w0 w p pm g r m)) (hop : oi.op = .store 22 x y) (hN : oi.dst = none) (hg : oi.guard = none) (hp : a.eval x = .pointer (some ⟨p, 7, none⟩)) (hx : a.eval y = .int .u32 v) (hv : v = r.acc.old)
  (k : ∀ w1, Fr B p g w w1 → Hid (Car B w0 w1 p pm g (r.setB v) m) → w1.cell? ⟨p, 6, none⟩ = some (.int .u32 r.f.a) → w1.cell? ⟨p, 7, none⟩ = some (.int .u32 v) → wpList Tryz.prog ops Qx rest a w1) : wpList Tryz.prog ops Qx (oi :: rest) a w :=
 store_B hop hN hg hp hx h.out.at_ fun w1 ha hf => by
  have hc : Car B w0 w1 p pm g (r.setB v) m := h.out.to ha hf (h.out.ok.setB (by rw [hv]; exact h.out.ok.old)) h.out.few
  exact k w1 hf hc hc.c6 hc.c7
end
end
theorem start {o l : Int} (h : At B w p pm g r) (hO : Ok r) (hn : r.notes = []) (hop : r.f.op = o) (hln : r.f.line = l) :
  Hid (Car B w w p pm g r 0) ∧ w.cell? ⟨p, 4, none⟩ = some (.int .i64 o) ∧ w.cell? ⟨p, 5, none⟩ = some (.int .i64 l) ∧ w.cell? ⟨p, 6, none⟩ = some (.int .u32 r.f.a) ∧ w.cell? ⟨p, 7, none⟩ = some (.int .u32 r.f.b) :=
 ⟨⟨h, Fr.refl _ _ _ _, hO, by rw [hn]; exact Nat.le_refl 0⟩, h.cell 4 (fun _ => by rw [← hop]; rfl), h.cell 5 (fun _ => by rw [← hln]; rfl), h.cell 6 (fun _ => rfl), h.cell 7 (fun _ => rfl)⟩
theorem startbox {o l : Int} (h : At B w p pm g r) (hO : Ok r) (hn : r.notes = []) (hop : r.f.op = o) (hln : r.f.line = l) {cs : Array Value} {t : TypeId} {W : World} (hW : W = w.alloc (.cells cs t)) {b : Nat} (hb : b = w.heap.size) :
  Hid (Car B w W p pm g r 0) ∧ W.cell? ⟨p, 4, none⟩ = some (.int .i64 o) ∧ W.cell? ⟨p, 5, none⟩ = some (.int .i64 l) ∧ W.cell? ⟨p, 6, none⟩ = some (.int .u32 r.f.a) ∧ W.cell? ⟨p, 7, none⟩ = some (.int .u32 r.f.b) ∧ Hid (W.heap[b]? = some (.cells cs t (0, 0))) ∧ b ≠ p ∧ b ≠ g ∧ w.cell? ⟨p, 6, none⟩ = some (.int .u32 r.f.a) ∧ w.cell? ⟨p, 7, none⟩ = some (.int .u32 r.f.b) := by
 have ha : At B W p pm g r := by rw [hW]; exact h.alloc _
 have hlt := h.lt
 have hm := h.mem.lt
 refine ⟨⟨ha, by rw [hW]; exact (Fr.refl _ _ _ _).alloc _, hO, by rw [hn]; exact Nat.le_refl 0⟩, ha.cell 4 (fun _ => by rw [← hop]; rfl), ha.cell 5 (fun _ => by rw [← hln]; rfl), ha.cell 6 (fun _ => rfl), ha.cell 7 (fun _ => rfl), ?_, by omega, by omega, h.cell 6 (fun _ => rfl), h.cell 7 (fun _ => rfl)⟩
 show W.heap[b]? = _
 rw [hW, hb]
 exact heap_alloc_new _ _
theorem ahead_walk (a b : Int) (w : World) : Calls Tryz.prog 188 #[.int .u32 a, .int .u32 b] w fun e w' => e = .returned (.int .i64 (Stile.ahead a b)) ∧ w' = w := by
 go_enter Tryz.func188, Tryz.ntmps188
 go_wp2
 go_ret
 have e : wrap64 (wrap32 ((a - b) % 4294967296)) = Stile.ahead a b := by unfold wrap64 wrap32 Stile.ahead; omega
 exact ⟨by rw [← e]; rfl, rfl⟩
theorem ahead_eq {a b n : Int} (h : Stile.ahead a b = n) (w : World) : Calls Tryz.prog 188 #[.int .u32 a, .int .u32 b] w fun e w' => e = .returned (.int .i64 n) ∧ w' = w := by
 rw [← h]
 exact ahead_walk a b w
theorem Car.lt (h : Car B w1 w p pm g r 0) : p < w.heap.size ∧ g < w.heap.size := ⟨h.at_.lt, h.at_.mem.lt.2⟩
def notes_ (r : Run) (xs : List Int) : Run := xs.foldl (fun r w => r.note w 0) r
theorem notes_len (r : Run) (xs : List Int) : (notes_ r xs).notes.length = r.notes.length + xs.length := by
 induction xs generalizing r with
 | nil => rfl
 | cons x xs ih =>
  show (notes_ (r.note x 0) xs).notes.length = _
  rw [ih, n_note]
  simp
  omega
theorem notes_snoc (r : Run) (xs : List Int) (k : Nat) (hk : k < xs.length) : notes_ r (xs.take (k + 1)) = (notes_ r (xs.take k)).note (xs.getD k 0) 0 := by
 have : xs.take (k + 1) = xs.take k ++ [xs.getD k 0] := by
  rw [List.take_add_one, List.getElem?_eq_getElem hk]
  simp [List.getD_eq_getElem?_getD, List.getElem?_eq_getElem hk]
 rw [this]
 simp [notes_]
theorem ok_notes (h : Ok r) (xs : List Int) : Ok (notes_ r xs) := by
 induction xs generalizing r with
 | nil => exact h
 | cons x xs ih => exact ih (h.note x 0)
theorem ok_end (h : Ok r) (wk : Bool) (xs : List Int) : Ok (Rf.end_ r wk xs) := by
 show Ok ((if wk then (notes_ r xs).wake 0 else notes_ r xs).fin true)
 cases wk
 ·exact (ok_notes h xs).fin true
 ·exact ((ok_notes h xs).wake 0).fin true
theorem end_len (r : Run) (wk : Bool) (xs : List Int) : (Rf.end_ r wk xs).notes.length = r.notes.length + xs.length := by
 show ((if wk then (notes_ r xs).wake 0 else notes_ r xs).fin true).notes.length = _
 cases wk
 ·exact notes_len r xs
 ·exact notes_len r xs
end Go.Proofs.YtkmlefbdhdlfmaaGreat.Wo
