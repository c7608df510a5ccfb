/- How all stands: copies of the words and of the tasks. -/
import Derived.Test.YtkmlefbdhdlfmaaGreatNw
namespace Go.Proofs.YtkmlefbdhdlfmaaGreat.Wo
open Go.RowKit Go.Proofs.YtkmlefbdhdlfmaaGreatW.PrintWords Go.Proofs.YtkmlefbdhdlfmaaGreatW.PrintMore Go.Proofs.YtkmlefbdhdlfmaaGreatW.PrintLast
open Stile
set_option linter.unusedSimpArgs false
set_option linter.unusedVariables false
set_option maxRecDepth 100000
variable {w w1 w2 w0 V V1 : World} {a pm g t kf n b B p cap gc gt : Nat} {W : Stile.W} {l : List Int}
structure Wr (w : World) (g : Nat) (l : List Int) : Prop where
 row : ∃ cells : Array Value, w.heap[g]? = some (.cells cells 22 (0, 0)) ∧ ∀ i, i < l.length → cells[i]? = some (.int .u32 (l.getD i 0))
structure Sd (w : World) (gc gt : Nat) (W : Stile.W) : Prop where
 cells : Wr w gc W.l
 tasks : Tk w gt W.t.length (fun i j => taskV (W.t.getD i ⟨0, .zero⟩) j)
theorem Wr.lt (h : Wr w g l) : g < w.heap.size := by
 obtain ⟨c, hc, _⟩ := h.row
 exact blk_lt hc
theorem Wr.of_block (h : Wr w g l) (e : w1.heap[g]? = w.heap[g]?) : Wr w1 g l := by
 obtain ⟨c, hc, hr⟩ := h.row
 exact ⟨c, e.trans hc, hr⟩
theorem Wr.below (h : Wr w g l) (hb : Below w.heap.size w w1) : Wr w1 g l := h.of_block (hb.block g h.lt)
theorem Tk.below {f : Nat → Nat → Value} (h : Tk w t n f) (hb : Below w.heap.size w w1) : Tk w1 t n f := h.of_block (hb.block t h.lt)
theorem Sd.of_blocks (h : Sd w gc gt W) (h1 : w1.heap[gc]? = w.heap[gc]?) (h2 : w1.heap[gt]? = w.heap[gt]?) : Sd w1 gc gt W := ⟨h.cells.of_block h1, h.tasks.of_block h2⟩
theorem Sd.lt (h : Sd w gc gt W) : gc < w.heap.size ∧ gt < w.heap.size := ⟨h.cells.lt, h.tasks.lt⟩
theorem Sd.below (h : Sd w gc gt W) (hb : Below w.heap.size w w1) : Sd w1 gc gt W := ⟨h.cells.below hb, h.tasks.below hb⟩
theorem Wr.cell (h : Wr w g l) {i : Nat} (hi : i < l.length) : w.cell? ⟨g, i, none⟩ = some (.int .u32 (l.getD i 0)) := by
 obtain ⟨c, hc, hr⟩ := h.row
 exact cell_of_heap hc (hr i hi)
end Go.Proofs.YtkmlefbdhdlfmaaGreat.Wo
