/- The example of the world's laws. -/
import Derived.Test.YtkmlefbdhdlfmaaGreatRn
namespace Go.Proofs.YtkmlefbdhdlfmaaGreat.Wo
open Go.RowKit Go.Proofs.YtkmlefbdhdlfmaaGreatW.PrintWords Go.Proofs.YtkmlefbdhdlfmaaGreatW.PrintMore Go.Proofs.YtkmlefbdhdlfmaaGreatW.PrintLast
open Stile
set_option linter.unusedSimpArgs false
set_option linter.unusedVariables false
set_option maxRecDepth 100000
variable {w w1 w2 w0 V V1 : World} {a pm g t kf n b B p cap gc gt : Nat} {W : Stile.W} {l : List (Int × Int)} {ok : Nat → Prop}
theorem below_bt (h : Below B w w1) (hb : Bt g t w1 w2) (hs : B ≤ w1.heap.size) (hg : B ≤ g) (ht : B ≤ t) : Below B w w2 :=
  ⟨hb.os.trans h.os, hb.tape.trans h.tape, hb.output.trans h.output, Nat.le_trans h.size hb.size, fun k hk => (hb.block k (Nat.lt_of_lt_of_le hk hs) (by omega) (by omega)).trans (h.block k hk)⟩
end Go.Proofs.YtkmlefbdhdlfmaaGreat.Wo
