/- From a row's listed tables to what the walks read of them. -/
import Derived.Test.YtejmbmhehbcflaaDoorAcc
import Derived.Test.YtejmbmhehbcflaaDoorRows
import Derived.Lib.TrailingZeros
namespace Go.Proofs.YtejmbmhehbcflaaDoor.Laid
open Go.Proofs.YtejmbmhehbcflaaDoor.Acc Go.Proofs.YtejmbmhehbcflaaDoor.Fu

theorem p10_of {W : World} (h : laidMetH Tryd.prog [("internal/strconv.uint64pow10", Rows.laid_internal_strconv_uint64pow10)] W) : Lib.TabIs Tryd.prog W "internal/strconv.uint64pow10" .u64 Lib.pow10Tab := by
  have h1 : laidMet Tryd.prog [("internal/strconv.uint64pow10", Lib.tabData .u64 Lib.pow10Tab)] W := (laidMetH_iff.1 h).1
  exact Lib.tabIs_of_head (g := 2) (t := 171) (e := 125) (n := 20) (by kernel_rfl) (by kernel_rfl) Tryd.underlying171 Tryd.underlying125 (by kernel_rfl) (by kernel_rfl) h1
theorem tz_of {W : World} (h : laidMetH Tryd.prog [("math/bits.deBruijn64tab", Rows.laid_math_bits_deBruijn64tab)] W) : Tz W := by
  have h1 : laidMet Tryd.prog [("math/bits.deBruijn64tab", Lib.tabData .u8 (Lib.deBruijn64tab.map (fun n : Nat => (n : Int))))] W := (laidMetH_iff.1 h).1
  have h2 := Lib.tabIs_of_head (g := 7) (t := 184) (e := 5) (n := 64) (by kernel_rfl) (by kernel_rfl) Tryd.underlying184 Tryd.underlying5 (by kernel_rfl) (by kernel_rfl) h1
  exact h2.cell (g := 7) (by kernel_rfl) 15 (by decide)
/-- The walks' tables, out of a row's list that has both. -/
theorem tabs_of {W : World} {l : List (String × DataW Unit)} (h : laidMetH Tryd.prog l W) (h1 : (l.filter fun x => x.1 == "internal/strconv.uint64pow10") = [("internal/strconv.uint64pow10", Rows.laid_internal_strconv_uint64pow10)])
    (h2 : (l.filter fun x => x.1 == "math/bits.deBruijn64tab") = [("math/bits.deBruijn64tab", Rows.laid_math_bits_deBruijn64tab)]) : Tabs W := by
  have a1 := h.filter (fun x => x.1 == "internal/strconv.uint64pow10")
  have a2 := h.filter (fun x => x.1 == "math/bits.deBruijn64tab")
  rw [h1] at a1
  rw [h2] at a2
  exact ⟨p10_of a1, tz_of a2⟩
end Go.Proofs.YtejmbmhehbcflaaDoor.Laid
