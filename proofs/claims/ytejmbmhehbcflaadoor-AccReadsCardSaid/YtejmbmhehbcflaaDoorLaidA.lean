/- From a row's listed variables, and the world's shape, to what the walks over Atoi and Split ask. -/
import Derived.Test.YtejmbmhehbcflaaDoorLaid
import Derived.Test.YtejmbmhehbcflaaDoorAtoA
import Derived.Stop.LaidErr
import Derived.Shelf.Vars
namespace Go.Proofs.YtejmbmhehbcflaaDoor.Laid
open Go.Proofs.YtejmbmhehbcflaaDoor.Note Go.Shelf Go.RowKit

theorem star : "*" ++ "errors.errorString" = "*errors.errorString" := by decide
theorem rowP (u : TypeId) (h : Tryd.prog.typeName? 3 u = some "*errors.errorString") : u = 174 :=
  typeName_ptr_named (nm := "errors.errorString") (by rw [star]; kernel_rfl) (by kernel_rfl) (by decide) u (by rw [star]; exact h)
theorem syn_of {W : World} (h : laidMetH Tryd.prog [("strconv.ErrSyntax", Rows.laid_strconv_ErrSyntax)] W) : ∃ tp p, W.var? Tryd.prog "strconv.ErrSyntax" = some #[.iface tp p] := by
  have h1 : laidMet Tryd.prog [("strconv.ErrSyntax", Rows.laid_strconv_ErrSyntax)] W := (laidMetH_iff.1 h).1
  obtain ⟨a0, s0, hv0, -, -, -⟩ := laid_sentinel (r := []) h1 (g := 0) (ti := 105) (tp := 174) (by kernel_rfl) (by kernel_rfl) Tryd.underlying105 rowP Tryd.underlying174 Tryd.underlying176 rfl rfl Tryd.underlying9 (by kernel_rfl) (by kernel_rfl)
  exact ⟨_, _, hv0⟩
theorem rng_of {W : World} (h : laidMetH Tryd.prog [("strconv.ErrRange", Rows.laid_strconv_ErrRange)] W) : ∃ tp p, W.var? Tryd.prog "strconv.ErrRange" = some #[.iface tp p] := by
  have h1 : laidMet Tryd.prog [("strconv.ErrRange", Rows.laid_strconv_ErrRange)] W := (laidMetH_iff.1 h).1
  obtain ⟨a0, s0, hv0, -, -, -⟩ := laid_sentinel (r := []) h1 (g := 1) (ti := 105) (tp := 174) (by kernel_rfl) (by kernel_rfl) Tryd.underlying105 rowP Tryd.underlying174 Tryd.underlying176 rfl rfl Tryd.underlying9 (by kernel_rfl) (by kernel_rfl)
  exact ⟨_, _, hv0⟩
/-- What Atoi and Split ask, out of a row's list that has both errors and the world's shape. -/
theorem vars_of {W : World} {l : List (String × DataW Unit)} (hsh : W.ShapedOpen Tryd.prog) (h : laidMetH Tryd.prog l W)
    (h1 : (l.filter fun x => x.1 == "strconv.ErrSyntax") = [("strconv.ErrSyntax", Rows.laid_strconv_ErrSyntax)])
    (h2 : (l.filter fun x => x.1 == "strconv.ErrRange") = [("strconv.ErrRange", Rows.laid_strconv_ErrRange)]) : Vars W := by
  have a1 := h.filter (fun x => x.1 == "strconv.ErrSyntax")
  have a2 := h.filter (fun x => x.1 == "strconv.ErrRange")
  rw [h1] at a1
  rw [h2] at a2
  exact ⟨cell_of_shapedOpen_int (P := Tryd.prog) (g := 3) (t := 3) (zero := #[.int .i64 0]) hsh (of_decide_eq_true (by kernel_rfl)) (by kernel_rfl) rfl (by kernel_rfl) (by kernel_rfl) Tryd.underlying3, syn_of a1, rng_of a2⟩
end Go.Proofs.YtejmbmhehbcflaaDoor.Laid
