/- The table, out of the row's premise. -/
import Derived.Test.YtfigcncaadknlaaDoorFp
import Derived.LaidMore
import Derived.Lib.LaidTab
namespace Go.Proofs.YtfigcncaadknlaaDoor
open Go.ChangeShapes Go.WideShapes Go.ChangeAt Go.WideMaps Go.WideElems Go.RowKit
set_option linter.unusedVariables false
theorem gPow : Tryd.prog.globalNamed "internal/strconv.uint64pow10" = some 1 := by kernel_rfl
theorem tPow : (Tryd.prog.globals[1]?).map (·.type) = some 62 := by kernel_rfl
theorem tab_of {W : World} (h : laidMetH Tryd.prog Rows.basisPointsRow.laid W) : Tab W := by
  rw [MakeChecks.laidMetH_plain _ _ _ (by kernel_rfl)] at h
  obtain ⟨ps, ⟨g0, t0, cs0, f0, p0, q0, _, _, _, _, ⟨g1, t1, cs1, f1, p1, q1, _, _, _, _, ⟨g2, t2, cs2, f2, p2, q2, hg2, ht2, hv2, hd2, _⟩, _⟩, _⟩, _, _⟩ := h
  obtain rfl := Option.some.inj (gPow.symm.trans hg2)
  obtain rfl := Option.some.inj (tPow.symm.trans ht2)
  unfold Tab Lib.TabIs
  rw [hv2, ← Lib.cells_of_tab (k := .u64) (zs := Lib.pow10Tab) (p := p2) Tryd.underlying62 Tryd.underlying22 (by kernel_rfl) (by kernel_rfl) hd2]
end Go.Proofs.YtfigcncaadknlaaDoor
