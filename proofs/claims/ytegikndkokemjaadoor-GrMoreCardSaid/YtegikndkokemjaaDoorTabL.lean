import Derived.Test.YtegikndkokemjaaDoorRows
import Derived.Test.YtegikndkokemjaaDoorCards
import Derived.Lib.LaidTab
import Derived.Lib.ItoaNum
import Derived.ProofKit
import Derived.LaidMore
import Derived.Stop.Joined
namespace Go.Proofs.YtegikndkokemjaaDoor.TabL
open Go.ChangeShapes Go.WideShapes Go.ChangeAt Go.RowKit

/-- out of a row's list: the table that strconv.Itoa reads -/
theorem tab_of_laid {W : World} {l : List (String × DataW Unit)} (hl : l = Rows.grPrintsRow.laid) (h : laidMetH Tryd.prog l W) : Lib.TabIs Tryd.prog W "internal/strconv.uint64pow10" .u64 Lib.pow10Tab := by
  subst hl
  rw [MakeChecks.laidMetH_plain _ _ _ (by kernel_rfl)] at h
  obtain ⟨ps, ⟨g0, t0, cs0, f0, p0, q0, hg0, ht0, hv0, hd0, ⟨g1, t1, cs1, f1, p1, q1, hg1, ht1, hv1, hd1, ⟨g2, t2, cs2, f2, p2, q2, hg2, ht2, hv2, hd2, _⟩, _⟩, _⟩, _⟩ := h
  have hg : Tryd.prog.globalNamed "internal/strconv.uint64pow10" = some 5 := by kernel_rfl
  obtain rfl := Option.some.inj (hg.symm.trans hg2)
  have hty : (Tryd.prog.globals[5]?).map (·.type) = some 131 := by kernel_rfl
  obtain rfl := Option.some.inj (hty.symm.trans ht2)
  unfold Lib.TabIs
  rw [hv2, ← Lib.cells_of_tab Tryd.underlying131 Tryd.underlying106 (by kernel_rfl) (by kernel_rfl) (zs := Lib.pow10Tab) (k := .u64) hd2]
end Go.Proofs.YtegikndkokemjaaDoor.TabL
