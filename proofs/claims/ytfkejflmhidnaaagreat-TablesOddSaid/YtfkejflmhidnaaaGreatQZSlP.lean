import Derived.Test.YtfkejflmhidnaaaGreatQZSuP
import Derived.Test.YtfkejflmhidnaaaGreatQZPrB
set_option linter.all false
namespace Go.Proofs.YtfkejflmhidnaaaGreat.PAll
open RowKit YtfkejflmhidnaaaGreatW.PrintWords YtfkejflmhidnaaaGreatW.PrintLast YtfkejflmhidnaaaGreatW.PrintMore
open Hp hiding Good
section
variable {n : Nat} {wm : Int} {h : HierP}
end
theorem TabR.below {w w' : World} {b : Nat} {v : Value} {t : TabP} (h : TabR w b v t) (g : Below w.heap.size w w') : TabR w' b v t := by
 obtain ⟨vG, vF, vO, vI, vS, vT, e, h1, h2, h3, h4, h5, h6⟩ := h
 exact ⟨vG, vF, vO, vI, vS, vT, e, Kd.R_below h1 g, Kd.R_below h2 g, Kd.R_below h3 g, Kd.R_below h4 g, Kd.R_below h5 g, Kd.R_below h6 g⟩
theorem TabR.set {w : World} {b : Nat} {v : Value} {t : TabP} (h : TabR w b v t) {gt : Nat} {cells : Array Value} (hb : w.heap[gt]? = some (.cells cells 46 (0, 0))) (j : Nat) (u : Value) : TabR (w.setCell ⟨gt, j, none⟩ u) b v t := by
 obtain ⟨vG, vF, vO, vI, vS, vT, e, h1, h2, h3, h4, h5, h6⟩ := h
 exact ⟨vG, vF, vO, vI, vS, vT, e, Kd.R_set h1 hb (by decide) j u, Kd.R_set h2 hb (by decide) j u, Kd.R_set h3 hb (by decide) j u, Kd.R_set h4 hb (by decide) j u, Kd.R_set h5 hb (by decide) j u, Kd.R_set h6 hb (by decide) j u⟩
end Go.Proofs.YtfkejflmhidnaaaGreat.PAll
