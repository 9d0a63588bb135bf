import Derived.Test.YtfkejflmhidnaaaGreatQZSaA
set_option linter.all false
namespace Go.Proofs.YtfkejflmhidnaaaGreat.PAll
open RowKit YW.PrintWords YW.PrintLast YW.PrintMore
theorem tsame_card (W : World) (a0 : TabAt) (t0 : TabP) (a1 : TabAt) (t1 : TabP) (h0 : TabC W a0 t0) (h1 : TabC W a1 t1) :
  Calls Tryz.prog 7 #[.agg (a0.cells t0), .agg (a1.cells t1)] W fun r w' => r = .returned (.bool true) ∧ Below W.heap.size W w' :=
 tsame_walk W a0 a1 t0 t1 h0 h1
end Go.Proofs.YtfkejflmhidnaaaGreat.PAll
