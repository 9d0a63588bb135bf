import Derived.Test.YtfkejflmhidnaaaGreatQZOdA
import Derived.Test.YtfkejflmhidnaaaGreatQArA
set_option linter.all false
namespace Go.Proofs.YtfkejflmhidnaaaGreat.PAll
open RowKit YtfkejflmhidnaaaGreatW.PrintWords YtfkejflmhidnaaaGreatW.PrintLast YtfkejflmhidnaaaGreatW.PrintMore
theorem todd_card (W : World) (a0 : Int) (A1 : Option Addr) (c1 : Nat) (l1 : List S85) (a2 a3 : Int) (_w0 : (Lit.int .i64 a0).wf = true) (hc1 : l1.length ≤ c1) (hC1 : Kd.C k85 W A1 l1.length l1) (w2 : (Lit.int .u8 a2).wf = true) (w3 : (Lit.int .u8 a3).wf = true) :
  Calls Tryz.prog 5 #[.int .i64 a0, .slice A1 l1.length c1, .int .u8 a2, .int .u8 a3] W fun r w' => r = .returned (.bool true) ∧ Below W.heap.size W w' :=
 todd_walk W a0 A1 c1 l1 hC1 hc1 a2 (u8_in w2).1 (u8_in w2).2 a3 (u8_in w3).1 (u8_in w3).2
end Go.Proofs.YtfkejflmhidnaaaGreat.PAll
