import Derived.Test.YtfkejflmhidnaaaGreatQZKwA
import Derived.Test.YtfkejflmhidnaaaGreatQArA
import Derived.Test.YtfkejflmhidnaaaGreatQAlA
set_option linter.all false
namespace Go.Proofs.YtfkejflmhidnaaaGreat.PAll
open RowKit YtfkejflmhidnaaaGreatW.PrintWords YtfkejflmhidnaaaGreatW.PrintLast YtfkejflmhidnaaaGreatW.PrintMore
open Hp hiding Good
theorem lowAt_nat {n c : Nat} (hc : c ≤ n) : lowAt n (c : Int) = (n : Int) - c := by
 unfold lowAt clipP mx mn
 (repeat' split) <;> omega
theorem clip_nat {n c : Nat} (hc : c ≤ n) : (clipP n (c : Int)).toNat = c := by
 unfold clipP mx mn
 (repeat' split) <;> omega
end Go.Proofs.YtfkejflmhidnaaaGreat.PAll
