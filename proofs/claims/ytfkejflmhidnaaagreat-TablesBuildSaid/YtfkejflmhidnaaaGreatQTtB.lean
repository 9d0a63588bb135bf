import Derived.Test.YtfkejflmhidnaaaGreatQHpF
set_option linter.all false
namespace Go.Proofs.YtfkejflmhidnaaaGreat.PAll
open RowKit YW.PrintWords YW.PrintLast YW.PrintMore
open Hp hiding Good
end Go.Proofs.YtfkejflmhidnaaaGreat.PAll
