import Derived.Test.YtfkejflmhidnaaaQHpF
set_option linter.all false
namespace Go.Proofs.Ytfkejflmhidnaaa.PAll
open Go.RowKit Go.Proofs.YtfkejflmhidnaaaW.PrintWords Go.Proofs.YtfkejflmhidnaaaW.PrintLast Go.Proofs.YtfkejflmhidnaaaW.PrintMore
open Hp hiding Good
end Go.Proofs.Ytfkejflmhidnaaa.PAll
