import Derived.Test.YtfkejflmhidnaaaQPrA
import Derived.Test.YtfkejflmhidnaaaQFtC
set_option linter.all false
namespace Go.Proofs.Ytfkejflmhidnaaa.PAll
open Go.RowKit Go.Proofs.YtfkejflmhidnaaaW.PrintWords Go.Proofs.YtfkejflmhidnaaaW.PrintLast Go.Proofs.YtfkejflmhidnaaaW.PrintMore
open Hp hiding Good
attribute [local go_sem] max2_int min2_int max_two min_two max_three min_three max_four min_four
end Go.Proofs.Ytfkejflmhidnaaa.PAll
