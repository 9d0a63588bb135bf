-- Out of a doctored print of this seat's translation, by a program (wip/gr/run.sh, doctor.py, post.py). Lean checks it.
import Derived.Test.YtegikndkokemjaaDoorPAllx0
import Derived.Test.YtegikndkokemjaaDoorPAllx2
import Derived.Test.YtegikndkokemjaaDoorPAllx3
namespace Go.Proofs.YtegikndkokemjaaDoor.PAll
open Go.RowKit Go.Proofs.YtegikndkokemjaaDoorW.PrintWords Go.Proofs.YtegikndkokemjaaDoorW.PrintLast Go.Proofs.YtegikndkokemjaaDoorW.PrintMore
attribute [local go_sem] max2_int min2_int max_two min_two max_three min_three max_four min_four   -- for this text's walks alone
set_option linter.unusedVariables false
set_option linter.unusedSimpArgs false


end Go.Proofs.YtegikndkokemjaaDoor.PAll
