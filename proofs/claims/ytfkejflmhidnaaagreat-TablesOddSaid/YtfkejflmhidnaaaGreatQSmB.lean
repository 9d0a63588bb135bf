import Derived.Test.YtfkejflmhidnaaaGreatQPAllx0
import Derived.Test.YtfkejflmhidnaaaGreatQRcP
set_option linter.all false
namespace Go.Proofs.YtfkejflmhidnaaaGreat.PAll
open RowKit YtfkejflmhidnaaaGreatW.PrintWords YtfkejflmhidnaaaGreatW.PrintLast YtfkejflmhidnaaaGreatW.PrintMore
attribute [local go_sem] max2_int min2_int max_two min_two max_three min_three max_four min_four
-- NOT PRINTED: function 96 (hier_Hier_At)
end Go.Proofs.YtfkejflmhidnaaaGreat.PAll
namespace Go.Proofs.YtfkejflmhidnaaaGreat.PAll
open RowKit YtfkejflmhidnaaaGreatW.PrintWords YtfkejflmhidnaaaGreatW.PrintLast YtfkejflmhidnaaaGreatW.PrintMore
open Hp hiding Good
end Go.Proofs.YtfkejflmhidnaaaGreat.PAll
namespace Go.Proofs.YtfkejflmhidnaaaGreat.PAll
open RowKit YtfkejflmhidnaaaGreatW.PrintWords YtfkejflmhidnaaaGreatW.PrintLast YtfkejflmhidnaaaGreatW.PrintMore
attribute [local go_sem] max2_int min2_int max_two min_two max_three min_three max_four min_four
theorem eqA39 (d : Nat) (w : World) (x0 y0 : Int) (x1 y1 : Int) :
  (Op.equalIn (d + 2) 37 (.agg #[.int .i64 x0, .int .i64 x1]) (.agg #[.int .i64 y0, .int .i64 y1])).run Tryz.prog w = .ok (x0 == y0 && (x1 == y1)) w := by
 refine eqA_of Tryz.underlying37 (by kernel_rfl) ?_
 refine eqf_cons (by rfl) (by go_simp; rfl) (by go_simp; rfl) (by go_simp) ?_
 exact eqf_last (by rfl) (by go_simp; rfl) (by go_simp; rfl) (by go_simp)
attribute [local go_sem high] eqA39
end Go.Proofs.YtfkejflmhidnaaaGreat.PAll
namespace Go.Proofs.YtfkejflmhidnaaaGreat.PAll
open RowKit YtfkejflmhidnaaaGreatW.PrintWords YtfkejflmhidnaaaGreatW.PrintLast YtfkejflmhidnaaaGreatW.PrintMore
open Hp hiding Good
end Go.Proofs.YtfkejflmhidnaaaGreat.PAll
