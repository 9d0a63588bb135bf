import Derived.Test.YtfkejflmhidnaaaGreatQZTuA
set_option linter.all false
namespace Go.Proofs.YtfkejflmhidnaaaGreat.PAll
open RowKit YW.PrintWords YW.PrintLast YW.PrintMore
theorem tbuild_card (W : World) (rA wA : Option Addr) (rc wc : Nat) (rank : List Int) (ways : List S71) (k : Int) (hr : Kd.C (Kd.int .i64) W rA rank.length rank) (hw : Kd.C k71 W wA ways.length ways) (_w : (Lit.int .i64 k).wf = true) :
  Calls Tryz.prog 6 #[.agg #[.slice rA rank.length rc, .slice wA ways.length wc], .int .i64 k] W fun r w' => r = .returned (.bool true) ∧ Below W.heap.size W w' :=
 tbuildlaw_walk W rA wA rc wc rank ways k hr hw
end Go.Proofs.YtfkejflmhidnaaaGreat.PAll
