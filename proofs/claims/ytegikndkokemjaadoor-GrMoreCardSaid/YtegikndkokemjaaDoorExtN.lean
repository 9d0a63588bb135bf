import Derived.Test.YtegikndkokemjaaDoorPAllx0
import Derived.Test.YtegikndkokemjaaDoorGrFn
import Derived.Test.YtegikndkokemjaaDoorNum
namespace Go.Proofs.YtegikndkokemjaaDoor.PAll
open Go.RowKit Go.Proofs.YtegikndkokemjaaDoorW.PrintWords Go.Proofs.YtegikndkokemjaaDoorW.PrintLast Go.Proofs.YtegikndkokemjaaDoorW.PrintMore
open GrFn

def gr_Number.f (a0 : ByteArray) (a1 : Int) : Option (Int × Bool) := some (((number a0.data.toList a1).getD 0), (number a0.data.toList a1).isSome)
theorem gr_Number.calls (a0 : ByteArray) (a1 : Int) (r1 : Int) (r2 : Bool) (w : World) (h : gr_Number.f a0 a1 = some (r1, r2)) :
    Calls Tryd.prog 16 #[.string a0, .int .i64 a1] w fun e w' => e = .returned (.tuple #[.int .i64 r1, .bool r2]) ∧ Below w.heap.size w w' := by
  simp only [gr_Number.f, Option.some.injEq, Prod.mk.injEq] at h
  obtain ⟨rfl, rfl⟩ := h
  exact Num.number_any a0 a1 w
end Go.Proofs.YtegikndkokemjaaDoor.PAll
