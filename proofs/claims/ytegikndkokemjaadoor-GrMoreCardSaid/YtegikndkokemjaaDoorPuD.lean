import Derived.Test.YtegikndkokemjaaDoorPuA
namespace Go.Proofs.YtegikndkokemjaaDoor.PAll
open Go.RowKit Go.Proofs.YtegikndkokemjaaDoorW.PrintWords Go.Proofs.YtegikndkokemjaaDoorW.PrintLast Go.Proofs.YtegikndkokemjaaDoorW.PrintMore
open GrFn

theorem cutAt_cons_at (c : UInt8) (l : List UInt8) : cutAt c (c :: l) = [] :: cutAt c l := by rw [cutAt, if_pos rfl]

theorem cutAt_app (c : UInt8) : ∀ (a b : List UInt8), cutAt c (a ++ c :: b) = cutAt c a ++ cutAt c b
  | [], b => by rw [List.nil_append, cutAt_cons_at]; rfl
  | x :: a, b => by
    have ih := cutAt_app c a b
    rw [List.cons_append, cutAt, cutAt]
    split
    · rw [ih]; rfl
    · rw [ih]
      cases h : cutAt c a with
      | nil => exact absurd h (Split.cutAt_ne c a)
      | cons p q => rfl


end Go.Proofs.YtegikndkokemjaaDoor.PAll
