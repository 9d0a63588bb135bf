import Derived.Test.YtfkejflmhidnaaaGreatQRcP
set_option linter.all false
namespace Go.Proofs.YtfkejflmhidnaaaGreat.PAll
open RowKit YtfkejflmhidnaaaGreatW.PrintWords YtfkejflmhidnaaaGreatW.PrintLast YtfkejflmhidnaaaGreatW.PrintMore
open Hp hiding Good
theorem rank_cell {w W : World} {rA : Option Addr} {rank : List Int} (hr : Kd.C (Kd.int .i64) w rA rank.length rank) (g : Below w.heap.size w W) (v : Int) (h0 : 0 ≤ v) (h1 : v < rank.length) :
  ∃ ad, rA = some ad ∧ W.cell? (ad.add v.toNat) = some (.int .i64 (rd rank v)) := by
 obtain ⟨ad, e, hc⟩ := Kd.at_int (Kd.C_below hr g) v h0 h1
 exact ⟨ad, e, hc⟩
structure HBx (w W : World) (s1 s2 : Value) : Prop where
 B0 : W.heap[w.heap.size]? = some (.cells #[s1, s2] 31 (0, 0))
 bel : Below w.heap.size w W
theorem HBx.below {w W W' : World} {s1 s2 : Value} (h : HBx w W s1 s2) (g : Below W.heap.size W W') : HBx w W' s1 s2 :=
 ⟨(g.block _ (blk_lt h.B0)).trans h.B0, h.bel.trans (g.mono h.bel.size)⟩
theorem HBx.cells {w W : World} {s1 s2 : Value} (h : HBx w W s1 s2) : W.cell? ⟨w.heap.size, 0, none⟩ = some s1 ∧ W.cell? ⟨w.heap.size, 1, none⟩ = some s2 ∧ w.heap.size < W.heap.size :=
 ⟨(blk_cell h.B0 0).trans rfl, (blk_cell h.B0 1).trans rfl, blk_lt h.B0⟩
theorem HBx.new (w : World) (s1 s2 : Value) : HBx w (w.alloc (.cells #[s1, s2] 31)) s1 s2 := ⟨blk_new w _, (Below.refl _ _).alloc (Nat.le_refl _) _⟩
end Go.Proofs.YtfkejflmhidnaaaGreat.PAll
