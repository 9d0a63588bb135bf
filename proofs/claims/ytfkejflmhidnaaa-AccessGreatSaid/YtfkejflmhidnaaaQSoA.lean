import Derived.Test.YtfkejflmhidnaaaQClB
import Derived.Test.YtfkejflmhidnaaaShS
import Derived.Shelf.Sort.Plain
import Derived.Shelf.Slices.In.SortNone
import Derived.Sort.OwnSortedInts
namespace Go.Proofs.Ytfkejflmhidnaaa.PAll
open Go.RowKit Go.Shelf Go.Sort Go.Proofs.YtfkejflmhidnaaaW.PrintWords Go.Proofs.YtfkejflmhidnaaaW.PrintLast Go.Proofs.YtfkejflmhidnaaaW.PrintMore
open Hp hiding Good
set_option linter.unusedVariables false
set_option linter.unusedSimpArgs false

def sortP (l : List Int) : List Int := l.mergeSort fun x y => decide (x ≤ y)
theorem sortP_perm (l : List Int) : (sortP l).Perm l := List.mergeSort_perm _ _
theorem sortP_len (l : List Int) : (sortP l).length = l.length := (sortP_perm l).length_eq

/-- slices.Sort, of a row of the call's own -/
theorem sort_walk (w : World) (B : Nat) (v : Value) (l : List Int) (h : w.ownsRow B 3 1 v l.length (ints l)) (hl : l.length ≤ 1000000) :
    Calls Try.prog 44 #[v] w fun r w' => r = .returned (.tuple #[]) ∧ w'.ownsRow B 3 1 v l.length (ints (sortP l)) ∧ Only w w' (fun k => v.ownBlock = some k) := by
  have H := h
  obtain ⟨h1, h2⟩ := h
  rcases h2 with ⟨h2, h3⟩ | ⟨g, cap, cur, rfl, hb, hg, hnc, hcm, hcs, htake⟩
  · have hn : l = [] := List.eq_nil_of_length_eq_zero h3
    subst hn
    subst h2
    have hcon : Calls Try.prog 44 #[.slice none 0 0] w _ := calls_of_every_depth fun D => AnyS.slices_Sort_int_none_in Try.laysSort D none 0 w
    refine hcon.mono ?_
    rintro e w' ⟨rfl, rfl⟩
    refine ⟨rfl, ?_, Only.refl _ _⟩
    rw [show sortP [] = [] by simp [sortP]]
    exact H
  · have hH : Holds (Value.int .i64) w g 0 l.toArray := holds_of_blockI hg (by simpa [ints] using htake)
    have hcon := Any.slices_Sort_int Try.laysSort g 0 cap l w hH (blk_lt hg) (by omega)
    change Calls Try.prog 44 _ _ _ at hcon
    refine hcon.mono ?_
    rintro e w' ⟨rfl, n, os, rfl⟩
    refine ⟨rfl, ?_, ?_⟩
    · have := ownsRow_sortedI (os := os) (n := n) (ss := l) (ts := sortP l) (base := B) (sortP_len l) hb hg hnc hcm hcs
      exact this
    · exact (Only.of_grown (grownBy_sortedI (w := w) (g := g) (n := n) (os := os) (sortP l).toArray)).mono (fun k _ hk => by cases hk; rfl)
end Go.Proofs.Ytfkejflmhidnaaa.PAll
