import Derived.Test.YtfkejflmhidnaaaGreatQZSlP
set_option linter.all false
namespace Go.Proofs.YtfkejflmhidnaaaGreat.PAll
open RowKit YtfkejflmhidnaaaGreatW.PrintWords YtfkejflmhidnaaaGreatW.PrintLast YtfkejflmhidnaaaGreatW.PrintMore
open Hp hiding Good
section
variable {n : Nat} {wm : Int} {h : HierP}
theorem lowAt_le (c : Nat) (hc : c < n) : lowAt n ((c : Int) + 1) ≤ lowAt n (c : Int) := by
 unfold lowAt clipP mx mn
 omega
theorem less_local (hok : HOk n wm h) (c : Nat) (hc : c < n) {s u : Nat} (hs : s < n) (hu : u < n) (hl : (byP (buildT n h ((c : Int) + 1)) s u).2 = true) : (byP (buildT n h (c : Int)) s u).2 = true := by
 have hloc : localP (rd_L5 (buildT n h ((c : Int) + 1)).so (s : Int)) (rd_L5 (buildT n h ((c : Int) + 1)).si (u : Int)) = true := by
  unfold byP at hl
  split at hl
  ·assumption
  ·cases hl
 rw [so_at _ hs, si_at _ hu] at hloc
 unfold byP
 rw [if_pos]
 rw [so_at _ hs, si_at _ hu]
 unfold localP at hloc ⊢
 rw [List.any_eq_true] at hloc ⊢
 obtain ⟨x, hx, hy⟩ := hloc
 have hy := of_decide_eq_true hy
 have l1 := low_sub hok s hs false _ _ (lowAt_le c hc)
 have l2 := low_sub hok u hu true _ _ (lowAt_le c hc)
 exact ⟨x, l1.subset hx, decide_eq_true (l2.subset hy)⟩
end
end Go.Proofs.YtfkejflmhidnaaaGreat.PAll
