import Derived.Test.YtfkejflmhidnaaaGreatQClC
import Derived.Test.YtfkejflmhidnaaaGreatQCmB
set_option linter.all false
namespace Go.Proofs.YtfkejflmhidnaaaGreat.PAll
open RowKit YtfkejflmhidnaaaGreatW.PrintWords YtfkejflmhidnaaaGreatW.PrintLast YtfkejflmhidnaaaGreatW.PrintMore
open Hp hiding Good
def whereP (n : Nat) (h : HierP) (s t : Int) : Int × Int := meetP (aboveP n h s false) (aboveP n h t true)
def farP (n : Nat) (h : HierP) (s t : Int) : Int := (whereP n h s t).1
theorem far_bound {n : Nat} {wm : Int} {h : HierP} (hok : HOk n wm h) (hn : n ≤ 900) (s t : Int) : farP n h s t = -1 ∨ (0 ≤ farP n h s t ∧ farP n h s t ≤ 2305843009213693952) := by
 have := foldl_meet (m := 2305843009213693952) (commonP (aboveP n h s false) (aboveP n h t true)) (fun p hp => by
  obtain ⟨h1, h2, h3⟩ := commonP_mem _ _ p hp
  have a := aboveP_mem hok hn h1
  have b := aboveP_mem hok hn h2
  omega) (by omega) (-1, -1) (.inl rfl)
 rcases this with e | e
 ·left; unfold farP whereP meetP; rw [e]
 ·exact .inr ⟨e.2.1, e.2.2⟩
def beatsP (n : Nat) (h : HierP) (back : Bool) (a b : S37) : Bool :=
 let d := if back = true then farP n h b.f0 a.f0 else farP n h a.f0 b.f0
 decide (d ≠ -1) && decide (a.f0 ≠ b.f0) && (decide (a.f1 + d < b.f1) || (decide (a.f1 + d = b.f1) && decide (a.f0 < b.f0)))
end Go.Proofs.YtfkejflmhidnaaaGreat.PAll
