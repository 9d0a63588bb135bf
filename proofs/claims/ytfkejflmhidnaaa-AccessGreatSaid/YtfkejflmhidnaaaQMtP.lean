import Derived.Test.YtfkejflmhidnaaaQClC
import Derived.Test.YtfkejflmhidnaaaQCmB
namespace Go.Proofs.Ytfkejflmhidnaaa.PAll
open Go.RowKit Go.Proofs.YtfkejflmhidnaaaW.PrintWords Go.Proofs.YtfkejflmhidnaaaW.PrintLast Go.Proofs.YtfkejflmhidnaaaW.PrintMore
open Hp hiding Good
set_option linter.unusedVariables false
set_option linter.unusedSimpArgs false

/-- query.Far, query.Where -/
def whereP (n : Nat) (h : HierP) (s t : Int) : Int × Int := meetP (aboveP n h s false) (aboveP n h t true)
def farP (n : Nat) (h : HierP) (s t : Int) : Int := (whereP n h s t).1
theorem far_bound {n : Nat} {wm : Int} {h : HierP} (hok : HOk n wm h) (hn : n ≤ 900) (s t : Int) : farP n h s t = -1 ∨ (0 ≤ farP n h s t ∧ farP n h s t ≤ 2305843009213693952) := by
  have := foldl_meet (m := 2305843009213693952) (commonP (aboveP n h s false) (aboveP n h t true)) (fun p hp => by
    obtain ⟨h1, h2, h3⟩ := commonP_mem _ _ p hp
    have a := aboveP_mem hok hn h1
    have b := aboveP_mem hok hn h2
    omega) (by omega) (-1, -1) (.inl rfl)
  rcases this with e | e
  · left; unfold farP whereP meetP; rw [e]
  · exact .inr ⟨e.2.1, e.2.2⟩
/-- access.Beats -/
def beatsP (n : Nat) (h : HierP) (back : Bool) (a b : S39) : Bool :=
  let d := if back = true then farP n h b.f0 a.f0 else farP n h a.f0 b.f0
  decide (d ≠ -1) && decide (a.f0 ≠ b.f0) && (decide (a.f1 + d < b.f1) || (decide (a.f1 + d = b.f1) && decide (a.f0 < b.f0)))
theorem beats_not {n : Nat} {wm : Int} {h : HierP} (hok : HOk n wm h) (hn : n ≤ 900) (back : Bool) (a b : S39) (h1 : beatsP n h back a b = true) (h2 : beatsP n h back b a = true) : False := by
  unfold beatsP at h1 h2
  simp only [Bool.and_eq_true, Bool.or_eq_true, decide_eq_true_eq] at h1 h2
  have f1 := far_bound hok hn a.f0 b.f0
  have f2 := far_bound hok hn b.f0 a.f0
  cases back
  · simp only [Bool.false_eq_true, if_false] at h1 h2
    omega
  · simp only [if_true] at h1 h2
    omega
theorem beats_self (n : Nat) (h : HierP) (back : Bool) (a : S39) : beatsP n h back a a = false := by
  unfold beatsP
  simp
end Go.Proofs.Ytfkejflmhidnaaa.PAll
