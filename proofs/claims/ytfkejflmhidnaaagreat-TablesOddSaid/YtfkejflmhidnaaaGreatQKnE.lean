import Derived.Test.YtfkejflmhidnaaaGreatQSmB
set_option linter.all false
namespace Go.Proofs.YtfkejflmhidnaaaGreat.PAll
open RowKit YtfkejflmhidnaaaGreatW.PrintWords YtfkejflmhidnaaaGreatW.PrintLast YtfkejflmhidnaaaGreatW.PrintMore
open Hp hiding Good
theorem litI (W : World) (b : Nat) (l : List Int) (cs : Array Value) (hcs : cs = (ints l).toArray) (h : W.heap[b]? = some (.cells cs 3 (0, 0))) (hl : l.length ≤ 1000000) : Kd.C (Kd.int .i64) W (some ⟨b, 0, none⟩) l.length l := by
 have hown : W.ownsRow 0 3 1 (.slice (some ⟨b, 0, none⟩) l.length l.length) l.length (ints l) := ⟨by simp [ints], .inr ⟨b, l.length, cs, rfl, by omega, h, Nat.le_refl _, Nat.le_trans hl (by decide), by rw [hcs]; simp [ints], by rw [hcs]; exact List.take_of_length_le (by simp [ints])⟩⟩
 have h1 : Kd.R (Kd.int .i64) 3 W 0 (fun _ => True) (.slice (some ⟨b, 0, none⟩) l.length l.length) l := Kd.R_of_own hown (fun _ _ => trivial)
 exact (Kd.R_reads' h1).2.2
end Go.Proofs.YtfkejflmhidnaaaGreat.PAll
