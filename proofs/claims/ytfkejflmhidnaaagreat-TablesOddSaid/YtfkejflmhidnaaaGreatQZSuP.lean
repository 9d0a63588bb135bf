import Derived.Test.YtfkejflmhidnaaaGreatQZKwA
import Derived.Test.YtfkejflmhidnaaaGreatQZQtA
set_option linter.all false
namespace Go.Proofs.YtfkejflmhidnaaaGreat.PAll
open RowKit YtfkejflmhidnaaaGreatW.PrintWords YtfkejflmhidnaaaGreatW.PrintLast YtfkejflmhidnaaaGreatW.PrintMore
open Hp hiding Good
structure RowGd (t : TabP) (r : List S37) : Prop where
 ix : ∀ x ∈ r, ∃ i : Nat, i < t.g.length ∧ idxP t.g x.f0 = i
 sm : ∀ x ∈ r, 0 ≤ x.f1 ∧ x.f1 ≤ 1152921504606846976
structure TabGd (t : TabP) : Prop where
 asc : t.g.Pairwise (fun a b => a < b)
 far : t.far.length = t.g.length
 row : ∀ i : Nat, i < t.g.length → (rd_L5 t.far (i : Int)).length = t.g.length
 num : ∀ i j : Nat, i < t.g.length → j < t.g.length → -1 ≤ rd (rd_L5 t.far (i : Int)) (j : Int) ∧ rd (rd_L5 t.far (i : Int)) (j : Int) ≤ 1152921504606846976
 out : ∀ r ∈ t.out, RowGd t r
 inn : ∀ r ∈ t.inn, RowGd t r
 sip : ∀ r ∈ t.si, r.Pairwise (fun a b => a < b)
variable {n : Nat} {wm : Int} {h : HierP}
theorem gd_row {k : Int} {r : List S37} (hr : ∀ x ∈ r, x.f0 ∈ greatP n h k ∧ 0 ≤ x.f1 ∧ x.f1 ≤ 23643898043695104) : RowGd (buildT n h k) r := by
 refine ⟨fun x hx => ?_, fun x hx => by have := hr x hx; omega⟩
 have hm := (hr x hx).1
 exact ⟨(greatP n h k).idxOf x.f0, List.idxOf_lt_length_of_mem hm, by unfold idxP; exact if_pos hm⟩
theorem gd_build (hok : HOk n wm h) (hn : n ≤ 20) (G : GrOk n h) (k : Int) : TabGd (buildT n h k) := by
 have hrow : ∀ i : Nat, (hi : i < (greatP n h k).length) → rd_L5 (tableP n h (greatP n h k) (greatP n h k)) (i : Int) = (greatP n h k).map (fun t => farP n h (greatP n h k)[i] t) := fun i hi => by
  have hlen : (tableP n h (greatP n h k) (greatP n h k)).length = (greatP n h k).length := by simp [tableP]
  rw [rdL5_get (by omega)]; simp [tableP]
 refine ⟨G.asc k, by show (tableP n h _ _).length = _; simp [tableP]; rfl, fun i hi => ?_, fun i j hi hj => ?_, fun r hr => ?_, fun r hr => ?_, fun r hr => ?_⟩
 ·exact (congrArg List.length (hrow i hi)).trans (by simp; rfl)
 ·change i < (greatP n h k).length at hi
  change j < (greatP n h k).length at hj
  have e : rd (rd_L5 (buildT n h k).far (i : Int)) (j : Int) = farP n h (greatP n h k)[i] (greatP n h k)[j] := by
   refine (congrArg (fun r => rd r (j : Int)) (hrow i hi)).trans ?_
   show rd _ (j : Int) = _
   rw [rd_get (by simpa using hj), List.getElem_map]
  rw [e]
  have := far_small hok hn (greatP n h k)[i] (greatP n h k)[j]
  omega
 ·obtain ⟨v, hv, rfl⟩ := List.mem_map.1 hr
  exact gd_row (fun x hx => out_great hok hn G k (List.mem_range.1 hv) hx)
 ·obtain ⟨v, hv, rfl⟩ := List.mem_map.1 hr
  exact gd_row (fun x hx => out_great hok hn G k (List.mem_range.1 hv) hx)
 ·obtain ⟨v, hv, rfl⟩ := List.mem_map.1 hr
  exact sub_pair v k true
end Go.Proofs.YtfkejflmhidnaaaGreat.PAll
