import Derived.Test.YtfkejflmhidnaaaGreatQZSlP
set_option linter.all false
namespace Go.Proofs.YtfkejflmhidnaaaGreat.PAll
open RowKit YtfkejflmhidnaaaGreatW.PrintWords YtfkejflmhidnaaaGreatW.PrintLast YtfkejflmhidnaaaGreatW.PrintMore
open Hp hiding Good
section
variable {n : Nat} {E0 : Int → Int → Int → Prop} {h : HierP}
theorem by_locals {k : Int} {s u : Nat} (hs : s < n) (hu : u < n) : (byP (buildT n h k) s u).2 = localP (subQ n h s k false) (subQ n h u k true) := by
 unfold byP
 rw [so_at k hs, si_at k hu]
 split
 ·rename_i e; rw [e]
 ·rename_i e; simp at e; rw [e]
theorem by_low {k : Int} {s u : Nat} (hs : s < n) (hu : u < n) (hl : (byP (buildT n h k) s u).2 = true) : (byP (buildT n h k) s u).1 = -1 ∧ rd h.rank (s : Int) < lowAt n k ∧ rd h.rank (u : Int) < lowAt n k := by
 have e := by_locals (h := h) (k := k) hs hu
 rw [hl] at e
 refine ⟨?_, ?_, ?_⟩
 ·unfold byP
  rw [so_at k hs, si_at k hu, if_pos e.symm]
 ·apply Classical.byContradiction
  intro hc
  rw [sub_top false hs (by omega)] at e
  simp [localP] at e
 ·apply Classical.byContradiction
  intro hc
  rw [sub_top true hu (by omega)] at e
  simp [localP] at e
theorem sums_mem (hok : HOk n 1125899906842624 h) (hn : n ≤ 20) (G : GrOk n h) (k : Int) {s u : Nat} (hs : s < n) (hu : u < n) (x : Int) : x ∈ sumsP (buildT n h k) (outP n h s (lowAt n k) false) (outP n h u (lowAt n k) true) ↔ ∃ p ∈ outP n h s (lowAt n k) false, ∃ q ∈ outP n h u (lowAt n k) true, 0 ≤ farP n h p.f0 q.f0 ∧ x = p.f1 + farP n h p.f0 q.f0 + q.f1 := by
 have key : ∀ p ∈ outP n h s (lowAt n k) false, ∀ q ∈ outP n h u (lowAt n k) true, ∀ y, sumE (buildT n h k) p q = some y ↔ 0 ≤ farP n h p.f0 q.f0 ∧ y = p.f1 + farP n h p.f0 q.f0 + q.f1 := fun p hp q hq y => by
  have h1 := (out_great hok hn G k hs hp).1
  have h2 := (out_great hok hn G k hu hq).1
  unfold sumE
  rw [dOf_at k h1 h2]
  have h3 := far_small hok hn p.f0 q.f0
  by_cases h4 : farP n h p.f0 q.f0 = -1
  ·rw [if_pos h4]
   constructor
   ·intro e; cases e
   ·intro e; omega
  ·rw [if_neg h4]
   constructor
   ·intro e; cases e; exact ⟨by omega, rfl⟩
   ·intro e; rw [e.2]
 unfold sumsP inS
 rw [List.mem_flatMap]
 constructor
 ·rintro ⟨p, hp, hx⟩
  obtain ⟨q, hq, hx⟩ := List.mem_filterMap.1 hx
  exact ⟨p, hp, q, hq, (key p hp q hq x).1 hx⟩
 ·rintro ⟨p, hp, q, hq, hx⟩
  exact ⟨p, hp, List.mem_filterMap.2 ⟨q, hq, (key p hp q hq x).2 hx⟩⟩
theorem loc_of {k : Int} {s u : Nat} (hx : ∃ m : Nat, (m : Int) ∈ (lowP n h s (lowAt n k) false).map (·.f0) ∧ (m : Int) ∈ (lowP n h u (lowAt n k) true).map (·.f0)) : localP (subQ n h s k false) (subQ n h u k true) = true := by
 obtain ⟨m, h1, h2⟩ := hx
 unfold localP
 rw [List.any_eq_true]
 exact ⟨_, h1, decide_eq_true h2⟩
theorem by_far (M : MH n E0 h) (hn : n ≤ 20) (G : GrOk n h) (k : Int) {s u : Nat} (hs : s < n) (hu : u < n) (hl : (byP (buildT n h k) s u).2 = false) : (byP (buildT n h k) s u).1 = farP n h s u := by
 have hok := M.ok
 have e := by_locals (h := h) (k := k) hs hu
 rw [hl] at e
 have e1 : (byP (buildT n h k) s u).1 = bestL (sumsP (buildT n h k) (outP n h s (lowAt n k) false) (outP n h u (lowAt n k) true)) := by
  unfold byP
  rw [so_at k hs, si_at k hu, if_neg (by rw [← e]; decide), out_at k hs, inn_at k hu]
 rw [e1]
 have hmem := sums_mem hok hn G k hs hu
 have hnn : ∀ x ∈ sumsP (buildT n h k) (outP n h s (lowAt n k) false) (outP n h u (lowAt n k) true), 0 ≤ x := sum_nn (gd_build hok hn G k) (gd_row (fun x hx => out_great hok hn G k hs hx)) (gd_row (fun x hx => out_great hok hn G k hu hx))
 have hbest : ∀ d, Wk E0 s u d → ∃ x ∈ sumsP (buildT n h k) (outP n h s (lowAt n k) false) (outP n h u (lowAt n k) true), x ≤ d := fun d hw => by
  rcases M.best (by omega) s u hs hu (lowAt n k) d hw with hx | ⟨p, hp, q, hq, q0, q1⟩
  ·have := loc_of (h := h) (k := k) (s := s) (u := u) hx
   rw [← e] at this
   cases this
  ·exact ⟨_, (hmem _).2 ⟨p, hp, q, hq, q0, rfl⟩, q1⟩
 have hfs := far_small hok hn s u
 rcases best_lst _ hnn with ⟨b, hno⟩ | ⟨hb, hle⟩
 ·rw [b]
  rcases hfs with hf | hf
  ·exact hf.symm
  ·obtain ⟨x, hx, _⟩ := hbest _ (M.ex.real s u hs hu hf.1)
   exact absurd hx (hno x)
 ·obtain ⟨p, hp, q, hq, q0, q1⟩ := (hmem _).1 hb
  have hw := M.through s u hs hu (lowAt n k) p q hp hq q0
  rw [← q1] at hw
  have h1 := M.ex.least s u hs hu _ hw
  obtain ⟨x, hx, hxd⟩ := hbest _ (M.ex.real s u hs hu h1.1)
  have := hle x hx
  omega
theorem by_none (M : MH n E0 h) (hn : n ≤ 20) (G : GrOk n h) {s u : Nat} (hs : s < n) (hu : u < n) (hl : (byP (buildT n h 0) s u).2 = false) : farP n h s u < 0 := by
 have hok := M.ok
 have e := by_locals (h := h) (k := 0) hs hu
 rw [hl] at e
 apply Classical.byContradiction
 intro hc
 rcases M.best (by omega) s u hs hu (lowAt n 0) _ (M.ex.real s u hs hu (by omega)) with hx | ⟨p, hp, q, hq, q0, q1⟩
 ·have := loc_of (h := h) (k := 0) (s := s) (u := u) hx
  rw [← e] at this
  cases this
 ·have h1 := (out_great hok hn G 0 hs hp).1
  have h2 : (greatP n h 0).length = 0 := none_build.1
  rw [List.length_eq_zero_iff.1 h2] at h1
  cases h1
theorem great_no (G : GrOk n h) {k : Int} {s : Nat} (hs : s < n) (hr : rd h.rank (s : Int) < lowAt n k) : idxP (buildT n h k).g (s : Int) = -1 := by
 refine idxP_no (fun hm => ?_)
 obtain ⟨v, hv, e, hr2⟩ := (G.mem k _).1 hm
 obtain rfl : v = s := by omega
 omega
theorem great_len {c : Nat} (hc : c ≤ n) : (buildT n h (c : Int)).g.length = c := by
 show (greatP n h (c : Int)).length = c
 rw [greatP_len, clip_nat hc]
end
end Go.Proofs.YtfkejflmhidnaaaGreat.PAll
