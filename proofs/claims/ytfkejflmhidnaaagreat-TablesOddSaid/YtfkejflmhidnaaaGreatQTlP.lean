import Derived.Test.YtfkejflmhidnaaaGreatQCxR
import Derived.Test.YtfkejflmhidnaaaGreatQFrP
set_option linter.all false
namespace Go.Proofs.YtfkejflmhidnaaaGreat.PAll
open RowKit YtfkejflmhidnaaaGreatW.PrintWords YtfkejflmhidnaaaGreatW.PrintLast YtfkejflmhidnaaaGreatW.PrintMore
open Hp hiding Good
def sideB (back : Bool) : Bool := if back = true then false else true
theorem edge_iff {n : Nat} {rank : List Int} {ways : List S71} (V : VH n rank ways) {top : Int} {back : Bool} {a b x : Int} :
  EdgeR rank ways top back a b x ↔ EdgeS n rank top (buildB rank ways n ways.length (sideB back)) a b x := by
 constructor
 ·rintro ⟨y, hy, rfl, rfl, rfl, ht, hr⟩
  obtain ⟨i, hi, ei⟩ := List.getElem_of_mem hy
  have hei : rd_T71 ways (i : Int) = y := by rw [rd66_get hi, ei]
  obtain ⟨k0, k1, k2, k3, _⟩ := V.ends y hy
  cases back with
  | false =>
   have ea : endA false y = y.f0 := rfl
   have eb : endB false y = y.f1 := rfl
   rw [ea] at ht hr ⊢
   rw [eb] at hr ⊢
   refine ⟨y.f0.toNat, by omega, by omega, by rw [show ((y.f0.toNat : Nat) : Int) = y.f0 by omega]; exact ht, ⟨y.f1, y.f2.f0, (i : Int)⟩, ?_, rfl, rfl⟩
   exact buildB_has rank ways n _ ways.length true y.f0.toNat (by omega) ⟨i, hi, rfl, by rw [hei], .inl ⟨rfl, by rw [hei]; exact hr, by rw [hei], by rw [hei]⟩⟩
  | true =>
   have ea : endA true y = y.f1 := rfl
   have eb : endB true y = y.f0 := rfl
   rw [ea] at ht hr ⊢
   rw [eb] at hr ⊢
   refine ⟨y.f1.toNat, by omega, by omega, by rw [show ((y.f1.toNat : Nat) : Int) = y.f1 by omega]; exact ht, ⟨y.f0, y.f2.f0, (i : Int)⟩, ?_, rfl, rfl⟩
   exact buildB_has rank ways n _ ways.length false y.f1.toNat (by omega) ⟨i, hi, rfl, by rw [hei], .inr ⟨rfl, by rw [hei]; omega, by rw [hei], by rw [hei]⟩⟩
 ·rintro ⟨v, rfl, hv, ht, e, he, rfl, rfl⟩
  cases back with
  | false =>
   obtain ⟨i, hi, _, e1, hr⟩ := buildB_mem rank ways n e ways.length true v he
   rcases hr with ⟨_, h1, h2, h3⟩ | ⟨hb, _⟩
   ·have hm := rd66_mem ways i hi
    have := V.ends _ hm
    have e4 : (rd_T71 ways (i : Int)).f0 = v := by omega
    exact ⟨_, hm, e4.symm, h3, e1, ht, by rw [h3, ← e4]; exact h1⟩
   ·cases hb
  | true =>
   obtain ⟨i, hi, _, e1, hr⟩ := buildB_mem rank ways n e ways.length false v he
   rcases hr with ⟨hb, _⟩ | ⟨_, h1, h2, h3⟩
   ·cases hb
   ·have hm := rd66_mem ways i hi
    have hE := V.ends _ hm
    have e4 : (rd_T71 ways (i : Int)).f1 = v := by omega
    refine ⟨_, hm, e4.symm, h3, e1, ht, ?_⟩
    rw [h3, ← e4]
    have hne : rd rank (rd_T71 ways (i : Int)).f0 ≠ rd rank (rd_T71 ways (i : Int)).f1 := fun h => by
     obtain ⟨p, hp⟩ := Int.eq_ofNat_of_zero_le hE.1
     obtain ⟨q, hq⟩ := Int.eq_ofNat_of_zero_le hE.2.2.1
     have := V.rinj p q (by omega) (by omega) (by rw [← hp, ← hq]; exact h)
     omega
    omega
theorem side_new (rank x : List Int) (ways : List S71) (n : Nat) (back : Bool) : (⟨rank, x, buildB rank ways n ways.length true, buildB rank ways n ways.length false⟩ : HierP).side back = buildB rank ways n ways.length (sideB back) := by
 cases back <;> rfl
theorem cl_eq {n : Nat} {rank : List Int} {ways : List S71} (V : VH n rank ways) {top : Int} {back : Bool} {s : Nat} (hs : s < n) {d : List Int} (h : RowOk n (EdgeR rank ways top back) s d) (at' : List Int) (x : Nat) (hx : x < n) :
  ofRow d (x : Int) = climbF n rank top ((⟨rank, at', buildB rank ways n ways.length true, buildB rank ways n ways.length false⟩ : HierP).side back) s (x : Int) := by
 have hok := hok_new V at'
 have hup := hok.sides back
 rw [side_new] at hup ⊢
 have hw0 := hok.wm0
 cases hc : climbF n rank top (buildB rank ways n ways.length (sideB back)) s (x : Int) with
 | some y =>
  have h1 := (climb_real hup hw0 s hs hc).imp (fun _ _ _ g => (edge_iff V).2 g)
  obtain ⟨h2, h3⟩ := h.least h1
  obtain ⟨y', hy', h4⟩ := climb_least hup hw0 s hs ((h.snd x hx h2).imp (fun _ _ _ g => (edge_iff V).1 g))
  rw [hc] at hy'
  cases hy'
  unfold ofRow
  rw [if_pos h2, show rd d (x : Int) = y by omega]
 | none =>
  unfold ofRow
  by_cases h2 : 0 ≤ rd d (x : Int)
  ·obtain ⟨y', hy', h4⟩ := climb_least hup hw0 s hs ((h.snd x hx h2).imp (fun _ _ _ g => (edge_iff V).1 g))
   rw [hc] at hy'
   cases hy'
  ·rw [if_neg h2]
theorem meet_eq {a b : List S37} (ha : a.Pairwise (fun p q => p.f0 < q.f0)) (hb : b.Pairwise (fun p q => p.f0 < q.f0)) (ma : MRow a) (mb : MRow b) {x y : Int} (h : MInv a b a.length b.length a.length 0 x y) : x = (meetP a b).1 := by
 have hl : ∀ p ∈ commonP a b, 0 ≤ p.1.f0 ∧ 0 ≤ p.1.f1 ∧ 0 ≤ p.2.f1 ∧ p.1.f1 + p.2.f1 ≤ 2305843009213693952 := fun p hp => by
  obtain ⟨h1, h2, h3⟩ := commonP_mem _ _ p hp
  have := ma _ h1
  have := mb _ h2
  omega
 obtain ⟨f1, _, f3⟩ := foldl_least (commonP a b) hl (by omega) (-1, -1) (.inl rfl)
 have seen : ∀ p q, p < a.length → q < b.length → SeenM b.length a.length 0 p q := fun p q h1 h2 => .inl ⟨h1, h2⟩
 have get : ∀ (l : List S37) (i : Nat) (hi : i < l.length), rd_T37 l (i : Int) = l[i] := fun l i hi => by simp [rd_T37, List.getD, hi]
 have has : ∀ p q, p < a.length → q < b.length → ComM a b p q → (rd_T37 a (p : Int), rd_T37 b (q : Int)) ∈ commonP a b := fun p q h1 h2 hc =>
  commonP_has a b _ _ ha hb (rd39_mem a p h1) (rd39_mem b q h2) hc
 have back : ∀ pr ∈ commonP a b, ∃ p q, p < a.length ∧ q < b.length ∧ ComM a b p q ∧ sumM a b p q = pr.1.f1 + pr.2.f1 := fun pr hp => by
  obtain ⟨h1, h2, h3⟩ := commonP_mem _ _ pr hp
  obtain ⟨p, hp, e1⟩ := List.getElem_of_mem h1
  obtain ⟨q, hq, e2⟩ := List.getElem_of_mem h2
  refine ⟨p, q, hp, hq, ?_, ?_⟩
  ·unfold ComM; rw [get a p hp, get b q hq, e1, e2]; exact h3
  ·unfold sumM; rw [get a p hp, get b q hq, e1, e2]
 have hm : (meetP a b) = (commonP a b).foldl meetS (-1, -1) := rfl
 rw [hm]
 rcases h with ⟨⟨_, rfl⟩, h1⟩ | ⟨_, ⟨p, q, hp, hq, hc, rfl⟩, h2⟩
 ·rcases f3 with f3 | ⟨pr, hpr, _⟩
  ·rw [f3]
  ·obtain ⟨p, q, hp, hq, hc, _⟩ := back pr hpr
   exact absurd hc (h1 p q hp (seen p q hp hq))
 ·have g1 := f1 _ (has p q hp hq hc)
  rcases f3 with f3 | ⟨pr, hpr, e⟩
  ·have hne : commonP a b ≠ [] := fun e => by have := has p q hp hq hc; rw [e] at this; simp at this
   exfalso
   cases hcc : commonP a b with
   | nil => exact hne hcc
   | cons c l =>
    have hl' : ∀ p ∈ l, 0 ≤ p.1.f0 ∧ 0 ≤ p.1.f1 ∧ 0 ≤ p.2.f1 ∧ p.1.f1 + p.2.f1 ≤ 2305843009213693952 := fun p hp => hl p (by rw [hcc]; simp [hp])
    have hc0 := hl c (by rw [hcc]; simp)
    have hw : IntKind.i64.wrap (c.1.f1 + c.2.f1) = c.1.f1 + c.2.f1 := i64w rfl (by omega) (by omega)
    rw [hcc, List.foldl_cons] at f3
    have e0 : meetS (-1, -1) c = (c.1.f1 + c.2.f1, c.1.f0) := by unfold meetS; rw [if_pos (.inl rfl), hw]
    rw [e0] at f3
    have := foldl_meet l hl' (by omega) (c.1.f1 + c.2.f1, c.1.f0) (.inr ⟨hc0.1, by simp only; omega, by simp only; omega⟩)
    rw [f3] at this
    rcases foldl_least l hl' (by omega) (c.1.f1 + c.2.f1, c.1.f0) (.inr hc0.1) with ⟨_, _, g3⟩
    rcases g3 with g3 | ⟨z, hz, g3⟩
    ·rw [f3] at g3
     have := congrArg Prod.fst g3
     simp only at this
     omega
    ·rw [f3] at g3
     have := hl' z hz
     simp only at g3
     omega
  ·obtain ⟨p', q', hp', hq', hc', e'⟩ := back pr hpr
   have := h2 p' q' hp' (seen p' q' hp' hq') hc'
   simp only at g1
   unfold sumM at *
   omega
end Go.Proofs.YtfkejflmhidnaaaGreat.PAll
