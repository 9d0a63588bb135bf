import Derived.Test.YtegikndkokemjaaDoorRd9
namespace Go.Proofs.YtegikndkokemjaaDoor.PAll
open Go.RowKit Go.Proofs.YtegikndkokemjaaDoorW.PrintWords Go.Proofs.YtegikndkokemjaaDoorW.PrintLast Go.Proofs.YtegikndkokemjaaDoorW.PrintMore
open GrFn

theorem parse_any (s : ByteArray) (hs : s.size ≤ 2147483648) (w : World) :
    Calls Tryd.prog 11 #[.string s] w fun e w' => ParsePost (GrFn.parse (bytes s)) w e w' := by
  obtain ⟨en, hen⟩ : ∃ en, en = (GrFn.strip (bytes s)).2 := ⟨_, rfl⟩
  obtain ⟨s', hs'⟩ : ∃ s' : ByteArray, bytes s' = (GrFn.strip (bytes s)).1 := ⟨⟨(GrFn.strip (bytes s)).1.toArray⟩, rfl⟩
  have hz : s'.size ≤ 2147483648 := by
    have h1 : (bytes s').length ≤ (bytes s).length := by
      rw [hs']
      unfold GrFn.strip
      split <;> simp
    have h2 : (bytes s').length = s'.size := rfl
    have h3 : (bytes s).length = s.size := rfl
    omega
  cases hE : (s'.toList.isEmpty && !en) with
  | false => exact parse_main s hs s' en hs' hen hz hE w
  | true =>
    simp only [Bool.and_eq_true, Bool.not_eq_true'] at hE
    obtain ⟨h1, rfl⟩ := hE
    have : s' = ByteArray.empty := by
      rw [toList_eq] at h1
      have h2 : bytes s' = [] := by simpa using h1
      have h3 : s'.data = #[] := by
        apply Array.toList_inj.1
        exact h2
      cases s' with
      | mk d => simp only at h3; rw [h3]; rfl
    exact parse_empty s hs s' hs' hen hz (Lib.hid this) w

def gr_Parse.f (_k : Nat) (a0 : ByteArray) : Option (Int × List (S50) × Int × Int) :=
  if a0.size ≤ 2147483648 then
    match GrFn.parse (bytes a0) with
    | .inl m => some (m.n, m.arcs.map toS, 0, 0)
    | .inr at_ => some (0, [], 12, at_)
  else none
theorem gr_Parse.mono : ∀ a0 k, LeO (gr_Parse.f k a0) (gr_Parse.f (k + 1) a0) := fun _ _ => LeO.refl _
theorem gr_Parse.calls (k : Nat) (a0 : ByteArray) (r1 : Int) (r2 : List (S50)) (r3 : Int) (r4 : Int) (w : World) (h : gr_Parse.f k a0 = some (r1, r2, r3, r4)) :
    Calls Tryd.prog 11 #[.string a0] w fun e w' => ∃ v1_ : Value, e = .returned (.tuple #[.agg #[.int .i64 r1, v1_], .int .i64 r3, .int .i64 r4]) ∧ Kd.R k50 50 w' w.heap.size (fun _ => True) v1_ r2 ∧ Below w.heap.size w w' := by
  unfold gr_Parse.f at h
  split at h
  case isFalse => cases h
  case isTrue hs =>
    refine (parse_any a0 hs w).mono ?_
    intro e w' hp
    unfold ParsePost at hp
    cases hq : GrFn.parse (bytes a0) with
    | inl m =>
      rw [hq] at h hp
      simp only [Option.some.injEq, Prod.mk.injEq] at h
      obtain ⟨rfl, rfl, rfl, rfl⟩ := h
      obtain ⟨v, he, hR, hB⟩ := hp
      exact ⟨v, he, hR, hB⟩
    | inr i =>
      rw [hq] at h hp
      simp only [Option.some.injEq, Prod.mk.injEq] at h
      obtain ⟨rfl, rfl, rfl, rfl⟩ := h
      obtain ⟨he, hB⟩ := hp
      exact ⟨.slice none 0 0, he, Kd.R_nil _ _ _ _ _, hB⟩

end Go.Proofs.YtegikndkokemjaaDoor.PAll
