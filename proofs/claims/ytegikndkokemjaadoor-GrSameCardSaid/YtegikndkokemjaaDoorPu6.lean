import Derived.Test.YtegikndkokemjaaDoorPu1
import Derived.Test.YtegikndkokemjaaDoorPAllx8
import Derived.Test.YtegikndkokemjaaDoorOpn
namespace Go.Proofs.YtegikndkokemjaaDoor.PAll
open Go.RowKit Go.Proofs.YtegikndkokemjaaDoorW.PrintWords Go.Proofs.YtegikndkokemjaaDoorW.PrintLast Go.Proofs.YtegikndkokemjaaDoorW.PrintMore
open GrFn

theorem pure_same (a : Int) (l : List S50) (b : Int) (m : List S50) : postroadlaw05_GrSame.f 300 a l b m = some true := by
  unfold postroadlaw05_GrSame.f
  by_cases h1 : (l.length : Int) > 200
  · rw [if_pos h1, postroadlaw05_GrSame.j0, if_pos rfl, known_is 299 (by omega)]; rfl
  · rw [if_neg h1, postroadlaw05_GrSame.j0]
    by_cases h2 : (m.length : Int) > 200
    · rw [if_pos (by simpa using h2), known_is 299 (by omega)]; rfl
    · rw [if_neg (by simpa using h2), gr_same_is 299 a l b m (by omega) (by omega), ref_same_is 299 a l b m (by omega) (by omega), gr_same_is 299 a l a l (by omega) (by omega), same_refl, known_is 299 (by omega)]
      simp

theorem postroadlaw05_GrSame.walk (P : ∀ a l b m, postroadlaw05_GrSame.f 300 a l b m = some true) (a : Int) (A : Option Addr) (c : Nat) (l : List S50) (b : Int) (B : Option Addr) (d : Nat) (m : List S50) (w : World)
    (_ : (Lit.int .i64 a).wf = true) (_ : c ≤ maxLen) (hc : l.length ≤ c) (hC : Kd.C k50 w A l.length l) (_ : ∀ s ∈ l, (Lit.int .i64 s.f0).wf = true ∧ (Lit.int .i64 s.f1).wf = true ∧ (Lit.int .i64 s.f2).wf = true)
    (_ : (Lit.int .i64 b).wf = true) (_ : d ≤ maxLen) (hd : m.length ≤ d) (hD : Kd.C k50 w B m.length m) (_ : ∀ s ∈ m, (Lit.int .i64 s.f0).wf = true ∧ (Lit.int .i64 s.f1).wf = true ∧ (Lit.int .i64 s.f2).wf = true) :
    Calls Tryd.prog 4 #[.agg #[.int .i64 a, .slice A l.length c], .agg #[.int .i64 b, .slice B m.length d]] w fun e w' => e = .returned (.bool true) ∧ Below w.heap.size w w' :=
  postroadlaw05_GrSame.calls 300 a A c l b B d m true w hC hc hD hd (P a l b m)
end Go.Proofs.YtegikndkokemjaaDoor.PAll
