import Derived.Test.YtegikndkokemjaaDoorPAllx0
import Derived.Deep.Slices
import Derived.Deep.Fields
import Derived.ChangeSame
import Derived.Lib.SmallJoins
import Derived.OpenShut
namespace Go.Proofs.YtegikndkokemjaaDoor.PAll
open Go.RowKit Go.Proofs.YtegikndkokemjaaDoorW.PrintWords Go.Proofs.YtegikndkokemjaaDoorW.PrintLast Go.Proofs.YtegikndkokemjaaDoorW.PrintMore
open Go.Joins Go.ChangeShapes Go.WideShapes Go.Deep

section
variable {H : Type} {enc : TypeId × Value → H} {W : World}

/-- the fields of an arc that is read -/
def arcAt (W : World) (a : Addr) (i : Nat) (s : S50) : Prop :=
  W.cell? (a.add (i * 3)) = some (.int .i64 s.f0) ∧ W.cell? (a.add (i * 3 + 1)) = some (.int .i64 s.f1) ∧ W.cell? (a.add (i * 3 + 2)) = some (.int .i64 s.f2) ∧
  (Lit.int .i64 s.f0).wf = true ∧ (Lit.int .i64 s.f1).wf = true ∧ (Lit.int .i64 s.f2).wf = true

set_option maxRecDepth 100000 in
theorem open_arcs {fuel : Nat} {cs : List Value} {x : DataW H × List MemPlace} (h : DataW.trod enc Tryd.prog W 0 (fun _ => true) true fuel 23 cs = some x) :
    ∃ (A : Option Addr) (len cap : Nat) (l : List S50), cs = [.slice A len cap] ∧ l.length = len ∧ len ≤ cap ∧ cap ≤ maxLen ∧ Kd.C k50 W A len l ∧ ∀ s ∈ l, (Lit.int .i64 s.f0).wf = true ∧ (Lit.int .i64 s.f1).wf = true ∧ (Lit.int .i64 s.f2).wf = true := by
  rcases open_slice Tryd.underlying23 h with ⟨hcs, _⟩ | ⟨a, len, cap, m, n, D, Pl, hcs, hb, hl, hm, hmm, hx, hi⟩
  · exact ⟨none, 0, 0, [], hcs, rfl, Nat.le_refl _, by simp, ⟨rfl, by omega, fun h => absurd h (by omega)⟩, fun s hs => by cases hs⟩
  · have hm' : m = cap := by simpa using hmm
    have h3 : Tryd.prog.cellsOf 50 = 3 := by kernel_rfl
    have h1 : Tryd.prog.cellsOf 3 = 1 := by kernel_rfl
    have each : ∀ i, ∃ s : S50, i < len → arcAt W a i s := fun i => by
      by_cases hlt : i < len
      · obtain ⟨cs', hc, ht⟩ := hi i (by omega)
        rw [h3] at hc
        obtain ⟨y0, y1, y2, n', hy, hlen, f0, f1, f2⟩ := trod_struct3 Tryd.underlying50 ht
        obtain ⟨_, hcl, hat⟩ := World.cells?_some hc
        match cs', hcl with
        | [c0, c1, c2], _ =>
          simp only [h1] at f0 f1 f2
          obtain ⟨z0, e0, _, w0⟩ := DataW.trod_int Tryd.underlying3 f0
          obtain ⟨z1, e1, _, w1⟩ := DataW.trod_int Tryd.underlying3 f1
          obtain ⟨z2, e2, _, w2⟩ := DataW.trod_int Tryd.underlying3 f2
          simp at e0 e1 e2
          subst e0 e1 e2
          have g0 := hat 0 (by omega)
          have g1 := hat 1 (by omega)
          have g2 := hat 2 (by omega)
          rw [Go.Deep.add_add] at g0 g1 g2
          exact ⟨⟨z0, z1, z2⟩, fun _ => ⟨g0, g1, g2, w0, w1, w2⟩⟩
      · exact ⟨z50, fun h => absurd h hlt⟩
    obtain ⟨f, hf⟩ := Classical.axiomOfChoice each
    refine ⟨some a, len, cap, (List.range len).map f, hcs, by simp, hl, hm, ⟨by simp, ?_, fun _ => ⟨a, rfl, fun j p hj => ?_⟩⟩, fun s hs => ?_⟩
    · have : maxLen ≤ 9223372036854775807 := by decide
      omega
    · have hjl : j < len := by
        have := (List.getElem?_eq_some_iff.1 hj).1
        simpa using this
      have hp : f j = p := by
        rw [List.getElem?_map, List.getElem?_range hjl] at hj
        simpa using hj
      obtain ⟨g0, g1, g2, _⟩ := hf j hjl
      subst hp
      refine ⟨[.int .i64 (f j).f0, .int .i64 (f j).f1, .int .i64 (f j).f2], rfl, k50_mk W (f j), fun i u hu => ?_⟩
      match i, hu with
      | 0, hu => cases hu; exact g0
      | 1, hu => cases hu; exact g1
      | 2, hu => cases hu; exact g2
      | i + 3, hu => simp at hu
    · obtain ⟨j, hj, rfl⟩ := List.mem_map.1 hs
      obtain ⟨_, _, _, r⟩ := hf j (List.mem_range.1 hj)
      exact r


set_option maxRecDepth 100000 in
theorem open_map {r : Reach} {b0 : Nat} {v : Value} {d : DataW H} {p : List MemPlace} (hv : Value.okWide Tryd.prog W r b0 25 v) (h : DataW.Trod enc Tryd.prog W 0 (fun _ => true) true 25 v d p) :
    ∃ (n : Int) (A : Option Addr) (cap : Nat) (l : List S50), v = .agg #[.int .i64 n, .slice A l.length cap] ∧ (Lit.int .i64 n).wf = true ∧ l.length ≤ cap ∧ cap ≤ maxLen ∧ Kd.C k50 W A l.length l ∧ ∀ s ∈ l, (Lit.int .i64 s.f0).wf = true ∧ (Lit.int .i64 s.f1).wf = true ∧ (Lit.int .i64 s.f2).wf = true := by
  obtain ⟨v0, v1, y0, y1, n, rfl, _, _, t0, t1⟩ := open_agg2 Tryd.underlying25 (by kernel_rfl) (by kernel_rfl) hv h
  obtain ⟨z, e0, _, w0⟩ := DataW.trod_int Tryd.underlying3 t0
  obtain ⟨A, len, cap, l, e1, rfl, hl, hm, hC, hw⟩ := open_arcs t1
  simp at e0 e1
  subst e0 e1
  exact ⟨z, A, cap, l, rfl, w0, hl, hm, hC, hw⟩
end
end Go.Proofs.YtegikndkokemjaaDoor.PAll
