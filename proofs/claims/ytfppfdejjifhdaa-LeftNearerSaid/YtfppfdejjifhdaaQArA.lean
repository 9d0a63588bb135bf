import Derived.Test.YtfppfdejjifhdaaQHpF
import Derived.Deep.Slices
import Derived.Deep.Fields
import Derived.ChangeSame
import Derived.Lib.SmallJoins
import Derived.OpenShut
namespace Go.Proofs.Ytfppfdejjifhdaa.PAll
open Go.RowKit Go.Proofs.YtfppfdejjifhdaaW.PrintWords Go.Proofs.YtfppfdejjifhdaaW.PrintLast Go.Proofs.YtfppfdejjifhdaaW.PrintMore
open Go.Joins Go.ChangeShapes Go.WideShapes Go.Deep
set_option linter.unusedVariables false
set_option linter.unusedSimpArgs false

section
variable {H : Type} {enc : TypeId × Value → H} {W : World}

/-- the fields of an arc that is read -/
def arcAt (W : World) (a : Addr) (i : Nat) (s : S42) : Prop :=
  W.cell? (a.add (i * 3)) = some (.int .i64 s.f0) ∧ W.cell? (a.add (i * 3 + 1)) = some (.int .i64 s.f1) ∧ W.cell? (a.add (i * 3 + 2)) = some (.int .i64 s.f2)
set_option maxRecDepth 100000 in
theorem open_arcs {fuel : Nat} {cs : List Value} {x : DataW H × List MemPlace} (h : DataW.trod enc Try.prog W 0 (fun _ => true) true fuel 22 cs = some x) :
    ∃ (A : Option Addr) (cap : Nat) (l : List S42), cs = [.slice A l.length cap] ∧ l.length ≤ cap ∧ Kd.C k42 W A l.length l := by
  rcases open_slice Try.underlying22 h with ⟨hcs, _⟩ | ⟨a, len, cap, m, n, D, Pl, hcs, hb, hl, hm, hmm, hx, hi⟩
  · exact ⟨none, 0, [], hcs, Nat.le_refl _, ⟨rfl, by simp, fun h => absurd h (by simp)⟩⟩
  · have hm' : m = cap := by simpa using hmm
    have h3 : Try.prog.cellsOf 42 = 3 := by kernel_rfl
    have h1 : Try.prog.cellsOf 3 = 1 := by kernel_rfl
    have each : ∀ i, ∃ s : S42, i < len → arcAt W a i s := fun i => by
      by_cases hlt : i < len
      · obtain ⟨cs', hc, ht⟩ := hi i (by omega)
        rw [h3] at hc
        obtain ⟨y0, y1, y2, n', hy, hlen, f0, f1, f2⟩ := trod_struct3 Try.underlying42 ht
        obtain ⟨_, hcl, hat⟩ := World.cells?_some hc
        match cs', hcl with
        | [c0, c1, c2], _ =>
          simp only [h1] at f0 f1 f2
          obtain ⟨z0, e0, _, w0⟩ := DataW.trod_int Try.underlying3 f0
          obtain ⟨z1, e1, _, w1⟩ := DataW.trod_int Try.underlying3 f1
          obtain ⟨z2, e2, _, w2⟩ := DataW.trod_int Try.underlying3 f2
          simp at e0 e1 e2
          subst e0 e1 e2
          have g0 := hat 0 (by omega)
          have g1 := hat 1 (by omega)
          have g2 := hat 2 (by omega)
          rw [Go.Deep.add_add] at g0 g1 g2
          exact ⟨⟨z0, z1, z2⟩, fun _ => ⟨g0, g1, g2⟩⟩
      · exact ⟨z42, fun h => absurd h hlt⟩
    obtain ⟨f, hf⟩ := Classical.axiomOfChoice each
    have hlen : ((List.range len).map f).length = len := by simp
    refine ⟨some a, cap, (List.range len).map f, by rw [hlen]; exact hcs, by omega, ⟨rfl, ?_, fun _ => ⟨a, rfl, fun j p hj => ?_⟩⟩⟩
    · have : maxLen ≤ 9223372036854775807 := by decide
      omega
    · have hjl : j < len := by
        have := (List.getElem?_eq_some_iff.1 hj).1
        simpa using this
      have hp : f j = p := by
        rw [List.getElem?_map, List.getElem?_range hjl] at hj
        simpa using hj
      obtain ⟨g0, g1, g2⟩ := hf j hjl
      subst hp
      refine ⟨[.int .i64 (f j).f0, .int .i64 (f j).f1, .int .i64 (f j).f2], rfl, k42_mk W (f j), fun i u hu => ?_⟩
      match i, hu with
      | 0, hu => cases hu; exact g0
      | 1, hu => cases hu; exact g1
      | 2, hu => cases hu; exact g2
      | i + 3, hu => simp at hu
set_option maxRecDepth 100000 in
theorem open_arcsV {r : Reach} {b0 : Nat} {v : Value} {d : DataW H} {p : List MemPlace} (hv : Value.okWide Try.prog W r b0 22 v) (h : DataW.Trod enc Try.prog W 0 (fun _ => true) true 22 v d p) :
    ∃ (A : Option Addr) (cap : Nat) (l : List S42), v = .slice A l.length cap ∧ l.length ≤ cap ∧ Kd.C k42 W A l.length l := by
  obtain ⟨fuel, hf⟩ := h
  obtain ⟨a0, len, cap, rfl⟩ := Go.WideShapes.okWide_slice Try.underlying22 hv
  obtain ⟨A, c, l, e, h1, hC⟩ := open_arcs hf
  have e' : Value.slice a0 len cap = Value.slice A l.length c := by
    have : [Value.slice a0 len cap] = [Value.slice A l.length c] := e
    simpa using this
  exact ⟨A, c, l, e', h1, hC⟩
end
theorem u8_in {a : Int} (h : (Lit.int .u8 a).wf = true) : 0 ≤ a ∧ a ≤ 255 := by
  simp [Lit.wf, IntKind.min, IntKind.max, IntKind.signed, IntKind.bits] at h
  omega
end Go.Proofs.Ytfppfdejjifhdaa.PAll
