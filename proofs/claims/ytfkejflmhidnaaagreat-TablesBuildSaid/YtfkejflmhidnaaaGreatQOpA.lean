import Derived.Test.YtfkejflmhidnaaaGreatQHpF
import Derived.Deep.Slices
import Derived.Deep.Fields
import Derived.Deep.Strs
import Derived.ChangeSame
import Derived.ChangeSlices
import Derived.Lib.SmallJoins
import Derived.OpenShut
set_option linter.all false
namespace Go.Proofs.YtfkejflmhidnaaaGreat.PAll
open RowKit YW.PrintWords YW.PrintLast YW.PrintMore
open Go.Joins Go.ChangeShapes Go.WideShapes Go.Deep
section
variable {H : Type} {enc : TypeId × Value → H} {W : World}
theorem open_nums {fuel : Nat} {cs : List Value} {x : DataW H × List MemPlace} (h : DataW.trod enc Tryz.prog W 0 (fun _ => true) true fuel 28 cs = some x) :
  ∃ (A : Option Addr) (cap : Nat) (l : List Int), cs = [.slice A l.length cap] ∧ l.length ≤ cap ∧ cap ≤ maxLen ∧ Kd.C (Kd.int .i64) W A l.length l ∧ ∀ n ∈ l, (Lit.int .i64 n).wf = true := by
 rcases Go.ChangeShapes.open_ints Tryz.underlying28 Tryz.underlying3 (by kernel_rfl) h with ⟨hcs, _⟩ | ⟨a, len, cap, zs, hcs, hb, hl, hm, hz, hx, hat, hwf⟩
 ·exact ⟨none, 0, [], hcs, Nat.le_refl _, by simp, ⟨rfl, by simp, fun h => absurd h (by simp)⟩, fun s hs => by cases hs⟩
 ·have hz' : zs.length = cap := by simpa using hz
  have hmax : maxLen ≤ 9223372036854775807 := by decide
  have hlen : (zs.take len).length = len := by rw [List.length_take]; omega
  refine ⟨some a, cap, zs.take len, by rw [hlen]; exact hcs, by omega, hm, ⟨rfl, by omega, fun _ => ⟨a, rfl, fun j p hj => ?_⟩⟩, fun n hn => hwf n (List.mem_of_mem_take hn)⟩
  have hjl := (List.getElem?_eq_some_iff.1 hj).1
  have hjt : j < len := by rw [hlen] at hjl; exact hjl
  have hp : zs.getD j 0 = p := by
   have h1 := (List.getElem?_eq_some_iff.1 hj).2
   rw [List.getElem_take] at h1
   simp [List.getD, show j < zs.length by omega, h1]
  refine ⟨[.int .i64 p], rfl, rfl, fun i u hu => ?_⟩
  match i, hu with
  | 0, hu =>
   cases hu
   have := hat j (by omega)
   rw [hp] at this
   show W.cell? (a.add (j * 1)) = _
   rw [Nat.mul_one]
   exact this
  | i + 1, hu => simp at hu
def wayAt (W : World) (a : Addr) (i : Nat) (s : S71) : Prop :=
 W.cell? (a.add (i * 5)) = some (.int .i64 s.f0) ∧ W.cell? (a.add (i * 5 + 1)) = some (.int .i64 s.f1) ∧ W.cell? (a.add (i * 5 + 2)) = some (.int .i64 s.f2.f0) ∧ W.cell? (a.add (i * 5 + 3)) = some (.int .i64 s.f2.f1) ∧ W.cell? (a.add (i * 5 + 4)) = some (.int .i64 s.f2.f2)
set_option maxRecDepth 100000 in
theorem open_ways {fuel : Nat} {cs : List Value} {x : DataW H × List MemPlace} (h : DataW.trod enc Tryz.prog W 0 (fun _ => true) true fuel 29 cs = some x) :
  ∃ (A : Option Addr) (cap : Nat) (l : List S71), cs = [.slice A l.length cap] ∧ l.length ≤ cap ∧ cap ≤ maxLen ∧ Kd.C k71 W A l.length l := by
 rcases open_slice Tryz.underlying29 h with ⟨hcs, _⟩ | ⟨a, len, cap, m, n, D, Pl, hcs, hb, hl, hm, hmm, hx, hi⟩
 ·exact ⟨none, 0, [], hcs, Nat.le_refl _, by simp, ⟨rfl, by simp, fun h => absurd h (by simp)⟩⟩
 ·have hm' : m = cap := by simpa using hmm
  have h5 : Tryz.prog.cellsOf 71 = 5 := by kernel_rfl
  have h3 : Tryz.prog.cellsOf 69 = 3 := by kernel_rfl
  have h1 : Tryz.prog.cellsOf 3 = 1 := by kernel_rfl
  have each : ∀ i, ∃ s : S71, i < len → wayAt W a i s := fun i => by
   by_cases hlt : i < len
   ·obtain ⟨cs', hc, ht⟩ := hi i (by omega)
    rw [h5] at hc
    obtain ⟨y0, y1, y2, n', hy, hlen, f0, f1, f2⟩ := trod_struct3 Tryz.underlying71 ht
    obtain ⟨_, hcl, hat⟩ := World.cells?_some hc
    match cs', hcl with
    | [c0, c1, c2, c3, c4], _ =>
     simp only [h1, h3] at f0 f1 f2
     obtain ⟨z0, e0, _, w0⟩ := DataW.trod_int Tryz.underlying3 f0
     obtain ⟨z1, e1, _, w1⟩ := DataW.trod_int Tryz.underlying3 f1
     obtain ⟨u0, u1, u2, n'', hy', hlen', k0, k1, k2⟩ := trod_struct3 Tryz.underlying69 f2
     simp only [h1] at k0 k1 k2
     obtain ⟨z2, e2, _, w2⟩ := DataW.trod_int Tryz.underlying3 k0
     obtain ⟨z3, e3, _, w3⟩ := DataW.trod_int Tryz.underlying3 k1
     obtain ⟨z4, e4, _, w4⟩ := DataW.trod_int Tryz.underlying3 k2
     simp at e0 e1 e2 e3 e4
     subst e0 e1 e2 e3 e4
     have g0 := hat 0 (by omega)
     have g1 := hat 1 (by omega)
     have g2 := hat 2 (by omega)
     have g3 := hat 3 (by omega)
     have g4 := hat 4 (by omega)
     rw [Go.Deep.add_add] at g0 g1 g2 g3 g4
     exact ⟨⟨z0, z1, ⟨z2, z3, z4⟩⟩, fun _ => ⟨g0, g1, g2, g3, g4⟩⟩
   ·exact ⟨z71, fun h => absurd h hlt⟩
  obtain ⟨f, hf⟩ := Classical.axiomOfChoice each
  have hmax : maxLen ≤ 9223372036854775807 := by decide
  refine ⟨some a, cap, (List.range len).map f, by simpa using hcs, by simpa using hl, hm, ⟨rfl, by simp; omega, fun _ => ⟨a, rfl, fun j p hj => ?_⟩⟩⟩
  have hjl : j < len := by
   have := (List.getElem?_eq_some_iff.1 hj).1
   simpa using this
  have hp : f j = p := by
   rw [List.getElem?_map, List.getElem?_range hjl] at hj
   simpa using hj
  obtain ⟨g0, g1, g2, g3, g4⟩ := hf j hjl
  subst hp
  refine ⟨[.int .i64 (f j).f0, .int .i64 (f j).f1, .int .i64 (f j).f2.f0, .int .i64 (f j).f2.f1, .int .i64 (f j).f2.f2], rfl, k71_mk W (f j), fun i u hu => ?_⟩
  match i, hu with
  | 0, hu => cases hu; exact g0
  | 1, hu => cases hu; exact g1
  | 2, hu => cases hu; exact g2
  | 3, hu => cases hu; exact g3
  | 4, hu => cases hu; exact g4
  | i + 5, hu => simp at hu
set_option maxRecDepth 100000 in
theorem open_hier {r : Reach} {b0 : Nat} {v : Value} {d : DataW H} {p : List MemPlace} (hv : Value.okWide Tryz.prog W r b0 31 v) (h : DataW.Trod enc Tryz.prog W 0 (fun _ => true) true 31 v d p) :
  ∃ (rA wA : Option Addr) (rc wc : Nat) (rank : List Int) (ways : List S71), v = .agg #[.slice rA rank.length rc, .slice wA ways.length wc] ∧ Kd.C (Kd.int .i64) W rA rank.length rank ∧ Kd.C k71 W wA ways.length ways := by
 obtain ⟨v0, v1, y0, y1, n, rfl, _, _, t0, t1⟩ := open_agg2 Tryz.underlying31 (by kernel_rfl) (by kernel_rfl) hv h
 obtain ⟨rA, rc, rank, e0, _, _, hC, _⟩ := open_nums t0
 obtain ⟨wA, wc, ways, e1, _, _, hD⟩ := open_ways t1
 simp at e0 e1
 subst e0 e1
 exact ⟨rA, wA, rc, wc, rank, ways, rfl, hC, hD⟩
end
end Go.Proofs.YtfkejflmhidnaaaGreat.PAll
