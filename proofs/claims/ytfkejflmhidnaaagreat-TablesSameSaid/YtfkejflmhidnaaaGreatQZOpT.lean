import Derived.Test.YtfkejflmhidnaaaGreatQOpA
import Derived.Test.YtfkejflmhidnaaaGreatQZChB
import Derived.Deep.SlicePairs
set_option linter.all false
namespace Go.Proofs.YtfkejflmhidnaaaGreat.PAll
open RowKit YW.PrintWords YW.PrintLast YW.PrintMore
open Go.Joins Go.ChangeShapes Go.WideShapes Go.Deep
section
variable {H : Type} {enc : TypeId × Value → H} {W : World}
set_option maxRecDepth 100000 in
theorem open_pairs {fuel : Nat} {cs : List Value} {x : DataW H × List MemPlace} (h : DataW.trod enc Tryz.prog W 0 (fun _ => true) true fuel 33 cs = some x) :
  ∃ (A : Option Addr) (cap : Nat) (l : List S37), cs = [.slice A l.length cap] ∧ l.length ≤ cap ∧ cap ≤ maxLen ∧ Kd.C k37 W A l.length l := by
 rcases open_slice_pairs Tryz.underlying33 Tryz.underlying37 (by kernel_rfl) rfl rfl (by kernel_rfl) (by kernel_rfl) h with ⟨hcs, _⟩ | ⟨a, len, cap, m, n, V0, V1, D0, D1, P0, P1, hcs, hb, hl, hm, hmm, hx, hi⟩
 ·exact ⟨none, 0, [], hcs, Nat.le_refl _, by simp, ⟨rfl, by simp, fun h => absurd h (by simp)⟩⟩
 ·have hm' : m = cap := by simpa using hmm
  have each : ∀ i, ∃ s : S37, i < len → W.cell? (a.add (i * 2)) = some (.int .i64 s.f0) ∧ W.cell? (a.add (i * 2 + 1)) = some (.int .i64 s.f1) := fun i => by
   by_cases hlt : i < len
   ·obtain ⟨g0, g1, t0, t1⟩ := hi i (by omega)
    obtain ⟨z0, e0, _, w0⟩ := DataW.trod_int Tryz.underlying3 t0
    obtain ⟨z1, e1, _, w1⟩ := DataW.trod_int Tryz.underlying3 t1
    simp at e0 e1
    rw [e0] at g0
    rw [e1] at g1
    exact ⟨⟨z0, z1⟩, fun _ => ⟨g0, g1⟩⟩
   ·exact ⟨z37, fun h => absurd h hlt⟩
  obtain ⟨f, hf⟩ := Classical.axiomOfChoice each
  have hmax : maxLen ≤ 9223372036854775807 := by decide
  refine ⟨some a, cap, (List.range len).map f, by simpa using hcs, by simpa using hl, hm, ⟨rfl, by simp; omega, fun _ => ⟨a, rfl, fun j p hj => ?_⟩⟩⟩
  have hjl : j < len := by
   have := (List.getElem?_eq_some_iff.1 hj).1
   simpa using this
  have hp : f j = p := by
   rw [List.getElem?_map, List.getElem?_range hjl] at hj
   simpa using hj
  obtain ⟨g0, g1⟩ := hf j hjl
  subst hp
  refine ⟨[.int .i64 (f j).f0, .int .i64 (f j).f1], rfl, k37_mk W (f j), fun i u hu => ?_⟩
  match i, hu with
  | 0, hu => cases hu; exact g0
  | 1, hu => cases hu; exact g1
  | i + 2, hu => simp at hu
set_option maxRecDepth 100000 in
theorem open_rowsOf {α : Type} {d : Kd α} {T E e : TypeId} (hT : Tryz.prog.underlying T = some (.slice E)) (hc : Tryz.prog.cellsOf E = 1) (h1 : ∀ {fuel : Nat} {cs : List Value} {x : DataW H × List MemPlace}, DataW.trod enc Tryz.prog W 0 (fun _ => true) true fuel E cs = some x → ∃ (A : Option Addr) (cap : Nat) (l : List α), cs = [.slice A l.length cap] ∧ l.length ≤ cap ∧ cap ≤ maxLen ∧ Kd.C d W A l.length l)
  {fuel : Nat} {cs : List Value} {x : DataW H × List MemPlace} (h : DataW.trod enc Tryz.prog W 0 (fun _ => true) true fuel T cs = some x) :
  ∃ (A : Option Addr) (cap : Nat) (l : List (List α)), cs = [.slice A l.length cap] ∧ l.length ≤ cap ∧ cap ≤ maxLen ∧ Kd.C (Kd.slice e d) W A l.length l := by
 rcases open_slice1 hT hc h with ⟨hcs, _⟩ | ⟨a, len, cap, m, n, V, D, Pl, hcs, hb, hl, hm, hmm, hx, hi⟩
 ·exact ⟨none, 0, [], hcs, Nat.le_refl _, by simp, ⟨rfl, by simp, fun h => absurd h (by simp)⟩⟩
 ·have hm' : m = cap := by simpa using hmm
  have each : ∀ i, ∃ s : List α, i < len → ∃ (B : Option Addr) (c : Nat), W.cell? (a.add i) = some (.slice B s.length c) ∧ s.length ≤ c ∧ Kd.C d W B s.length s := fun i => by
   by_cases hlt : i < len
   ·obtain ⟨g0, t0⟩ := hi i (by omega)
    obtain ⟨B, c, l, e0, hlc, _, hC⟩ := h1 t0
    simp at e0
    rw [e0] at g0
    exact ⟨l, fun _ => ⟨B, c, g0, hlc, hC⟩⟩
   ·exact ⟨[], fun h => absurd h hlt⟩
  obtain ⟨f, hf⟩ := Classical.axiomOfChoice each
  have hmax : maxLen ≤ 9223372036854775807 := by decide
  refine ⟨some a, cap, (List.range len).map f, by simpa using hcs, by simpa using hl, hm, ⟨rfl, by simp; omega, fun _ => ⟨a, rfl, fun j p hj => ?_⟩⟩⟩
  have hjl : j < len := by
   have := (List.getElem?_eq_some_iff.1 hj).1
   simpa using this
  have hp : f j = p := by
   rw [List.getElem?_map, List.getElem?_range hjl] at hj
   simpa using hj
  obtain ⟨B, c, g0, hlc, hC⟩ := hf j hjl
  subst hp
  refine ⟨[.slice B (f j).length c], rfl, ⟨B, c, rfl, hlc, hC⟩, fun i u hu => ?_⟩
  match i, hu with
  | 0, hu =>
   cases hu
   show W.cell? (a.add (j * 1)) = _
   rw [Nat.mul_one]
   exact g0
  | i + 1, hu => simp at hu
set_option maxRecDepth 100000 in
theorem open_tables {r : Reach} {b0 : Nat} {v : Value} {d : DataW H} {p : List MemPlace} (hv : Value.okWide Tryz.prog W r b0 46 v) (h : DataW.Trod enc Tryz.prog W 0 (fun _ => true) true 46 v d p) :
  ∃ (a : TabAt) (t : TabP), v = .agg (a.cells t) ∧ TabC W a t := by
 obtain ⟨cs, rfl, hsz⟩ := okWide_struct Tryz.underlying46 hv
 have hC : Tryz.prog.cellsOf 46 = 6 := by kernel_rfl
 obtain ⟨fuel, hf⟩ := h
 obtain ⟨xs, n, _, _, hl, hlen, hfi⟩ := DataW.trod_struct Tryz.underlying46 hf
 obtain ⟨l⟩ := cs
 match l, hsz.trans hC with
 | [c0, c1, c2, c3, c4, c5], _ =>
  have k1 : Tryz.prog.cellsOf 28 = 1 := by kernel_rfl
  have k2 : Tryz.prog.cellsOf 38 = 1 := by kernel_rfl
  have k3 : Tryz.prog.cellsOf 44 = 1 := by kernel_rfl
  have k4 : Tryz.prog.cellsOf 33 = 1 := by kernel_rfl
  match xs, hlen with
  | [y0, y1, y2, y3, y4, y5], _ =>
   have t0 := hfi 0 _ rfl
   have t1 := hfi 1 _ rfl
   have t2 := hfi 2 _ rfl
   have t3 := hfi 3 _ rfl
   have t4 := hfi 4 _ rfl
   have t5 := hfi 5 _ rfl
   simp only [k1, k2, k3, Value.cells, List.drop_zero, List.drop_succ_cons, List.take_succ_cons, List.take_zero, List.getElem?_cons_zero, List.getElem?_cons_succ] at t0 t1 t2 t3 t4 t5
   obtain ⟨A0, d0, g, e0, l0, _, C0, _⟩ := open_nums t0
   obtain ⟨A1, d1, far, e1, _, _, C1⟩ := open_rowsOf (d := Kd.int .i64) (e := 3) Tryz.underlying38 k1 (fun h => by obtain ⟨A, c, l, q0, q1, q2, q3, _⟩ := open_nums h; exact ⟨A, c, l, q0, q1, q2, q3⟩) t1
   obtain ⟨A2, d2, out, e2, _, _, C2⟩ := open_rowsOf (d := k37) (e := 37) Tryz.underlying44 k4 open_pairs t2
   obtain ⟨A3, d3, inn, e3, _, _, C3⟩ := open_rowsOf (d := k37) (e := 37) Tryz.underlying44 k4 open_pairs t3
   obtain ⟨A4, d4, so, e4, _, _, C4⟩ := open_rowsOf (d := Kd.int .i64) (e := 3) Tryz.underlying38 k1 (fun h => by obtain ⟨A, c, l, q0, q1, q2, q3, _⟩ := open_nums h; exact ⟨A, c, l, q0, q1, q2, q3⟩) t4
   obtain ⟨A5, d5, si, e5, _, _, C5⟩ := open_rowsOf (d := Kd.int .i64) (e := 3) Tryz.underlying38 k1 (fun h => by obtain ⟨A, c, l, q0, q1, q2, q3, _⟩ := open_nums h; exact ⟨A, c, l, q0, q1, q2, q3⟩) t5
   simp [k1, k2, k3] at e0 e1 e2 e3 e4 e5
   subst e0 e1 e2 e3 e4 e5
   exact ⟨⟨A0, d0, A1, d1, A2, d2, A3, d3, A4, d4, A5, d5⟩, ⟨g, far, out, inn, so, si⟩, rfl, C0, C1, C2, C3, C4, C5, l0⟩
end
end Go.Proofs.YtfkejflmhidnaaaGreat.PAll
