import Derived.Test.YtfkejflmhidnaaaGreatQZSuP
import Derived.Test.YtfkejflmhidnaaaGreatQZChB
set_option linter.all false
namespace Go.Proofs.YtfkejflmhidnaaaGreat.PAll
open RowKit YtfkejflmhidnaaaGreatW.PrintWords YtfkejflmhidnaaaGreatW.PrintLast YtfkejflmhidnaaaGreatW.PrintMore
open Hp hiding Good
theorem rdL7_get {l : List (List S37)} {q : Nat} (h : q < l.length) : rd_L7 l (q : Int) = l[q] := by simp [rd_L7, List.getD, h]
theorem laterI {w : World} {A : Option Addr} {n : Nat} {x : List Int} (h : Kd.C (Kd.int .i64) w A n x) (i : Nat) (hi : i < n) : ∃ a : Addr, A = some a ∧ ∀ W, Below w.heap.size w W → W.cell? (a.add i) = some (.int .i64 (rd x (i : Int))) := by
 obtain ⟨a, ha, c⟩ := Kd.at_int h (i : Int) (by omega) (by omega)
 have c' : w.cell? (a.add i) = some (.int .i64 (rd x (i : Int))) := c
 exact ⟨a, ha, fun W g => (g.cell (World.block_lt_of_cell? _ _ c')).trans c'⟩
theorem laterP {w : World} {A : Option Addr} {n : Nat} {x : List S37} (h : Kd.C k37 w A n x) (i : Nat) (hi : i < n) : ∃ a : Addr, A = some a ∧ ∀ W, Below w.heap.size w W → W.cell? (a.add (i * 2)) = some (.int .i64 (rd_T37 x (i : Int)).f0) ∧ W.cell? ⟨(a.add (i * 2)).block, (a.add (i * 2)).off + 1, none⟩ = some (.int .i64 (rd_T37 x (i : Int)).f1) := by
 obtain ⟨a, ha, c, d⟩ := at_T37 h (i : Int) (by omega) (by omega)
 rw [Int.toNat_natCast] at c d
 exact ⟨a, ha, fun W g => ⟨(g.cell (World.block_lt_of_cell? _ _ c)).trans c, (g.cell (World.block_lt_of_cell? _ _ d)).trans d⟩⟩
theorem laterII {w : World} {A : Option Addr} {n : Nat} {x : List (List Int)} (h : Kd.C kII w A n x) (i : Nat) (hi : i < n) : ∃ (a : Addr) (B : Option Addr) (c : Nat), A = some a ∧ ∀ W, Below w.heap.size w W → W.cell? (a.add i) = some (.slice B (rd_L5 x (i : Int)).length c) ∧ (rd_L5 x (i : Int)).length ≤ c ∧ Kd.C (Kd.int .i64) W B (rd_L5 x (i : Int)).length (rd_L5 x (i : Int)) := by
 obtain ⟨a, B, c, ha, hc, hl, hr⟩ := at_L5 h (i : Int) (by omega) (by omega)
 rw [Int.toNat_natCast] at hc
 exact ⟨a, B, c, ha, fun W g => ⟨(g.cell (World.block_lt_of_cell? _ _ hc)).trans hc, hl, Kd.C_below hr g⟩⟩
theorem laterRR {w : World} {A : Option Addr} {n : Nat} {x : List (List S37)} (h : Kd.C kRR w A n x) (i : Nat) (hi : i < n) : ∃ (a : Addr) (B : Option Addr) (c : Nat), A = some a ∧ ∀ W, Below w.heap.size w W → W.cell? (a.add i) = some (.slice B (rd_L7 x (i : Int)).length c) ∧ (rd_L7 x (i : Int)).length ≤ c ∧ Kd.C k37 W B (rd_L7 x (i : Int)).length (rd_L7 x (i : Int)) := by
 obtain ⟨a, B, c, ha, hc, hl, hr⟩ := at_L7 h (i : Int) (by omega) (by omega)
 rw [Int.toNat_natCast] at hc
 exact ⟨a, B, c, ha, fun W g => ⟨(g.cell (World.block_lt_of_cell? _ _ hc)).trans hc, hl, Kd.C_below hr g⟩⟩
theorem eqP37 (d : Nat) (w : World) (x0 y0 : Int) (x1 y1 : Int) :
  (Op.equalIn (d + 2) 37 (.agg #[.int .i64 x0, .int .i64 x1]) (.agg #[.int .i64 y0, .int .i64 y1])).run Tryz.prog w = .ok (x0 == y0 && (x1 == y1)) w := by
 refine eqA_of Tryz.underlying37 (by kernel_rfl) ?_
 refine eqf_cons (by rfl) (by go_simp; rfl) (by go_simp; rfl) (by go_simp) ?_
 exact eqf_last (by rfl) (by go_simp; rfl) (by go_simp; rfl) (by go_simp)
attribute [local go_sem high] eqP37
end Go.Proofs.YtfkejflmhidnaaaGreat.PAll
