import Derived.Test.YtfppfdejjifhdaaQLkP
import Derived.Test.YtfppfdejjifhdaaQArA
namespace Go.Proofs.Ytfppfdejjifhdaa.PAll
open Go.RowKit Go.Proofs.YtfppfdejjifhdaaW.PrintWords Go.Proofs.YtfppfdejjifhdaaW.PrintLast Go.Proofs.YtfppfdejjifhdaaW.PrintMore
open Go.Joins Go.ChangeShapes Go.WideShapes Go.Deep
set_option linter.unusedVariables false
set_option linter.unusedSimpArgs false

section
variable {H : Type} {enc : TypeId × Value → H} {W : World}
set_option maxRecDepth 100000 in
/-- what is told, as it is handed in -/
theorem open_do {r : Reach} {b0 : Nat} {v : Value} {d : DataW H} {p : List MemPlace} (hv : Value.okWide Try.prog W r b0 24 v) (h : DataW.Trod enc Try.prog W 0 (fun _ => true) true 24 v d p) :
    ∃ k u v' x m : Int, v = .agg #[.int .i64 k, .int .i64 u, .int .i64 v', .int .i64 x, .int .i64 m] ∧ (Lit.int .i64 u).wf = true ∧ (Lit.int .i64 v').wf = true := by
  obtain ⟨cs, rfl, hsz⟩ := okWide_struct Try.underlying24 hv
  have hC : Try.prog.cellsOf 24 = 5 := by kernel_rfl
  obtain ⟨fuel, hf⟩ := h
  obtain ⟨xs, n, _, _, hl, hlen, hfi⟩ := DataW.trod_struct Try.underlying24 hf
  obtain ⟨l⟩ := cs
  match l, hsz.trans hC with
  | [c0, c1, c2, c3, c4], _ =>
    have k1 : Try.prog.cellsOf 3 = 1 := by kernel_rfl
    match xs, hlen with
    | [y0, y1, y2, y3, y4], _ =>
      have t0 := hfi 0 _ rfl
      have t1 := hfi 1 _ rfl
      have t2 := hfi 2 _ rfl
      have t3 := hfi 3 _ rfl
      have t4 := hfi 4 _ rfl
      simp only [k1, Value.cells, List.drop_zero, List.drop_succ_cons, List.take_succ_cons, List.take_zero, List.getElem?_cons_zero, List.getElem?_cons_succ] at t0 t1 t2 t3 t4
      obtain ⟨z0, e0, _, w0⟩ := DataW.trod_int Try.underlying3 t0
      obtain ⟨z1, e1, _, w1⟩ := DataW.trod_int Try.underlying3 t1
      obtain ⟨z2, e2, _, w2⟩ := DataW.trod_int Try.underlying3 t2
      obtain ⟨z3, e3, _, w3⟩ := DataW.trod_int Try.underlying3 t3
      obtain ⟨z4, e4, _, w4⟩ := DataW.trod_int Try.underlying3 t4
      simp [k1] at e0 e1 e2 e3 e4
      subst e0 e1 e2 e3 e4
      exact ⟨z0, z1, z2, z3, z4, rfl, w1, w2⟩
end
theorem u16_in {a : Int} (h : (Lit.int .u16 a).wf = true) : 0 ≤ a ∧ a ≤ 65535 := by
  simp [Lit.wf, IntKind.min, IntKind.max, IntKind.signed, IntKind.bits] at h
  omega
theorem puts_card (W : World) (a0 : Int) (A1 : Option Addr) (c1 : Nat) (l1 : List S42) (a2 a3 a4 : Int) (w0 : (Lit.int .i64 a0).wf = true) (hc1 : l1.length ≤ c1) (hC1 : Kd.C k42 W A1 l1.length l1) (w2 : (Lit.int .u8 a2).wf = true) (w3 : (Lit.int .u8 a3).wf = true) (w4 : (Lit.int .u16 a4).wf = true) :
    Calls Try.prog 4 #[.int .i64 a0, .slice A1 l1.length c1, .int .u8 a2, .int .u8 a3, .int .u16 a4] W fun r w' => r = .returned (.bool true) ∧ Below W.heap.size W w' :=
  puts_walk W a0 A1 c1 l1 hC1 hc1 a2 a3 a4 (u8_in w2).1 (u8_in w2).2 (u8_in w3).1 (u8_in w3).2 (u16_in w4).1 (u16_in w4).2
theorem nearer_card (W : World) (a0 : Int) (A1 : Option Addr) (c1 : Nat) (l1 : List S42) (dk du dv dW dm : Int) (a3 a4 a5 : Int) (w0 : (Lit.int .i64 a0).wf = true) (hc1 : l1.length ≤ c1) (hC1 : Kd.C k42 W A1 l1.length l1) (hdu : (Lit.int .i64 du).wf = true) (hdv : (Lit.int .i64 dv).wf = true) (w3 : (Lit.int .u8 a3).wf = true) (w4 : (Lit.int .u8 a4).wf = true) (w5 : (Lit.int .u16 a5).wf = true) :
    Calls Try.prog 3 #[.int .i64 a0, .slice A1 l1.length c1, .agg #[.int .i64 dk, .int .i64 du, .int .i64 dv, .int .i64 dW, .int .i64 dm], .int .u8 a3, .int .u8 a4, .int .u16 a5] W fun r w' => r = .returned (.bool true) ∧ Below W.heap.size W w' :=
  nearer_walk W a0 A1 c1 l1 hC1 hc1 dk du dv dW dm hdu hdv a3 a4 a5 (u8_in w3).1 (u8_in w3).2 (u8_in w4).1 (u8_in w4).2 (u16_in w5).1 (u16_in w5).2
end Go.Proofs.Ytfppfdejjifhdaa.PAll
