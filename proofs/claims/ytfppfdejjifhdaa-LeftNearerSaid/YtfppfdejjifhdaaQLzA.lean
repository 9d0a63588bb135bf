import Derived.Test.YtfppfdejjifhdaaQKtA
import Derived.Test.YtfppfdejjifhdaaQFGrCheck
import Derived.Test.YtfppfdejjifhdaaQFGraphBetter
import Derived.Test.YtfppfdejjifhdaaQOfA
namespace Go.Proofs.Ytfppfdejjifhdaa.PAll
open Go.RowKit Go.Proofs.YtfppfdejjifhdaaW.PrintWords Go.Proofs.YtfppfdejjifhdaaW.PrintLast Go.Proofs.YtfppfdejjifhdaaW.PrintMore
open Hp hiding Good
set_option linter.unusedVariables false
set_option linter.unusedSimpArgs false

section
variable {P : Program} {ops : Array Oper} {Q : Exit → Act → World → Prop}
/-- a call of a closure, in a region that draws its order -/
theorem goesC_ {oi : Oper} {N : Option Tmp} {a : Act} {w : World} {K : Act → World → Prop} {f : FuncId} {fn : Func} {ol : Array Operand} {ts : Array TypeId} (hf : P.funcs[f]? = some fn) (hname : (fn.name == "runtime.NumGoroutine") = false) (hb : fn.body.isSome = true) (x : Operand) (cap : Array Value) (args : Array Value)
    (hw : Region.wanted oi (yielded ops a.tmps) = true) (hN : oi.dst = N) (hop : oi.op = .call { callee := .value x, args := ol, argTypes := ts }) (hx : a.eval x = .func (.func f) #[] cap) (hargs : ol.map a.eval ++ cap = args)
    (h : Calls P f args w fun e w' => ∃ v, e = .returned v ∧ K (a.put N v) w') : if Region.wanted oi (yielded ops a.tmps) = true then Oper.wp P oi a w K Q else K (a.put N undef) w := by
  refine call_ f args hw hN ?_ h
  have he := enters_ hf hname hb args w
  unfold execOp
  simp [hop, resolve, Deferred.ofValue, invoke, hx, hargs, he]
end
theorem gcheck_l {n : Nat} {A : List S42} (hok : MapOk n A) : ∀ (d i k : Nat), i + d = A.length → d < k → gr_Check.l0 k A (A.length : Int) (i : Int) n A = some 0
  | 0, i, k, h1, h2 => by
    obtain ⟨k, rfl⟩ : ∃ j, k = j + 1 := ⟨k - 1, by omega⟩
    rw [gr_Check.l0, if_neg (by omega)]
  | d + 1, i, k, h1, h2 => by
    obtain ⟨k, rfl⟩ : ∃ j, k = j + 1 := ⟨k - 1, by omega⟩
    have ha := hok.arcs _ (rd79_mem (A := A) (i := i) (by omega))
    have h40 := hok.few
    obtain ⟨f0, f1, t0, t1, w0, w1⟩ := ha
    rw [gr_Check.l0, if_pos (by omega), if_pos (by omega), if_pos (by omega), if_neg (by unfold mn; split <;> split at * <;> omega), if_neg (by unfold mx; split <;> omega), if_neg (by omega), show wrap64 ((i : Int) + 1) = ((i + 1 : Nat) : Int) by unfold wrap64; omega]
    exact gcheck_l hok d (i + 1) k (by omega) (by omega)
theorem gcheck_walk (w : World) (n : Nat) (A : List S42) (Aa : Option Addr) (ca : Nat) (hC : Kd.C k42 w Aa A.length A) (hca : A.length ≤ ca) (hok : MapOk n A) :
    Calls Try.prog 18 #[.agg #[.int .i64 n, .slice Aa A.length ca]] w fun e w' => e = .returned (.int .i64 0) ∧ Below w.heap.size w w' := by
  refine gr_Check.calls (A.length + 4) n Aa ca A 0 w hC hca ?_
  have h12 := hok.n1
  have h40 := hok.few
  have hn0 := hok.n0
  unfold gr_Check.f
  rw [if_neg (by omega), gr_Check.j0, if_neg (by simp; omega), if_neg (by omega)]
  exact gcheck_l hok A.length 0 _ (by omega) (by omega)
end Go.Proofs.Ytfppfdejjifhdaa.PAll

namespace Go.Proofs.Ytfppfdejjifhdaa.PAll
open Go.RowKit Go.Proofs.YtfppfdejjifhdaaW.PrintWords Go.Proofs.YtfppfdejjifhdaaW.PrintLast Go.Proofs.YtfppfdejjifhdaaW.PrintMore
open Hp hiding Good
set_option linter.unusedVariables false
set_option linter.unusedSimpArgs false

/-! ### a side of a graph, while it is laid -/
structure LayS (W2 W : World) (bg sb n : Nat) (ev : Value) (cnt : List Int) (L : List S55) : Prop where
  s : W.heap[sb]? = some (.cells #[.slice (some ⟨bg, 0, none⟩) (n + 1) (n + 1), ev] 61 (0, 0))
  beg : OwnI W bg bg (n + 1) cnt
  edg : Kd.R k55 55 W W2.heap.size (fun _ => True) ev L
  rest : Only W2 W (fun k => k = bg ∨ k = sb)
  ne : bg ≠ sb
  bl : bg < W2.heap.size
  sl : sb < W2.heap.size
variable {W2 W W' w9 : World} {bg sb n : Nat} {ev ev' : Value} {cnt : List Int} {L : List S55}
theorem LayS.own (h : LayS W2 W bg sb n ev cnt L) : ∀ k, ev.ownBlock = some k → W2.heap.size ≤ k ∧ k < W.heap.size := fun k hk => by
  obtain ⟨inner, ho⟩ := Kd.R_own h.edg
  exact ho.lt k hk
theorem LayS.below (h : LayS W2 W bg sb n ev cnt L) (g : Below W.heap.size W W') : LayS W2 W' bg sb n ev cnt L :=
  ⟨(g.block _ (blk_lt h.s)).trans h.s, h.beg.below g, Kd.R_below h.edg g, h.rest.trans ((Only.of_below g _).mono (fun k _ e _ => e)), h.ne, h.bl, h.sl⟩
theorem LayS.app {x : S55} (h : LayS W2 W bg sb n ev cnt L) (hR : Kd.R k55 55 w9 W2.heap.size (fun _ => True) ev' (L ++ [x])) (hg : W.grownBy w9 ev.ownBlock) : LayS W2 (w9.setCell ⟨sb, 1, none⟩ ev') bg sb n ev' cnt (L ++ [x]) := by
  have ho := h.own
  have hne : ∀ k, k < W2.heap.size → some k ≠ ev.ownBlock := fun k hk e => by have := (ho k e.symm).1; omega
  have hs := (hg.block _ (blk_lt h.s) (hne _ h.sl)).trans h.s
  have o1 : Only W w9 (fun k => some k = ev.ownBlock) := Only.of_grown hg
  have hb := h.beg.only o1 (hne _ h.bl)
  refine ⟨blk_put hs 1 ev' rfl, hb.only ((Only.refl w9 (fun k => k = sb)).cell sb 1 ev' rfl) h.ne, Kd.R_set hR hs (by decide) 1 _, ?_, h.ne, h.bl, h.sl⟩
  have o2 : Only W2 w9 (fun k => k = bg ∨ k = sb) := h.rest.trans (o1.mono (fun k _ e hk => absurd e (hne k hk)))
  exact o2.cell sb 1 ev' (.inr rfl)
theorem LayS.inc (h : LayS W2 W bg sb n ev cnt L) (j : Nat) (x : Int) : LayS W2 (W.setCell ⟨bg, j, none⟩ (.int .i64 x)) bg sb n ev (cnt.set j x) L := by
  obtain ⟨cs, hc⟩ := own_typed h.beg bg rfl
  refine ⟨(Below.heap_setCell W ⟨bg, j, none⟩ _ sb (fun e => h.ne e.symm)).trans h.s, h.beg.set j x, Kd.R_set h.edg hc (by decide) j _, h.rest.cell bg j _ (.inl rfl), h.ne, h.bl, h.sl⟩
/-- what lay gives -/
def LayPost (w : World) (n : Nat) (e1 e2 wt : Int → Int) (l : List Int) (r : Ending) (w' : World) : Prop :=
  ∃ (bg : Nat) (l1 l2 : List Int) (EA : Option Addr) (ec : Nat), r = .returned (.agg #[.slice (some ⟨bg, 0, none⟩) (n + 1) (n + 1), .slice EA l2.length ec]) ∧ OwnI w' bg bg (n + 1) (rowF (n + 1) (cn3 e1 l2 0)) ∧ l2.length ≤ ec ∧
    Kd.R k55 55 w' w.heap.size (fun _ => True) (.slice EA l2.length ec) (l2.map fun k => (⟨e2 k, wt k, k⟩ : S55)) ∧ SoI e2 l l.length l1 ∧ SoI e1 l1 l1.length l2 ∧ Below w.heap.size w w'
end Go.Proofs.Ytfppfdejjifhdaa.PAll
