import Derived.Test.YtfppfdejjifhdaaQKlA
import Derived.Test.YtfppfdejjifhdaaQOfA
import Derived.Test.YtfppfdejjifhdaaQLvP
import Derived.Test.YtfppfdejjifhdaaQPtA
import Derived.Test.YtfppfdejjifhdaaQNuA
namespace Go.Proofs.Ytfppfdejjifhdaa.PAll
open Go.RowKit Go.Proofs.YtfppfdejjifhdaaW.PrintWords Go.Proofs.YtfppfdejjifhdaaW.PrintLast Go.Proofs.YtfppfdejjifhdaaW.PrintMore
open Hp hiding Good
set_option linter.unusedVariables false
set_option linter.unusedSimpArgs false

/-! ### what is left of any map's graph, and how the two laws' calls turn it -/
theorem LRep.typed {w : World} {lb n K : Nat} {F : Int → Int → Option WayP} {B : Nat → Nat} (h : LRep w lb n K F B) (k : Nat) (hk : LS n B k) : (∃ cs, w.heap[k]? = some (.cells cs 50 (0, 0))) ∨ ∃ es c, w.heap[k]? = some (.map es c) := by
  obtain ⟨i, hi, rfl⟩ := hk
  by_cases h0 : i = 0
  · subst h0; rw [h.obj]; exact .inl ⟨_, h.blk⟩
  by_cases h1 : i = 1
  · subst h1; exact .inr h.out.ismap
  by_cases h2 : i = 2
  · subst h2; exact .inr h.inn.ismap
  by_cases h3 : i = 3
  · subst h3; exact .inr h.lost.ismap
  right
  by_cases he : i % 2 = 0
  · have := (h.outs ((i - 4) / 2) (by omega)).ismap
    rwa [show 4 + 2 * ((i - 4) / 2) = i by omega] at this
  · have := (h.inns ((i - 5) / 2) (by omega)).ismap
    rwa [show 5 + 2 * ((i - 5) / 2) = i by omega] at this
/-- the map in mb, what is left in lb; j ways were told -/
structure LLaw (w W : World) (mb lb n j : Nat) (F : Int → Int → Option WayP) (B : Nat → Nat) : Prop where
  m : ∃ v, W.heap[mb]? = some (.cells #[.int .i64 n, v] 27 (0, 0))
  rep : ∃ K, K ≤ 100000000 + j ∧ LRep W lb n K F B
  ok : LOk n 1125899906842624 F
  lo : ∀ k, LS n B k → w.heap.size ≤ k
  n0 : 1 ≤ n
  n1 : n ≤ 12
  below : Below w.heap.size w W
theorem LOk.weak {n : Nat} {a b : Int} {F : Int → Int → Option WayP} (h : LOk n a F) (hab : a ≤ b) : LOk n b F := ⟨fun x y z e => by
  obtain ⟨h0, h1, h2, h3, h4, h5, h6⟩ := h.ends x y z e
  exact ⟨h0, h1, h2, h3, h4, h5, by omega⟩⟩
variable {w W W' : World} {mb lb n j : Nat} {F : Int → Int → Option WayP} {B : Nat → Nat}
theorem LLaw.still (h : LLaw w W mb lb n j F B) (g : Below W.heap.size W W') : LLaw w W' mb lb n j F B := by
  obtain ⟨v, hv⟩ := h.m
  obtain ⟨K, hK, hr⟩ := h.rep
  exact ⟨⟨v, (g.block _ (blk_lt hv)).trans hv⟩, ⟨K, hK, hr.below g⟩, h.ok, h.lo, h.n0, h.n1, h.below.trans (g.mono h.below.size)⟩
theorem LLaw.alloc (h : LLaw w W mb lb n j F B) (o : Obj) : LLaw w (W.alloc o) mb lb n j F B := h.still ((Below.refl _ _).alloc (Nat.le_refl _) _)
theorem LLaw.size (h : LLaw w W mb lb n j F B) : (W.cell? ⟨mb, 0, none⟩ = some (.int .i64 n)) ∧ mb < W.heap.size := by
  obtain ⟨v, hv⟩ := h.m
  exact ⟨(blk_cell hv 0).trans rfl, blk_lt hv⟩
theorem LLaw.way (h : LLaw w W mb lb n j F B) (u v : Nat) (hu : u < n) (hv : v < n) :
    Calls Try.prog 11 #[.pointer (some ⟨lb, 0, none⟩), .int .i64 u, .int .i64 v] W fun r w' => r = .returned (.tuple #[wayV ((F u v).getD ⟨0, 0, 0⟩), .bool (F u v).isSome]) ∧ LLaw w w' mb lb n j F B ∧ Below W.heap.size W w' := by
  have h1 := h.n1
  obtain ⟨K, hK, hr⟩ := h.rep
  exact (way_walk W lb n K F B hr u hu (by omega) v (wf64 (by omega) (by omega))).mono (fun e w' ⟨e1, g⟩ => ⟨e1, h.still g, g⟩)
theorem LLaw.put (h : LLaw w W mb lb n j F B) (hj : j ≤ 100) (u v d mid : Int) (hwu : (Lit.int .i64 u).wf = true) (hwv : (Lit.int .i64 v).wf = true) (hd : d ≤ 1125899906842624) :
    Calls Try.prog 10 #[.pointer (some ⟨lb, 0, none⟩), .int .i64 u, .int .i64 v, .int .i64 d, .int .i64 mid] W fun r w' => r = .returned (.bool (laysP n F u v d mid)) ∧ LLaw w w' mb lb n (j + 1) (if laysP n F u v d mid = true then putF F u v ⟨d, mid, -1⟩ else F) B ∧ Only W w' (LS n B) := by
  have h1 := h.n1
  obtain ⟨x, hx⟩ := h.m
  obtain ⟨K, hK, hr⟩ := h.rep
  refine (wput_walk W lb n K F B hr (by omega) (by omega) u v d mid hwu hwv).mono ?_
  rintro e w' ⟨rfl, hr', ho⟩
  have nm : ¬ LS n B mb := fun f => by
    rcases hr.typed _ f with ⟨cs, e⟩ | ⟨es, c, e⟩
    · rw [hx] at e; cases e
    · rw [hx] at e; cases e
  refine ⟨rfl, ⟨⟨x, (ho.block _ (blk_lt hx) nm).trans hx⟩, ⟨K + 1, by omega, hr'⟩, ?_, h.lo, h.n0, h.n1, h.below.trans (ho.below h.below.size (fun k hk => h.lo k hk))⟩, ho⟩
  by_cases hl : laysP n F u v d mid = true
  · rw [if_pos hl]; exact h.ok.put (y := ⟨d, mid, -1⟩) hd hl
  · rw [if_neg hl]; exact h.ok
theorem LLaw.put_yes (h : LLaw w W mb lb n j F B) (hj : j ≤ 100) {u v d mid : Int} (hwu : (Lit.int .i64 u).wf = true) (hwv : (Lit.int .i64 v).wf = true) (hd : d ≤ 1125899906842624) (hl : laysP n F u v d mid = true) :
    Calls Try.prog 10 #[.pointer (some ⟨lb, 0, none⟩), .int .i64 u, .int .i64 v, .int .i64 d, .int .i64 mid] W fun r w' => r = .returned (.bool true) ∧ LLaw w w' mb lb n (j + 1) (putF F u v ⟨d, mid, -1⟩) B ∧ Only W w' (LS n B) := by
  have := h.put hj u v d mid hwu hwv hd
  rwa [hl, if_pos rfl] at this
theorem LLaw.put_no (h : LLaw w W mb lb n j F B) (hj : j ≤ 100) {u v d mid : Int} (hwu : (Lit.int .i64 u).wf = true) (hwv : (Lit.int .i64 v).wf = true) (hd : d ≤ 1125899906842624) (hl : laysP n F u v d mid = false) :
    Calls Try.prog 10 #[.pointer (some ⟨lb, 0, none⟩), .int .i64 u, .int .i64 v, .int .i64 d, .int .i64 mid] W fun r w' => r = .returned (.bool false) ∧ LLaw w w' mb lb n (j + 1) F B ∧ Only W w' (LS n B) := by
  have := h.put hj u v d mid hwu hwv hd
  rwa [hl, if_neg (by decide)] at this
theorem LLaw.near (h : LLaw w W mb lb n j F B) (u v : Nat) (hu : u < n) (hv : v < n) (wo most : Int) (huw : (u : Int) ≠ wo) (hvw : (v : Int) ≠ wo) (hm0 : -1000000 ≤ most) (hm1 : most ≤ 1000000) :
    Calls Try.prog 9 #[.pointer (some ⟨lb, 0, none⟩), .int .i64 u, .int .i64 v, .int .i64 wo, .int .i64 most] W fun r w' => NPost (nearP (edgeL F wo) u v most) r ∧ LLaw w w' mb lb n j F B ∧ Below W.heap.size W w' := by
  have h1 := h.n1
  obtain ⟨K, hK, hr⟩ := h.rep
  exact (near_walk W lb n K F B hr (by omega) _ h.ok (by decide) u v hu hv wo most huw hvw hm0 hm1).mono (fun e w' ⟨e1, g⟩ => ⟨e1, h.still g, g⟩)
theorem LLaw.near_yes (h : LLaw w W mb lb n j F B) {u v : Nat} (hu : u < n) (hv : v < n) {most : Int} (hm0 : -1000000 ≤ most) (hm1 : most ≤ 1000000) (hP : nearP (edgeL F (-1)) u v most) :
    Calls Try.prog 9 #[.pointer (some ⟨lb, 0, none⟩), .int .i64 u, .int .i64 v, .int .i64 (-1), .int .i64 most] W fun r w' => r = .returned (.bool true) ∧ LLaw w w' mb lb n j F B ∧ Below W.heap.size W w' :=
  (h.near u v hu hv (-1) most (by omega) (by omega) hm0 hm1).mono (fun e w' ⟨⟨b, e1, e2⟩, g⟩ => ⟨by rw [e1, e2.2 hP], g⟩)
theorem LLaw.near_no (h : LLaw w W mb lb n j F B) {u v : Nat} (hu : u < n) (hv : v < n) {most : Int} (hm0 : -1000000 ≤ most) (hm1 : most ≤ 1000000) (hP : ¬ nearP (edgeL F (-1)) u v most) :
    Calls Try.prog 9 #[.pointer (some ⟨lb, 0, none⟩), .int .i64 u, .int .i64 v, .int .i64 (-1), .int .i64 most] W fun r w' => r = .returned (.bool false) ∧ LLaw w w' mb lb n j F B ∧ Below W.heap.size W w' :=
  (h.near u v hu hv (-1) most (by omega) (by omega) hm0 hm1).mono (fun e w' ⟨⟨b, e1, e2⟩, g⟩ => ⟨by
    cases b with
    | false => exact e1
    | true => exact absurd (e2.1 rfl) hP, g⟩)
/-- a way's own cells stay -/
theorem LLaw.kept {zb : Nat} {cs : Array Value} (h : LLaw w W mb lb n j F B) (hz : W.heap[zb]? = some (.cells cs 37 (0, 0))) (o : Only W W' (LS n B)) : W'.heap[zb]? = some (.cells cs 37 (0, 0)) := by
  obtain ⟨K, hK, hr⟩ := h.rep
  refine (o.block _ (blk_lt hz) (fun f => ?_)).trans hz
  rcases hr.typed _ f with ⟨cs, e⟩ | ⟨es, c, e⟩
  · rw [hz] at e; cases e
  · rw [hz] at e; cases e
/-- known leaves everything as it is -/
theorem LLaw.known (h : LLaw w W mb lb n j F B) : Calls Try.prog 6 #[] W fun r w' => r = .returned (.bool true) ∧ Below w.heap.size w w' :=
  (known_walk W).mono (fun e w' ⟨e1, g⟩ => ⟨e1, h.below.trans (g.mono h.below.size)⟩)
/-- .. and without itself -/
theorem LLaw.near_wo (h : LLaw w W mb lb n j F B) {u v : Nat} (hu : u < n) (hv : v < n) {most : Int} (hm0 : -1000000 ≤ most) (hm1 : most ≤ 1000000) :
    Calls Try.prog 9 #[.pointer (some ⟨lb, 0, none⟩), .int .i64 u, .int .i64 v, .int .i64 u, .int .i64 most] W fun r w' => r = .returned (.bool false) ∧ LLaw w w' mb lb n j F B ∧ Below W.heap.size W w' := by
  have h1 := h.n1
  obtain ⟨K, hK, hr⟩ := h.rep
  exact (near_wo_walk W lb n K F B hr (by omega) u v hu hv u most rfl hm0 hm1).mono (fun e w' ⟨e1, g⟩ => ⟨e1, h.still g, g⟩)
/-- what Of, graph.New and left.New give -/
theorem of_law (w : World) (a0 : Int) (A1 : Option Addr) (c1 : Nat) (l1 : List S42) (hr1 : Kd.C k42 w A1 l1.length l1) (hc1 : l1.length ≤ c1) :
    ∃ (n : Nat) (A : List S42), MapOk n A ∧ Calls Try.prog 5 #[.int .i64 a0, .slice A1 l1.length c1] w fun e w' => ∃ Aa ca, e = .returned (.agg #[.int .i64 n, .slice Aa A.length ca]) ∧ A.length ≤ ca ∧ Kd.C k42 w' Aa A.length A ∧ Below w.heap.size w w' := by
  obtain ⟨n, hn, hok⟩ := ofL_ok a0 l1
  refine ⟨n, _, hok, (of7_walk' w a0 l1 A1 c1 hr1 hc1).mono ?_⟩
  rintro e w' ⟨v, rfl, hR, g⟩
  obtain ⟨Aa, ca, hv, hca, hC⟩ := Kd.R_reads hR
  exact ⟨Aa, ca, by rw [hv, hn], hca, hC, g⟩
theorem left_law (w W : World) (mb gb n : Nat) (A : List S42) (E : Nat → List EdgP) (hok : MapOk n A) (hg : GRep W gb n E) (hG : GOk n A.length (frA A) (twA A) (wtA A) E) (hm : ∃ v, W.heap[mb]? = some (.cells #[.int .i64 n, v] 27 (0, 0))) (g : Below w.heap.size w W) :
    Calls Try.prog 7 #[.pointer (some ⟨gb, 0, none⟩)] W fun r w' => ∃ lb F B, r = .returned (.pointer (some ⟨lb, 0, none⟩)) ∧ LLaw w w' mb lb n 0 F B ∧ Below W.heap.size W w' := by
  have at' : ∀ k : Nat, k < A.length → ArcOk n (rd_T42 A (k : Int)) := fun k hk => hok.arcs _ (rd79_mem hk)
  have hE : EdOk n E := hG.ed (fun k hk => ⟨(at' k hk).t0, (at' k hk).t1⟩) (fun k hk => ⟨(at' k hk).w0, (at' k hk).w1⟩)
  have h1 := hok.n1
  refine (lnew_walk W gb n E hg hE (by omega)).mono ?_
  rintro e w' ⟨lb, K, F, B, rfl, hr, hK, hL, hB, hlo⟩
  obtain ⟨v, hv⟩ := hm
  exact ⟨lb, F, B, rfl, ⟨⟨v, (hB.block _ (blk_lt hv)).trans hv⟩, ⟨K, by omega, hr⟩, (hL.lok hE).weak (by decide), fun k hk => Nat.le_trans g.size (hlo k hk), hok.n0, hok.n1, g.trans (hB.mono g.size)⟩, hB⟩
/-- two ways are one -/
theorem eqA37 (d : Nat) (w : World) (x0 y0 x1 y1 x2 y2 : Int) :
    (Op.equalIn (d + 2) 37 (.agg #[.int .i64 x0, .int .i64 x1, .int .i64 x2]) (.agg #[.int .i64 y0, .int .i64 y1, .int .i64 y2])).run Try.prog w = .ok (x0 == y0 && (x1 == y1 && (x2 == y2))) w := by
  refine eqA_of Try.underlying37 (by kernel_rfl) ?_
  refine eqf_cons (by rfl) (by go_simp; rfl) (by go_simp; rfl) (by go_simp) ?_
  refine eqf_cons (by rfl) (by go_simp; rfl) (by go_simp; rfl) (by go_simp) ?_
  exact eqf_last (by rfl) (by go_simp; rfl) (by go_simp; rfl) (by go_simp)
end Go.Proofs.Ytfppfdejjifhdaa.PAll
