import Derived.Test.YtfppfdejjifhdaaQLzB
namespace Go.Proofs.Ytfppfdejjifhdaa.PAll
open Go.RowKit Go.Proofs.YtfppfdejjifhdaaW.PrintWords Go.Proofs.YtfppfdejjifhdaaW.PrintLast Go.Proofs.YtfppfdejjifhdaaW.PrintMore
open Hp hiding Good
set_option linter.unusedVariables false
set_option linter.unusedSimpArgs false

/-! ### a graph in memory -/
def toE (s : S55) : EdgP := ⟨s.f0, s.f1, s.f2⟩
structure GRep (w : World) (gb n : Nat) (E : Nat → List EdgP) : Prop where
  blk : ∃ (v1 : Value) (bA : Option Addr) (bc : Nat) (eA : Option Addr) (ec : Nat) (x4 x5 x6 : Value) (beg : List Int) (L : List S55), w.heap[gb]? = some (.cells #[.int .i64 n, v1, .slice bA (n + 1) bc, .slice eA L.length ec, x4, x5, x6] 63 (0, 0)) ∧ Kd.C (Kd.int .i64) w bA (n + 1) beg ∧ L.length ≤ ec ∧
    Kd.C k55 w eA L.length L ∧ L.length ≤ 1000 ∧ ∀ v : Nat, v < n → ∃ a b : Nat, rd beg (v : Int) = a ∧ rd beg ((v + 1 : Nat) : Int) = b ∧ a ≤ b ∧ b ≤ L.length ∧ E v = ((L.drop a).take (b - a)).map toE
theorem GRep.below {w w' : World} {gb n : Nat} {E : Nat → List EdgP} (h : GRep w gb n E) (g : Below w.heap.size w w') : GRep w' gb n E := by
  obtain ⟨v1, bA, bc, eA, ec, x4, x5, x6, beg, L, h1, h2, h3, h4, h5⟩ := h.blk
  exact ⟨v1, bA, bc, eA, ec, x4, x5, x6, beg, L, (g.block _ (blk_lt h1)).trans h1, Kd.C_below h2 g, h3, Kd.C_below h4 g, h5⟩
/-- a row of truths of the call's own -/
def OwnB (w : World) (g n : Nat) (K : List Bool) : Prop := w.ownsRow g 4 1 (.slice (some ⟨g, 0, none⟩) n n) n (K.map Value.bool)
variable {w W W' : World} {g n : Nat} {K : List Bool}
theorem OwnB.len (h : OwnB w g n K) : K.length = n := by
  have := h.1
  simpa using this
theorem OwnB.facts (h : OwnB w g n K) (i : Nat) (hi : i < n) : w.cell? ⟨g, i, none⟩ = some (.bool (rdB K i)) ∧ w.frozen? ⟨g, i, none⟩ = false ∧ g < w.heap.size :=
  ⟨(World.ownsRow.cellAt h i (by omega)).trans (by
    have hl := h.len
    simp [rdB, List.getD, show i < K.length by omega]), World.ownsRow.frozenAt h i, (World.ownsRow.lt h g rfl).2⟩
theorem OwnB.set (h : OwnB w g n K) (i : Nat) (v : Bool) : OwnB (w.setCell ⟨g, i, none⟩ (.bool v)) g n (K.set i v) := by
  have := (World.ownsRow.stored h i (.bool v)).1
  rw [← List.map_set] at this
  exact this
theorem OwnB.only {S : Nat → Prop} (h : OwnB w g n K) (b : Only w W' S) (hs : ¬ S g) : OwnB W' g n K := own_only h b (fun k hk f => hs (by simp [Value.ownBlock] at hk; subst hk; exact f))
theorem OwnB.below (h : OwnB w g n K) (b : Below w.heap.size w W') : OwnB W' g n K := h.only (Only.of_below b (fun _ => False)) (fun f => f)
theorem OwnB.C (h : OwnB w g n K) (hm : n ≤ maxLen) : Kd.C Kd.bool w (some ⟨g, 0, none⟩) n K := by
  refine ⟨h.len, hm, fun _ => ⟨⟨g, 0, none⟩, rfl, fun j p hj => ?_⟩⟩
  have hjl := (List.getElem?_eq_some_iff.1 hj).1
  have hp : rdB K (j : Int) = p := by
    simp [rdB, List.getD, hj]
  obtain ⟨c, _, _⟩ := h.facts j (by have := h.len; omega)
  rw [hp] at c
  refine ⟨[.bool p], rfl, rfl, fun i u hu => ?_⟩
  match i, hu with
  | 0, hu =>
    cases hu
    show w.cell? ((⟨g, 0, none⟩ : Addr).add (j * 1)) = _
    by_cases h0 : j = 0
    · subst h0; simpa [Addr.add] using c
    · simpa [Addr.add, h0] using c
  | i + 1, hu => simp at hu
/-- a graph, while it is made -/
structure GrS (w W : World) (n gb kb : Nat) (Ac : Option Addr) (cc : Nat) (A : List S42) (K : List Bool) : Prop where
  m : W.heap[w.heap.size]? = some (.cells #[.int .i64 n, .slice Ac A.length cc] 27 (0, 0))
  arcs : Kd.R k42 42 W w.heap.size (fun _ => True) (.slice Ac A.length cc) A
  g : W.heap[gb]? = some (.cells #[.int .i64 n, .slice Ac A.length cc, .slice none 0 0, .slice none 0 0, .slice none 0 0, .slice none 0 0, .slice (some ⟨kb, 0, none⟩) A.length A.length] 63 (0, 0))
  kept : OwnB W kb A.length K
  below : Below w.heap.size w W
  gk : w.heap.size ≤ gb ∧ w.heap.size ≤ kb
variable {gb kb cc : Nat} {Ac : Option Addr} {A : List S42}
theorem GrS.still (h : GrS w W n gb kb Ac cc A K) (b : Below W.heap.size W W') : GrS w W' n gb kb Ac cc A K :=
  ⟨(b.block _ (blk_lt h.m)).trans h.m, Kd.R_below h.arcs b, (b.block _ (blk_lt h.g)).trans h.g, h.kept.below b, h.below.trans (b.mono h.below.size), h.gk⟩
theorem GrS.MB (h : GrS w W n gb kb Ac cc A K) : MB W w.heap.size n A := by
  have h2 := Kd.R_reads' h.arcs
  exact ⟨Ac, cc, h.m, h2.2.1, h2.2.2⟩
theorem GrS.set (h : GrS w W n gb kb Ac cc A K) (j : Nat) (x : Bool) : GrS w (W.setCell ⟨kb, j, none⟩ (.bool x)) n gb kb Ac cc A (K.set j x) := by
  obtain ⟨cs, hc⟩ := own_typed h.kept kb rfl
  exact ⟨(Below.heap_setCell W ⟨kb, j, none⟩ _ _ (ne_typed h.m hc (by decide))).trans h.m, Kd.R_set h.arcs hc (by decide) j _, (Below.heap_setCell W ⟨kb, j, none⟩ _ _ (ne_typed h.g hc (by decide))).trans h.g, h.kept.set j x, h.below.setCell (p := ⟨kb, j, none⟩) h.gk.2 _, h.gk⟩
theorem info4' : (Try.prog.info? 4).map (fun i => (i.zero, i.size, i.bytes)) = some (some (.bool false), 1, 1) := by kernel_rfl
theorem bools_zero (n : Nat) : (List.replicate n false).map Value.bool = (madeCells #[.bool false] n).toList := by
  rw [toList_madeCells_one]
  simp
/-- what graph.New gives -/
def GNew (w : World) (n : Nat) (A : List S42) (r : Ending) (w' : World) : Prop := ∃ (gb : Nat) (E : Nat → List EdgP), r = .returned (.pointer (some ⟨gb, 0, none⟩)) ∧ GRep w' gb n E ∧ GOk n A.length (frA A) (twA A) (wtA A) E ∧ Below w.heap.size w w'
theorem C_cells {α : Type} {d : Kd α} {A : Option Addr} {m : Nat} {xs : List α} (h : Kd.C d w A m xs) (hK : ∀ p c, d.K w p c → d.K W p c) (hc : ∀ (a : Addr) v, w.cell? a = some v → W.cell? a = some v) : Kd.C d W A m xs := by
  obtain ⟨h1, h2, h3⟩ := h
  refine ⟨h1, h2, fun hm => ?_⟩
  obtain ⟨a, e, h4⟩ := h3 hm
  refine ⟨a, e, fun j p hj => ?_⟩
  obtain ⟨c, hl, hk, h5⟩ := h4 j p hj
  exact ⟨c, hl, hK p c hk, fun i u hu => hc _ _ (h5 i u hu)⟩
theorem cell_put {D : Nat} {l : Option (List Deferred)} (hD : w.heap[D]? = some (.deferred l)) (o' : Obj) (a : Addr) (v : Value) (h : w.cell? a = some v) : (w.putObj D o').cell? a = some v := by
  have hne : a.block ≠ D := fun e => by
    simp [World.cell?, e, hD] at h
  exact (World.cell?_of_block (World.putObj_heap_other hne)).trans h
end Go.Proofs.Ytfppfdejjifhdaa.PAll
