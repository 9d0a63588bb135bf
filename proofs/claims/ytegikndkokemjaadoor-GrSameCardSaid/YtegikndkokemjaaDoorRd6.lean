import Derived.Test.YtegikndkokemjaaDoorRd5
namespace Go.Proofs.YtegikndkokemjaaDoor.PAll
open Go.RowKit Go.Proofs.YtegikndkokemjaaDoorW.PrintWords Go.Proofs.YtegikndkokemjaaDoorW.PrintLast Go.Proofs.YtegikndkokemjaaDoorW.PrintMore
open GrFn Go.Shelf
open Range (SeqCell wpIn_rangeFunc_cell)
set_option linter.unusedVariables false
set_option linter.unusedSimpArgs false
attribute [local go_sem] Oper.semAt_some

/-- strings.CutSuffix at a line's end -/
theorem cutsuffix_any (s : ByteArray) (hs : s.size ≤ 2147483648) (w : World) :
    Calls Tryd.prog 22 #[.string s, .string ⟨#[10]⟩] w fun e w' => e = .returned (.tuple #[.string ⟨(GrFn.strip (bytes s)).1.toArray⟩, .bool (GrFn.strip (bytes s)).2]) ∧ w = w' := by
  refine (Any.strings_CutSuffix Tryd.lays104 s ⟨#[10]⟩ w (by omega)).mono ?_
  rintro e w' ⟨rfl, rfl⟩
  refine ⟨?_, rfl⟩
  show Ending.returned (.tuple #[.string ⟨(Lib.trimSuffix (bytes s) [10]).toArray⟩, .bool (Lib.hasSuffix (bytes s) [10])]) = _
  generalize bytes s = l
  have e1 : Lib.hasSuffix l [10] = (GrFn.strip l).2 := by
    unfold Lib.hasSuffix GrFn.strip
    rw [Bool.eq_iff_iff, List.isSuffixOf_iff_suffix]
    constructor
    · rintro ⟨r, rfl⟩; simp
    · intro h
      split at h
      · rename_i h1
        obtain ⟨hne, hl⟩ := List.getLast?_eq_some_iff.1 h1
        exact ⟨_, hl.symm⟩
      · cases h
  have e2 : Lib.trimSuffix l [10] = (GrFn.strip l).1 := by
    unfold Lib.trimSuffix
    rw [e1]
    unfold GrFn.strip
    split
    · simp [List.dropLast_eq_take]
    · simp
  rw [e1, e2]

/-- what Parse has laid, between two lines -/
structure Between (w : World) (s : ByteArray) (en : Bool) (k : Int) (b : Bool) (t : St) (W : World) : Prop where
  sbox : Boxed W w.heap.size 9 (.string s)
  res : W.heap[w.heap.size + 1]? = some (.cells #[.int .i64 0, .slice none 0 0] 25 (0, 0))
  rd : ∃ v, Rdr W w.heap.size (w.heap.size + 2) v t
  rptr : Boxed W (w.heap.size + 3) 52 (.pointer (some ⟨w.heap.size + 2, 0, none⟩))
  ended : Boxed W (w.heap.size + 4) 4 (.bool en)
  at_ : Boxed W (w.heap.size + 5) 3 (.int .i64 k)
  bad : Boxed W (w.heap.size + 6) 4 (.bool b)
  it0 : ∃ u, Boxed W (w.heap.size + 7) 9 u
  it1 : ∃ u, Boxed W (w.heap.size + 8) 9 u
  it2 : ∃ u, Boxed W (w.heap.size + 9) 3 u
  below : Below w.heap.size w W

/-- the reader ahead of any line -/
def t0 : St := ⟨0, [], -1⟩

theorem boxed_cells_own {W W' : World} {row : Option Nat} {B : Nat} (hrow : ∀ r, row = some r → B ≤ r ∧ ∃ o : Obj, W.heap[r]? = some o ∧ o.isCells = false) {k : Nat} {cs : Array Value} {ty : TypeId} (hk : W.heap[k]? = some (.cells cs ty (0, 0))) : some k ≠ row := fun e => by
  obtain ⟨_, o', ho', hc⟩ := hrow k e.symm
  rw [hk] at ho'; cases ho'; cases hc

theorem rdr_grown {W W' : World} {row : Option Nat} {B B0 rb : Nat} {v : Value} {t : St} (h : Rdr W B0 rb v t) (hg : W.grownBy W' row) (hrow : ∀ r, row = some r → B ≤ r ∧ ∃ o : Obj, W.heap[r]? = some o ∧ o.isCells = false) : Rdr W' B0 rb v t := by
  refine ⟨(hg.block rb (blk_lt h.blk) (boxed_cells_own (W' := W') hrow h.blk)).trans h.blk, ?_, h.base, h.n0, h.n1, h.m0, h.m1, h.len⟩
  refine Kd.R_mono (Kd.R_move (Kd.R_bound h.arcs) (fun k hk => ?_)) (fun _ hk => hk.1)
  obtain ⟨_, _, hlt, q, _, cells, hc⟩ := hk
  exact hg.block k hlt (boxed_cells_own (W' := W') hrow hc)

theorem rdr_set {W : World} {B0 rb k : Nat} {v : Value} {t : St} (h : Rdr W B0 rb v t) {cs : Array Value} {ty : TypeId} (hk : W.heap[k]? = some (.cells cs ty (0, 0))) (hty : ty ≠ 50) (hne : rb ≠ k) (j : Nat) (u : Value) : Rdr (W.setCell ⟨k, j, none⟩ u) B0 rb v t := by
  refine ⟨(Below.heap_setCell W ⟨k, j, none⟩ u rb hne).trans h.blk, Kd.R_set h.arcs hk ?_ j u, h.base, h.n0, h.n1, h.m0, h.m1, h.len⟩
  intro q hq
  have hE : k50.E = [] := rfl
  rw [hE] at hq
  have : q = 50 := by simpa using hq
  subst this
  exact hty.symm

theorem between_set {w : World} {s : ByteArray} {en : Bool} {k : Int} {b : Bool} {t : St} {W : World} (h : Between w s en k b t W) (u : Value) : Between w s en k b t (W.setCell ⟨w.heap.size + 7, 0, none⟩ u) := by
  obtain ⟨u0, h0⟩ := h.it0
  obtain ⟨u1, h1⟩ := h.it1
  obtain ⟨u2, h2⟩ := h.it2
  obtain ⟨v, hr⟩ := h.rd
  exact ⟨h.sbox.other (by omega) u, (Below.heap_setCell W ⟨_, 0, none⟩ u _ (by simp)).trans h.res, ⟨v, rdr_set hr h0 (by decide) (by omega) 0 u⟩, h.rptr.other (by omega) u, h.ended.other (by omega) u, h.at_.other (by omega) u, h.bad.other (by omega) u,
    ⟨u, h0.set u⟩, ⟨u1, h1.other (by omega) u⟩, ⟨u2, h2.other (by omega) u⟩, h.below.setCell (p := ⟨w.heap.size + 7, 0, none⟩) (by simp) u⟩

theorem between_grown {w : World} {s : ByteArray} {en : Bool} {k : Int} {b : Bool} {t : St} {W W' : World} (h : Between w s en k b t W) {row : Option Nat} {B : Nat} (hB : w.heap.size ≤ B) (hg : W.grownBy W' row) (hrow : ∀ r, row = some r → B ≤ r ∧ ∃ o : Obj, W.heap[r]? = some o ∧ o.isCells = false) : Between w s en k b t W' := by
  obtain ⟨u0, h0⟩ := h.it0
  obtain ⟨u1, h1⟩ := h.it1
  obtain ⟨u2, h2⟩ := h.it2
  obtain ⟨v, hr⟩ := h.rd
  have go : ∀ {k : Nat} {cs : Array Value} {ty : TypeId}, W.heap[k]? = some (.cells cs ty (0, 0)) → W'.heap[k]? = some (.cells cs ty (0, 0)) := fun hk => (hg.block _ (blk_lt hk) (boxed_cells_own (W' := W') hrow hk)).trans hk
  exact ⟨go h.sbox, go h.res, ⟨v, rdr_grown hr hg hrow⟩, go h.rptr, go h.ended, go h.at_, go h.bad, ⟨u0, go h0⟩, ⟨u1, go h1⟩, ⟨u2, go h2⟩, h.below.grown hg h.below.size (fun k e => Nat.le_trans hB (hrow k e).1)⟩

/-- a line that is read -/
theorem between_line {w : World} {s : ByteArray} {en : Bool} {k k' : Int} {b : Bool} {t : St} {W W1 : World} (h : Between w s en k b t W) {v : Value} (hv : Rdr (W.setCell ⟨w.heap.size + 5, 0, none⟩ (.int .i64 k')) w.heap.size (w.heap.size + 2) v t) {q : Option St} {e : Ending}
    (hst : StepTo (W.setCell ⟨w.heap.size + 5, 0, none⟩ (.int .i64 k')) w.heap.size (w.heap.size + 2) v t q e W1) :
    Between w s en k' b (q.getD t) W1 ∧ KeepsOthers W W1 ∧ Split.Keeps (w.heap.size + 7) W W1 := by
  obtain ⟨u0, h0⟩ := h.it0
  obtain ⟨u1, h1⟩ := h.it1
  obtain ⟨u2, h2⟩ := h.it2
  obtain ⟨_, v', hr', hb', hk'⟩ := hst
  have keep : ∀ {j : Nat} {cs : Array Value} {ty : TypeId}, (W.setCell ⟨w.heap.size + 5, 0, none⟩ (.int .i64 k')).heap[j]? = some (.cells cs ty (0, 0)) → ty ≠ 50 → j ≠ w.heap.size + 2 → W1.heap[j]? = some (.cells cs ty (0, 0)) := by
    intro j cs ty hj hty hne
    refine (hk'.2 j (blk_lt hj) ?_).trans hj
    rintro (rfl | e1)
    · exact hne rfl
    · obtain ⟨cells, hc⟩ := Kd.R_typed hv.arcs j e1.symm
      rw [hj] at hc
      cases hc
      exact hty rfl
  have old : ∀ {j : Nat} {cs : Array Value} {ty : TypeId}, W.heap[j]? = some (.cells cs ty (0, 0)) → ty ≠ 50 → j ≠ w.heap.size + 2 → j ≠ w.heap.size + 5 → W1.heap[j]? = some (.cells cs ty (0, 0)) := fun hj h1 h2 h3 =>
    keep ((Below.heap_setCell W ⟨w.heap.size + 5, 0, none⟩ _ _ h3).trans hj) h1 h2
  refine ⟨⟨old h.sbox (by decide) (by omega) (by omega), old h.res (by decide) (by omega) (by omega), ⟨v', hr'⟩, old h.rptr (by decide) (by omega) (by omega), old h.ended (by decide) (by omega) (by omega), keep (h.at_.set _) (by decide) (by omega), old h.bad (by decide) (by omega) (by omega),
    ⟨u0, old h0 (by decide) (by omega) (by omega)⟩, ⟨u1, old h1 (by decide) (by omega) (by omega)⟩, ⟨u2, old h2 (by decide) (by omega) (by omega)⟩, (h.below.setCell (p := ⟨w.heap.size + 5, 0, none⟩) (by simp) _).trans hb'⟩, ?_, ?_⟩
  · refine (KeepsOthers.setCell W ⟨w.heap.size + 5, 0, none⟩ (.int .i64 k')).trans ⟨hk'.1, fun j o hj ho => ?_⟩
    refine (hk'.2 j (Array.getElem?_eq_some_iff.1 hj).1 ?_).trans hj
    rintro (rfl | e1)
    · rw [hv.blk] at hj; cases hj; cases ho
    · obtain ⟨cells, hc⟩ := Kd.R_typed hv.arcs j e1.symm
      rw [hj] at hc; cases hc; cases ho
  · intro j hj1 hj2
    have : j = w.heap.size + 7 ∨ j = w.heap.size + 8 ∨ j = w.heap.size + 9 := by omega
    rcases this with rfl | rfl | rfl
    · exact (old h0 (by decide) (by omega) (by omega)).trans h0.symm
    · exact (old h1 (by decide) (by omega) (by omega)).trans h1.symm
    · exact (old h2 (by decide) (by omega) (by omega)).trans h2.symm

end Go.Proofs.YtegikndkokemjaaDoor.PAll
