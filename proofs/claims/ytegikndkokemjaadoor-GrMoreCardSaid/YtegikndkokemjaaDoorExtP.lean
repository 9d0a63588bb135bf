import Derived.Test.YtegikndkokemjaaDoorRd5
namespace Go.Proofs.YtegikndkokemjaaDoor.PAll
open Go.RowKit Go.Proofs.YtegikndkokemjaaDoorW.PrintWords Go.Proofs.YtegikndkokemjaaDoorW.PrintLast Go.Proofs.YtegikndkokemjaaDoorW.PrintMore
open GrFn Go.Shelf
open Range (SeqCell wpIn_rangeFunc_cell)
set_option linter.unusedVariables false
set_option linter.unusedSimpArgs false
attribute [local go_sem] Oper.semAt_some

/-- strings.CutSuffix at a line's end -/
theorem cutsuffix_any (s : ByteArray) (hs : s.size ≤ 2147483648) (w : World) :
    Calls Tryd.prog 22 #[.string s, .string ⟨#[10]⟩] w fun e w' => e = .returned (.tuple #[.string ⟨(GrFn.strip (bytes s)).1.toArray⟩, .bool (GrFn.strip (bytes s)).2]) ∧ w = w' := by
  refine (Any.strings_CutSuffix Tryd.lays104 s ⟨#[10]⟩ w (by omega)).mono ?_
  rintro e w' ⟨rfl, rfl⟩
  refine ⟨?_, rfl⟩
  show Ending.returned (.tuple #[.string ⟨(Lib.trimSuffix (bytes s) [10]).toArray⟩, .bool (Lib.hasSuffix (bytes s) [10])]) = _
  generalize bytes s = l
  have e1 : Lib.hasSuffix l [10] = (GrFn.strip l).2 := by
    unfold Lib.hasSuffix GrFn.strip
    rw [Bool.eq_iff_iff, List.isSuffixOf_iff_suffix]
    constructor
    · rintro ⟨r, rfl⟩; simp
    · intro h
      split at h
      · rename_i h1
        obtain ⟨hne, hl⟩ := List.getLast?_eq_some_iff.1 h1
        exact ⟨_, hl.symm⟩
      · cases h
  have e2 : Lib.trimSuffix l [10] = (GrFn.strip l).1 := by
    unfold Lib.trimSuffix
    rw [e1]
    unfold GrFn.strip
    split
    · simp [List.dropLast_eq_take]
    · simp
  rw [e1, e2]

/-- what Parse has laid, between two lines -/
structure Between (w : World) (s : ByteArray) (en : Bool) (k : Int) (b : Bool) (t : St) (W : World) : Prop where
  sbox : Boxed W w.heap.size 9 (.string s)
  res : W.heap[w.heap.size + 1]? = some (.cells #[.int .i64 0, .slice none 0 0] 25 (0, 0))
  rd : ∃ v, Rdr W w.heap.size (w.heap.size + 2) v t
  rptr : Boxed W (w.heap.size + 3) 52 (.pointer (some ⟨w.heap.size + 2, 0, none⟩))
  ended : Boxed W (w.heap.size + 4) 4 (.bool en)
  at_ : Boxed W (w.heap.size + 5) 3 (.int .i64 k)
  bad : Boxed W (w.heap.size + 6) 4 (.bool b)
  it0 : ∃ u, Boxed W (w.heap.size + 7) 9 u
  it1 : ∃ u, Boxed W (w.heap.size + 8) 9 u
  it2 : ∃ u, Boxed W (w.heap.size + 9) 3 u
  below : Below w.heap.size w W

/-- the reader ahead of any line -/
def t0 : St := ⟨0, [], -1⟩

theorem boxed_cells_own {W W' : World} {row : Option Nat} {B : Nat} (hrow : ∀ r, row = some r → B ≤ r ∧ ∃ o : Obj, W.heap[r]? = some o ∧ o.isCells = false) {k : Nat} {cs : Array Value} {ty : TypeId} (hk : W.heap[k]? = some (.cells cs ty (0, 0))) : some k ≠ row := fun e => by
  obtain ⟨_, o', ho', hc⟩ := hrow k e.symm
  rw [hk] at ho'; cases ho'; cases hc

theorem rdr_grown {W W' : World} {row : Option Nat} {B B0 rb : Nat} {v : Value} {t : St} (h : Rdr W B0 rb v t) (hg : W.grownBy W' row) (hrow : ∀ r, row = some r → B ≤ r ∧ ∃ o : Obj, W.heap[r]? = some o ∧ o.isCells = false) : Rdr W' B0 rb v t := by
  refine ⟨(hg.block rb (blk_lt h.blk) (boxed_cells_own (W' := W') hrow h.blk)).trans h.blk, ?_, h.base, h.n0, h.n1, h.m0, h.m1, h.len⟩
  refine Kd.R_mono (Kd.R_move (Kd.R_bound h.arcs) (fun k hk => ?_)) (fun _ hk => hk.1)
  obtain ⟨_, _, hlt, q, _, cells, hc⟩ := hk
  exact hg.block k hlt (boxed_cells_own (W' := W') hrow hc)

theorem rdr_set {W : World} {B0 rb k : Nat} {v : Value} {t : St} (h : Rdr W B0 rb v t) {cs : Array Value} {ty : TypeId} (hk : W.heap[k]? = some (.cells cs ty (0, 0))) (hty : ty ≠ 50) (hne : rb ≠ k) (j : Nat) (u : Value) : Rdr (W.setCell ⟨k, j, none⟩ u) B0 rb v t := by
  refine ⟨(Below.heap_setCell W ⟨k, j, none⟩ u rb hne).trans h.blk, Kd.R_set h.arcs hk ?_ j u, h.base, h.n0, h.n1, h.m0, h.m1, h.len⟩
  intro q hq
  have hE : k50.E = [] := rfl
  rw [hE] at hq
  have : q = 50 := by simpa using hq
  subst this
  exact hty.symm

theorem between_set {w : World} {s : ByteArray} {en : Bool} {k : Int} {b : Bool} {t : St} {W : World} (h : Between w s en k b t W) (u : Value) : Between w s en k b t (W.setCell ⟨w.heap.size + 7, 0, none⟩ u) := by
  obtain ⟨u0, h0⟩ := h.it0
  obtain ⟨u1, h1⟩ := h.it1
  obtain ⟨u2, h2⟩ := h.it2
  obtain ⟨v, hr⟩ := h.rd
  exact ⟨h.sbox.other (by omega) u, (Below.heap_setCell W ⟨_, 0, none⟩ u _ (by simp)).trans h.res, ⟨v, rdr_set hr h0 (by decide) (by omega) 0 u⟩, h.rptr.other (by omega) u, h.ended.other (by omega) u, h.at_.other (by omega) u, h.bad.other (by omega) u,
    ⟨u, h0.set u⟩, ⟨u1, h1.other (by omega) u⟩, ⟨u2, h2.other (by omega) u⟩, h.below.setCell (p := ⟨w.heap.size + 7, 0, none⟩) (by simp) u⟩

theorem between_grown {w : World} {s : ByteArray} {en : Bool} {k : Int} {b : Bool} {t : St} {W W' : World} (h : Between w s en k b t W) {row : Option Nat} {B : Nat} (hB : w.heap.size ≤ B) (hg : W.grownBy W' row) (hrow : ∀ r, row = some r → B ≤ r ∧ ∃ o : Obj, W.heap[r]? = some o ∧ o.isCells = false) : Between w s en k b t W' := by
  obtain ⟨u0, h0⟩ := h.it0
  obtain ⟨u1, h1⟩ := h.it1
  obtain ⟨u2, h2⟩ := h.it2
  obtain ⟨v, hr⟩ := h.rd
  have go : ∀ {k : Nat} {cs : Array Value} {ty : TypeId}, W.heap[k]? = some (.cells cs ty (0, 0)) → W'.heap[k]? = some (.cells cs ty (0, 0)) := fun hk => (hg.block _ (blk_lt hk) (boxed_cells_own (W' := W') hrow hk)).trans hk
  exact ⟨go h.sbox, go h.res, ⟨v, rdr_grown hr hg hrow⟩, go h.rptr, go h.ended, go h.at_, go h.bad, ⟨u0, go h0⟩, ⟨u1, go h1⟩, ⟨u2, go h2⟩, h.below.grown hg h.below.size (fun k e => Nat.le_trans hB (hrow k e).1)⟩

/-- a line that is read -/
theorem between_line {w : World} {s : ByteArray} {en : Bool} {k k' : Int} {b : Bool} {t : St} {W W1 : World} (h : Between w s en k b t W) {v : Value} (hv : Rdr (W.setCell ⟨w.heap.size + 5, 0, none⟩ (.int .i64 k')) w.heap.size (w.heap.size + 2) v t) {q : Option St} {e : Ending}
    (hst : StepTo (W.setCell ⟨w.heap.size + 5, 0, none⟩ (.int .i64 k')) w.heap.size (w.heap.size + 2) v t q e W1) :
    Between w s en k' b (q.getD t) W1 ∧ KeepsOthers W W1 ∧ Split.Keeps (w.heap.size + 7) W W1 := by
  obtain ⟨u0, h0⟩ := h.it0
  obtain ⟨u1, h1⟩ := h.it1
  obtain ⟨u2, h2⟩ := h.it2
  obtain ⟨_, v', hr', hb', hk'⟩ := hst
  have keep : ∀ {j : Nat} {cs : Array Value} {ty : TypeId}, (W.setCell ⟨w.heap.size + 5, 0, none⟩ (.int .i64 k')).heap[j]? = some (.cells cs ty (0, 0)) → ty ≠ 50 → j ≠ w.heap.size + 2 → W1.heap[j]? = some (.cells cs ty (0, 0)) := by
    intro j cs ty hj hty hne
    refine (hk'.2 j (blk_lt hj) ?_).trans hj
    rintro (rfl | e1)
    · exact hne rfl
    · obtain ⟨cells, hc⟩ := Kd.R_typed hv.arcs j e1.symm
      rw [hj] at hc
      cases hc
      exact hty rfl
  have old : ∀ {j : Nat} {cs : Array Value} {ty : TypeId}, W.heap[j]? = some (.cells cs ty (0, 0)) → ty ≠ 50 → j ≠ w.heap.size + 2 → j ≠ w.heap.size + 5 → W1.heap[j]? = some (.cells cs ty (0, 0)) := fun hj h1 h2 h3 =>
    keep ((Below.heap_setCell W ⟨w.heap.size + 5, 0, none⟩ _ _ h3).trans hj) h1 h2
  refine ⟨⟨old h.sbox (by decide) (by omega) (by omega), old h.res (by decide) (by omega) (by omega), ⟨v', hr'⟩, old h.rptr (by decide) (by omega) (by omega), old h.ended (by decide) (by omega) (by omega), keep (h.at_.set _) (by decide) (by omega), old h.bad (by decide) (by omega) (by omega),
    ⟨u0, old h0 (by decide) (by omega) (by omega)⟩, ⟨u1, old h1 (by decide) (by omega) (by omega)⟩, ⟨u2, old h2 (by decide) (by omega) (by omega)⟩, (h.below.setCell (p := ⟨w.heap.size + 5, 0, none⟩) (by simp) _).trans hb'⟩, ?_, ?_⟩
  · refine (KeepsOthers.setCell W ⟨w.heap.size + 5, 0, none⟩ (.int .i64 k')).trans ⟨hk'.1, fun j o hj ho => ?_⟩
    refine (hk'.2 j (Array.getElem?_eq_some_iff.1 hj).1 ?_).trans hj
    rintro (rfl | e1)
    · rw [hv.blk] at hj; cases hj; cases ho
    · obtain ⟨cells, hc⟩ := Kd.R_typed hv.arcs j e1.symm
      rw [hj] at hc; cases hc; cases ho
  · intro j hj1 hj2
    have : j = w.heap.size + 7 ∨ j = w.heap.size + 8 ∨ j = w.heap.size + 9 := by omega
    rcases this with rfl | rfl | rfl
    · exact (old h0 (by decide) (by omega) (by omega)).trans h0.symm
    · exact (old h1 (by decide) (by omega) (by omega)).trans h1.symm
    · exact (old h2 (by decide) (by omega) (by omega)).trans h2.symm

end Go.Proofs.YtegikndkokemjaaDoor.PAll

namespace Go.Proofs.YtegikndkokemjaaDoor.PAll
open Go.RowKit Go.Proofs.YtegikndkokemjaaDoorW.PrintWords Go.Proofs.YtegikndkokemjaaDoorW.PrintLast Go.Proofs.YtegikndkokemjaaDoorW.PrintMore
open GrFn Go.Shelf
open Range (SeqCell wpIn_rangeFunc_cell)
open Split (Short)
set_option linter.unusedVariables false
set_option linter.unusedSimpArgs false
attribute [local go_sem] Oper.semAt_some

theorem between_init {w W : World} {s : ByteArray} {en : Bool}
    (h : (((((((((w.alloc (.cells #[.string s] 9)).alloc (.cells #[.int .i64 0, .slice none 0 0] 25)).alloc (.cells #[.int .i64 0, .slice none 0 0, .int .i64 (-1)] 54)).alloc (.cells #[.pointer (some ⟨w.heap.size + 1 + 1, 0, none⟩)] 52)).alloc (.cells #[.bool en] 4)).alloc (.cells #[.int .i64 0] 3)).alloc (.cells #[.bool false] 4)).alloc (.cells #[.string s] 9)).alloc (.cells #[.string ⟨#[10]⟩] 9)).alloc (.cells #[.int .i64 0] 3) = W) :
    Between w s en 0 false t0 W ∧ Boxed W (w.heap.size + 7) 9 (.string s) ∧ Boxed W (w.heap.size + 7 + 1) 9 (.string ⟨#[10]⟩) ∧ Boxed W (w.heap.size + 7 + 2) 3 (.int .i64 0) ∧ W.heap.size = w.heap.size + 10 := by
  have b0 := blk_new w (.cells #[.string s] 9)
  obtain ⟨w1, e1⟩ : ∃ w1, w.alloc (.cells #[.string s] 9) = w1 := ⟨_, rfl⟩
  have z1 : w1.heap.size = w.heap.size + 1 := by rw [← e1]; simp
  rw [e1] at h b0
  have b1 := blk_new w1 (.cells #[.int .i64 0, .slice none 0 0] 25)
  obtain ⟨w2, e2⟩ : ∃ w2, w1.alloc (.cells #[.int .i64 0, .slice none 0 0] 25) = w2 := ⟨_, rfl⟩
  have z2 : w2.heap.size = w.heap.size + 2 := by rw [← e2]; simp; omega
  have b0 := blk_alloc b0 (.cells #[.int .i64 0, .slice none 0 0] 25)
  rw [e2] at h b0 b1
  have c2 := blk_new w2 (.cells #[.int .i64 0, .slice none 0 0, .int .i64 (-1)] 54)
  obtain ⟨w3, e3⟩ : ∃ w3, w2.alloc (.cells #[.int .i64 0, .slice none 0 0, .int .i64 (-1)] 54) = w3 := ⟨_, rfl⟩
  have z3 : w3.heap.size = w.heap.size + 3 := by rw [← e3]; simp; omega
  have b0 := blk_alloc b0 (.cells #[.int .i64 0, .slice none 0 0, .int .i64 (-1)] 54)
  have b1 := blk_alloc b1 (.cells #[.int .i64 0, .slice none 0 0, .int .i64 (-1)] 54)
  rw [e3] at h b0 b1 c2
  have keep : ∀ (o : Obj) {x y : World} {k : Nat} {ob : Obj}, x.alloc o = y → x.heap[k]? = some ob → y.heap[k]? = some ob := fun o x y k ob e hk => by rw [← e]; exact blk_alloc hk o
  obtain ⟨w4, e4⟩ : ∃ w4, w3.alloc (.cells #[.pointer (some ⟨w.heap.size + 1 + 1, 0, none⟩)] 52) = w4 := ⟨_, rfl⟩
  have n4 := blk_new w3 (.cells #[.pointer (some ⟨w.heap.size + 1 + 1, 0, none⟩)] 52)
  rw [e4] at h n4
  obtain ⟨w5, e5⟩ : ∃ w5, w4.alloc (.cells #[.bool en] 4) = w5 := ⟨_, rfl⟩
  have n5 := blk_new w4 (.cells #[.bool en] 4)
  rw [e5] at h n5
  obtain ⟨w6, e6⟩ : ∃ w6, w5.alloc (.cells #[.int .i64 0] 3) = w6 := ⟨_, rfl⟩
  have n6 := blk_new w5 (.cells #[.int .i64 0] 3)
  rw [e6] at h n6
  obtain ⟨w7, e7⟩ : ∃ w7, w6.alloc (.cells #[.bool false] 4) = w7 := ⟨_, rfl⟩
  have n7 := blk_new w6 (.cells #[.bool false] 4)
  rw [e7] at h n7
  obtain ⟨w8, e8⟩ : ∃ w8, w7.alloc (.cells #[.string s] 9) = w8 := ⟨_, rfl⟩
  have n8 := blk_new w7 (.cells #[.string s] 9)
  rw [e8] at h n8
  obtain ⟨w9, e9⟩ : ∃ w9, w8.alloc (.cells #[.string ⟨#[10]⟩] 9) = w9 := ⟨_, rfl⟩
  have n9 := blk_new w8 (.cells #[.string ⟨#[10]⟩] 9)
  rw [e9] at h n9
  have n10 := blk_new w9 (.cells #[.int .i64 0] 3)
  rw [h] at n10
  have z4 : w4.heap.size = w.heap.size + 4 := by rw [← e4]; simp; omega
  have z5 : w5.heap.size = w.heap.size + 5 := by rw [← e5]; simp; omega
  have z6 : w6.heap.size = w.heap.size + 6 := by rw [← e6]; simp; omega
  have z7 : w7.heap.size = w.heap.size + 7 := by rw [← e7]; simp; omega
  have z8 : w8.heap.size = w.heap.size + 8 := by rw [← e8]; simp; omega
  have z9 : w9.heap.size = w.heap.size + 9 := by rw [← e9]; simp; omega
  have z10 : W.heap.size = w.heap.size + 10 := by rw [← h]; simp; omega
  have up7 : ∀ {k : Nat} {ob : Obj}, w7.heap[k]? = some ob → W.heap[k]? = some ob := fun hk => keep _ h (keep _ e9 (keep _ e8 hk))
  have up3 : ∀ {k : Nat} {ob : Obj}, w3.heap[k]? = some ob → W.heap[k]? = some ob := fun hk => up7 (keep _ e7 (keep _ e6 (keep _ e5 (keep _ e4 hk))))
  rw [z1] at b1
  rw [z2] at c2
  rw [z3] at n4
  rw [z4] at n5
  rw [z5] at n6
  rw [z6] at n7
  rw [z7] at n8
  rw [z8] at n9
  rw [z9] at n10
  have hbel : Below w.heap.size w W := by
    have q1 : Below w.heap.size w w1 := by rw [← e1]; exact (Below.refl _ w).alloc (Nat.le_refl _) _
    have q2 : Below w.heap.size w w2 := by rw [← e2]; exact q1.alloc (by omega) _
    have q3 : Below w.heap.size w w3 := by rw [← e3]; exact q2.alloc (by omega) _
    have q4 : Below w.heap.size w w4 := by rw [← e4]; exact q3.alloc (by omega) _
    have q5 : Below w.heap.size w w5 := by rw [← e5]; exact q4.alloc (by omega) _
    have q6 : Below w.heap.size w w6 := by rw [← e6]; exact q5.alloc (by omega) _
    have q7 : Below w.heap.size w w7 := by rw [← e7]; exact q6.alloc (by omega) _
    have q8 : Below w.heap.size w w8 := by rw [← e8]; exact q7.alloc (by omega) _
    have q9 : Below w.heap.size w w9 := by rw [← e9]; exact q8.alloc (by omega) _
    rw [← h]
    exact q9.alloc (by omega) _
  refine ⟨⟨up3 b0, up3 b1, ⟨.slice none 0 0, ⟨up3 c2, Kd.R_nil _ _ _ _ _, by omega, by simp [t0], by simp [t0], by simp [t0], by simp [t0], by simp [t0]⟩⟩, up7 (keep _ e7 (keep _ e6 (keep _ e5 n4))), up7 (keep _ e7 (keep _ e6 n5)), up7 (keep _ e7 n6), up7 n7,
    ⟨_, keep _ h (keep _ e9 n8)⟩, ⟨_, keep _ h n9⟩, ⟨_, n10⟩, hbel⟩, keep _ h (keep _ e9 n8), keep _ h n9, n10, z10⟩

/-- what Parse answers -/
def ParsePost (o : M ⊕ Int) (w : World) (e : Ending) (w' : World) : Prop :=
  match o with
  | .inl m => ∃ v, e = .returned (.tuple #[.agg #[.int .i64 m.n, v], .int .i64 0, .int .i64 0]) ∧ Kd.R k50 50 w' w.heap.size (fun _ => True) v (m.arcs.map toS) ∧ Below w.heap.size w w'
  | .inr k => e = .returned (.tuple #[.agg #[.int .i64 0, .slice none 0 0], .int .i64 12, .int .i64 k]) ∧ Below w.heap.size w w'

end Go.Proofs.YtegikndkokemjaaDoor.PAll

namespace Go.Proofs.YtegikndkokemjaaDoor.PAll
open Go.RowKit Go.Proofs.YtegikndkokemjaaDoorW.PrintWords Go.Proofs.YtegikndkokemjaaDoorW.PrintLast Go.Proofs.YtegikndkokemjaaDoorW.PrintMore
open GrFn Go.Shelf
open Range (SeqCell wpIn_rangeFunc_cell)
open Split (Short)
set_option linter.unusedVariables false
set_option linter.unusedSimpArgs false
attribute [local go_sem] Oper.semAt_some

/-- the lines that have come -/
def came (pre : List Short) : List (List UInt8) := pre.map fun x => bytes x.1

/-- between two lines -/
def Going (w : World) (s : ByteArray) (en : Bool) (pre : List Short) (W : World) : Prop := ∃ t, Between w s en pre.length false t W ∧ GrFn.lines t0 (came pre) 0 = .inl t
/-- a line that may not be -/
def Gone (w : World) (s : ByteArray) (en : Bool) (c : Code) (pre : List Short) (W : World) : Prop := c = .exit 0 ∧ ∃ t, Between w s en pre.length true t W ∧ GrFn.lines t0 (came pre) 0 = .inr pre.length

theorem lines_snoc : ∀ (l : List (List UInt8)) (x : List UInt8) (t u : St) (i : Int), GrFn.lines t l i = .inl u → GrFn.lines t (l ++ [x]) i = match GrFn.line u x with
    | none => .inr (i + l.length + 1)
    | some v => .inl v
  | [], x, t, u, i, h => by
    have : t = u := by simpa [GrFn.lines] using h
    subst this
    simp only [List.nil_append, GrFn.lines]
    cases GrFn.line t x <;> simp [GrFn.lines]
  | y :: l, x, t, u, i, h => by
    simp only [List.cons_append, GrFn.lines] at h ⊢
    cases hy : GrFn.line t y with
    | none => rw [hy] at h; cases h
    | some t1 =>
      rw [hy] at h
      simp only at h ⊢
      rw [lines_snoc l x t1 u (i + 1) h]
      cases GrFn.line u x with
      | none => simp; omega
      | some v => rfl

theorem between_bad {w : World} {s : ByteArray} {en : Bool} {k : Int} {b : Bool} {t : St} {W : World} (h : Between w s en k b t W) (b' : Bool) : Between w s en k b' t (W.setCell ⟨w.heap.size + 6, 0, none⟩ (.bool b')) := by
  obtain ⟨u0, h0⟩ := h.it0
  obtain ⟨u1, h1⟩ := h.it1
  obtain ⟨u2, h2⟩ := h.it2
  obtain ⟨v, hr⟩ := h.rd
  exact ⟨h.sbox.other (by omega) _, (Below.heap_setCell W ⟨_, 0, none⟩ _ _ (by simp)).trans h.res, ⟨v, rdr_set hr h.bad (by decide) (by omega) 0 _⟩, h.rptr.other (by omega) _, h.ended.other (by omega) _, h.at_.other (by omega) _, h.bad.set _,
    ⟨u0, h0.other (by omega) _⟩, ⟨u1, h1.other (by omega) _⟩, ⟨u2, h2.other (by omega) _⟩, h.below.setCell (p := ⟨w.heap.size + 6, 0, none⟩) (by simp) _⟩

theorem going_on {w : World} {s : ByteArray} {en : Bool} {pre : List Short} {x : Short} {t : St} {W W1 : World} {v : Value} (hb : Between w s en pre.length false t W) (hl : GrFn.lines t0 (came pre) 0 = .inl t)
    (hv : Rdr (W.setCell ⟨w.heap.size + 5, 0, none⟩ (.int .i64 (pre.length + 1))) w.heap.size (w.heap.size + 2) v t) {u : St} (hu : GrFn.line t (bytes x.1) = some u) {e : Ending}
    (hst : StepTo (W.setCell ⟨w.heap.size + 5, 0, none⟩ (.int .i64 (pre.length + 1))) w.heap.size (w.heap.size + 2) v t (some u) e W1) :
    KeepsOthers W W1 ∧ Split.Keeps (w.heap.size + 7) W W1 ∧ Going w s en (pre ++ [x]) W1 := by
  obtain ⟨h1, h2, h3⟩ := between_line hb hv hst
  refine ⟨h2, h3, u, ?_, ?_⟩
  · simpa using h1
  · have := lines_snoc (came pre) (bytes x.1) t0 t 0 hl
    rw [hu] at this
    simpa [came] using this

theorem gone_off {w : World} {s : ByteArray} {en : Bool} {pre : List Short} {x : Short} {t : St} {W W1 : World} {v : Value} (hb : Between w s en pre.length false t W) (hl : GrFn.lines t0 (came pre) 0 = .inl t)
    (hv : Rdr (W.setCell ⟨w.heap.size + 5, 0, none⟩ (.int .i64 (pre.length + 1))) w.heap.size (w.heap.size + 2) v t) (hu : GrFn.line t (bytes x.1) = none) {e : Ending}
    (hst : StepTo (W.setCell ⟨w.heap.size + 5, 0, none⟩ (.int .i64 (pre.length + 1))) w.heap.size (w.heap.size + 2) v t none e W1) :
    KeepsOthers W (W1.setCell ⟨w.heap.size + 6, 0, none⟩ (.bool true)) ∧ Gone w s en (.exit 0) (pre ++ [x]) (W1.setCell ⟨w.heap.size + 6, 0, none⟩ (.bool true)) := by
  obtain ⟨h1, h2, h3⟩ := between_line hb hv hst
  refine ⟨h2.trans (KeepsOthers.setCell _ _ _), rfl, t, ?_, ?_⟩
  · have := between_bad h1 true
    simpa using this
  · have := lines_snoc (came pre) (bytes x.1) t0 t 0 hl
    rw [hu] at this
    simpa [came] using this

theorem rdr_drewN {W : World} {B0 rb : Nat} {v : Value} {t : St} (h : Rdr W B0 rb v t) (n : Nat) : Rdr (W.drewN n) B0 rb v t :=
  ⟨blk_drewN h.blk n, Kd.R_drewN h.arcs n, h.base, h.n0, h.n1, h.m0, h.m1, h.len⟩

/-- what Parse leaves at its end -/
theorem last_world {w W : World} {s : ByteArray} {en : Bool} {k : Int} {b : Bool} {t : St} {v : Value} (h : Between w s en k b t W) (hr : Rdr W w.heap.size (w.heap.size + 2) v t) {D : Nat} {l : Option (List Deferred)} (hD : W.heap[D]? = some (.deferred l)) (hwD : w.heap.size ≤ D) (nq : Nat) (o' : Obj) (n : Int) (x : Value) :
    (((W.drewN nq).setCell ⟨w.heap.size + 1, 0, none⟩ (.int .i64 n)).setCell ⟨w.heap.size + 1, 1, none⟩ x).heap[D]? = some (.deferred l) ∧
    ((((W.drewN nq).setCell ⟨w.heap.size + 1, 0, none⟩ (.int .i64 n)).setCell ⟨w.heap.size + 1, 1, none⟩ x).putObj D o').heap[w.heap.size + 1]? = some (.cells #[.int .i64 n, x] 25 (0, 0)) ∧
    Kd.R k50 50 ((((W.drewN nq).setCell ⟨w.heap.size + 1, 0, none⟩ (.int .i64 n)).setCell ⟨w.heap.size + 1, 1, none⟩ x).putObj D o') w.heap.size (fun _ => True) v (t.arcs.map toS) ∧
    Below w.heap.size w ((((W.drewN nq).setCell ⟨w.heap.size + 1, 0, none⟩ (.int .i64 n)).setCell ⟨w.heap.size + 1, 1, none⟩ x).putObj D o') := by
  have hne : w.heap.size + 1 ≠ D := fun e => by have h1 := h.res; rw [e, hD] at h1; cases h1
  have h0 := blk_drewN h.res nq
  have h1 := blk_set h0 0 (.int .i64 n)
  have h2 := blk_set h1 1 x
  have hD1 : (((W.drewN nq).setCell ⟨w.heap.size + 1, 0, none⟩ (.int .i64 n)).setCell ⟨w.heap.size + 1, 1, none⟩ x).heap[D]? = some (.deferred l) :=
    (Below.heap_setCell _ ⟨w.heap.size + 1, 1, none⟩ x D (fun e => hne e.symm)).trans ((Below.heap_setCell _ ⟨w.heap.size + 1, 0, none⟩ _ D (fun e => hne e.symm)).trans hD)
  refine ⟨hD1, (World.putObj_heap_other (fun e => hne e)).trans (h2.trans rfl), ?_, ?_⟩
  · exact (rdr_put (rdr_set (rdr_set (rdr_drewN hr nq) h0 (by decide) (by omega) 0 _) h1 (by decide) (by omega) 1 _) o' hD1 rfl).arcs
  · exact below_put o' (((pw_below_drewN h.below nq).setCell (p := ⟨w.heap.size + 1, 0, none⟩) (by simp) _).setCell (p := ⟨w.heap.size + 1, 1, none⟩) (by simp) _) hwD

theorem came_frags {s' : ByteArray} {l : List Short} (h : l.map (·.val) = Split.frags 10 s') : came l = GrFn.cutAt 10 (bytes s') := by
  have e1 : bytes ∘ (fun l : List UInt8 => (⟨l.toArray⟩ : ByteArray)) = id := by funext l; rfl
  have e2 : came l = (l.map (·.val)).map bytes := by simp [came]
  rw [e2, h]
  unfold Split.frags
  rw [List.map_map, e1, List.map_id]
  rfl

theorem came_before {s' : ByteArray} {l : List Short} (h : l.map (·.val) <+: Split.frags 10 s') : came l <+: GrFn.cutAt 10 (bytes s') := by
  have e1 : bytes ∘ (fun l : List UInt8 => (⟨l.toArray⟩ : ByteArray)) = id := by funext l; rfl
  have e2 : came l = (l.map (·.val)).map bytes := by simp [came]
  rw [e2]
  have h2 := h.map bytes
  have e3 : (Split.frags 10 s').map bytes = GrFn.cutAt 10 (bytes s') := by
    unfold Split.frags
    rw [List.map_map, e1, List.map_id]
    rfl
  rw [e3] at h2
  exact h2

theorem lines_more : ∀ (a b : List (List UInt8)) (t : St) (i k : Int), GrFn.lines t a i = .inr k → GrFn.lines t (a ++ b) i = .inr k
  | [], b, t, i, k, h => by cases h
  | x :: a, b, t, i, k, h => by
    simp only [List.cons_append, GrFn.lines] at h ⊢
    cases hx : GrFn.line t x with
    | none => rw [hx] at h; exact h
    | some u => rw [hx] at h; exact lines_more a b u (i + 1) k h

theorem parse_at {s s' : ByteArray} {en : Bool} (hs' : bytes s' = (GrFn.strip (bytes s)).1) (hen : en = (GrFn.strip (bytes s)).2) (hE : (s'.toList.isEmpty && !en) = false) :
    GrFn.parse (bytes s) = match GrFn.lines t0 (GrFn.cutAt 10 (bytes s')) 0 with
    | .inr i => .inr i
    | .inl t => if t.many = t.arcs.length then .inl ⟨t.n, t.arcs⟩ else .inr ((GrFn.cutAt 10 (bytes s')).length + 1) := by
  unfold GrFn.parse
  rw [if_neg, hs']
  · rfl
  · rintro ⟨h1, h2⟩
    rw [← hen] at h2
    rw [h2, toList_eq, hs', h1] at hE
    simp at hE

theorem post_ok {s s' : ByteArray} {en : Bool} {l : List Short} {t : St} {w W : World} {v : Value} (hs' : Hid (bytes s' = (GrFn.strip (bytes s)).1)) (hen : Hid (en = (GrFn.strip (bytes s)).2)) (hE : (s'.toList.isEmpty && !en) = false)
    (hK : l.map (·.val) = Split.frags 10 s') (hl : GrFn.lines t0 (came l) 0 = .inl t) (hq : t.many = (t.arcs.length : Int)) (h1 : Kd.R k50 50 W w.heap.size (fun _ => True) v (t.arcs.map toS)) (h2 : Below w.heap.size w W) :
    ParsePost (GrFn.parse (bytes s)) w (.returned (.tuple #[.agg #[.int .i64 t.n, v], .int .i64 0, .int .i64 0])) W := by
  rw [parse_at hs'.out hen.out hE, ← came_frags hK, hl]
  simp only [hq, if_true]
  exact ⟨v, rfl, h1, h2⟩

theorem post_few {s s' : ByteArray} {en : Bool} {l : List Short} {t : St} {w W : World} (hs' : Hid (bytes s' = (GrFn.strip (bytes s)).1)) (hen : Hid (en = (GrFn.strip (bytes s)).2)) (hE : (s'.toList.isEmpty && !en) = false)
    (hK : l.map (·.val) = Split.frags 10 s') (hl : GrFn.lines t0 (came l) 0 = .inl t) (hq : ¬ t.many = (t.arcs.length : Int)) (h2 : Below w.heap.size w W) :
    ParsePost (GrFn.parse (bytes s)) w (.returned (.tuple #[.agg #[.int .i64 0, .slice none 0 0], .int .i64 12, .int .i64 (l.length + 1)])) W := by
  rw [parse_at hs'.out hen.out hE, ← came_frags hK, hl]
  simp only [hq, if_false]
  refine ⟨?_, h2⟩
  simp [came]

theorem post_gone {s s' : ByteArray} {en : Bool} {l : List Short} {w W : World} {k : Int} (hs' : Hid (bytes s' = (GrFn.strip (bytes s)).1)) (hen : Hid (en = (GrFn.strip (bytes s)).2)) (hE : (s'.toList.isEmpty && !en) = false)
    (hK : l.map (·.val) <+: Split.frags 10 s') (hl : GrFn.lines t0 (came l) 0 = .inr k) (h2 : Below w.heap.size w W) :
    ParsePost (GrFn.parse (bytes s)) w (.returned (.tuple #[.agg #[.int .i64 0, .slice none 0 0], .int .i64 12, .int .i64 k])) W := by
  obtain ⟨r, hr⟩ := came_before hK
  rw [parse_at hs'.out hen.out hE, ← hr, lines_more _ r _ _ _ hl]
  exact ⟨rfl, h2⟩

set_option maxRecDepth 100000 in
set_option maxHeartbeats 4000000 in
theorem parse_main (s : ByteArray) (hs : s.size ≤ 2147483648) (s' : ByteArray) (en : Bool) (hs' : bytes s' = (GrFn.strip (bytes s)).1) (hen : en = (GrFn.strip (bytes s)).2) (hz : s'.size ≤ 2147483648) (hE : ((s'.toList.isEmpty && !en) = false)) (w : World) :
    Calls Tryd.prog 11 #[.string s] w fun e w' => ParsePost (GrFn.parse (bytes s)) w e w' := by
  have HC : Hid (∀ w, Calls Tryd.prog 22 #[.string s, .string ⟨#[10]⟩] w fun e w' => e = .returned (.tuple #[.string s', .bool en]) ∧ w = w') := by
    have e1 : s' = ⟨(GrFn.strip (bytes s)).1.toArray⟩ := by rw [← hs']; rfl
    rw [e1, hen]
    exact Lib.hid (fun w => cutsuffix_any s hs w)
  have HS := Lib.hid hs'
  have HN := Lib.hid hen
  clear hs' hen
  have hfl := frags_length 10 s'
  have hu25 := Tryd.underlying25
  have hu50 := Tryd.underlying50
  have hu54 := Tryd.underlying54
  refine (callsIn_wide (n := 8)).1 ?_
  refine callsIn_of_wp_marks Tryd.func11 rfl trivial ?_ rfl
  simp only [Tryd.ntmps11, List.size_toArray, List.length_cons, List.length_nil, Nat.reduceAdd, Nat.reduceSub, Array.replicate_succ, Array.replicate_zero, List.push_toArray, List.append_toArray, List.nil_append, List.cons_append]
  gi_wp2
  refine wpIn_wide.2 (wp_scope_straight ((wpIn_wide (n := 8)).1 ?_))
  gi_wp2_with (refine ⟨trivial, ?_⟩; gi_at_call 22; refine (callsIn_wide.2 (HC.out _)).mono ?_; rintro e w1 ⟨rfl, rfl⟩)
  refine wpIn_label ?_
  gi_wp2_with (refine ⟨trivial, ?_⟩; gi_at_call 23; refine (callsIn_wide.2 (Split.splitseq_any _ _ _)).mono ?_; rintro e w' ⟨rfl, hW⟩)
  obtain ⟨hb0, k0, k1, k2, ksz⟩ := between_init hW
  clear hW HC
  simp only [Nat.add_assoc, Nat.reduceAdd] at k1 k2 ⊢
  refine wpIn_rangeFunc_cell (cb := w.heap.size + 7) rfl (by omega) (gf := 50) (lb := #[.pointer (some ⟨w.heap.size + 8, 0, none⟩), .pointer (some ⟨w.heap.size + 7, 0, none⟩), .pointer (some ⟨w.heap.size + 9, 0, none⟩)]) rfl trivial (enters_of Tryd.func50 (by kernel_rfl) rfl)
    (by omega) (Split.split_seq_short 7 (by omega) (w.heap.size + 7) 10 s' hz w' k0 k1 k2)
    (fun h k i h1 h2 => (k i h1 h2).trans (h i h1 h2)) (fun W l o o' hl _ _ _ i h1 h2 => World.putObj_heap_other (by omega)) (Below.refl _ _) (fun _ => rfl)
    (Going w s' en) (Gone w s' en) (fun pre W u ⟨t, h, g⟩ => ⟨t, between_set h u, g⟩) (fun c pre W u ⟨e, t, h, g⟩ => ⟨e, t, between_set h u, g⟩)
    (fun pre W W' row ⟨t, h, g⟩ hg hr => ⟨t, between_grown h (by omega) hg hr, g⟩) (fun c pre W W' row ⟨e, t, h, g⟩ hg hr => ⟨e, t, between_grown h (by omega) hg hr, g⟩)
    ⟨t0, hb0, rfl⟩
    (fun x => { tmps := #[.string s, .pointer (some ⟨w.heap.size, 0, none⟩), .pointer (some ⟨w.heap.size + 1, 0, none⟩), .int .i64 0, .int .i64 0, .pointer (some ⟨w.heap.size + 3, 0, none⟩), .pointer (some ⟨w.heap.size + 4, 0, none⟩), .pointer (some ⟨w.heap.size + 5, 0, none⟩), .pointer (some ⟨w.heap.size + 6, 0, none⟩), .string x.1,
        .agg #[.int .i64 0, .slice none 0 0, .int .i64 (-1)], .pointer (some ⟨w.heap.size + 2, 0, none⟩), .tuple #[.string s', .bool en], .string s, .tuple #[.string s', .bool en], .string s', .bool en, .string s',
        .func (Fn.func 50) #[] #[.pointer (some ⟨w.heap.size + 8, 0, none⟩), .pointer (some ⟨w.heap.size + 7, 0, none⟩), .pointer (some ⟨w.heap.size + 9, 0, none⟩)], .string x.1,
        undef, undef, undef, undef, undef, undef, undef, undef, undef, undef, undef, undef, undef, undef, undef, undef, undef, undef, undef, undef, undef, undef, undef, undef, undef, undef, undef, undef, undef, undef, undef, undef, undef, undef, undef], defers := [] }) ?assign ?body ?done ?stop
  case assign =>
    intro l x W K hK
    gi_wp2
    exact hK
  case body =>
    rintro l pre x W ⟨t, hb, hl⟩ hlt
    obtain ⟨v, hr⟩ := hb.rd
    have cs := hb.sbox.cell
    have ce := hb.ended.cell
    have ca := hb.at_.cell
    have fa := hb.at_.frozen
    have cr := hb.rptr.cell
    have hr1 : Rdr (W.setCell ⟨w.heap.size + 5, 0, none⟩ (.int .i64 (pre.length + 1))) w.heap.size (w.heap.size + 2) v t := rdr_set hr hb.at_ (by decide) (by omega) 0 _
    have hcon := line_any t x.1 x.2 w.heap.size (w.heap.size + 2) v _ hr1 (by have := hb.below.size; simpa [World.setCell] using this)
    have HB := Lib.hid hb
    have HL := Lib.hid hl
    have HR1 := Lib.hid hr1
    have hE' : (s'.toList.isEmpty = true ∧ ∃ e', en = e' ∧ e' = true) ∨ (s'.toList.isEmpty = false) := by
      cases h1 : s'.toList.isEmpty
      · exact .inr rfl
      · rw [h1] at hE; left; exact ⟨rfl, en, rfl, by simpa using hE⟩
    have cb' : ∀ (W1 : World) (e : Ending) (q : Option St), StepTo (W.setCell ⟨w.heap.size + 5, 0, none⟩ (.int .i64 (pre.length + 1))) w.heap.size (w.heap.size + 2) v t q e W1 → W1.cell? ⟨w.heap.size + 6, 0, none⟩ = some (.bool false) ∧ W1.frozen? ⟨w.heap.size + 6, 0, none⟩ = false := fun W1 e q hst =>
      ⟨(between_line hb hr1 hst).1.bad.cell, (between_line hb hr1 hst).1.bad.frozen⟩
    cases hq : GrFn.line t (bytes x.1) with
    | none =>
      rw [hq] at hcon
      have HQ := Lib.hid hq
      have HCn := Lib.hid hcon
      have HCB := Lib.hid cb'
      clear hb hl hr1 hr hcon hq hE cb'
      rcases hE' with ⟨hE', e', rfl, rfl⟩ | hE'
      all_goals
        gi_wp2_with (refine ⟨trivial, ?_⟩; gi_at_call 24; refine (CallsIn.inRound l (callsIn_wide.2 HCn.out)).mono ?_; rintro e W1 hst; have hcb := HCB.out _ _ _ hst; obtain ⟨c6, f6⟩ := hcb; have HST := Lib.hid hst; obtain rfl := hst.1; clear hst)
        exact gone_off HB.out HL.out HR1.out HQ.out HST.out
    | some u =>
      rw [hq] at hcon
      have HQ := Lib.hid hq
      have HCn := Lib.hid hcon
      clear hb hl hr1 hr hcon hq hE cb'
      rcases hE' with ⟨hE', e', rfl, rfl⟩ | hE'
      all_goals
        gi_wp2_with (refine ⟨trivial, ?_⟩; gi_at_call 24; refine (CallsIn.inRound l (callsIn_wide.2 HCn.out)).mono ?_; rintro e W1 hst; have HST := Lib.hid hst; obtain rfl := hst.1; clear hst)
        exact going_on HB.out HL.out HR1.out HQ.out HST.out
  case done =>
    rintro D l W hD hK ⟨t, hb, hl⟩ hDf
    obtain ⟨v, hr⟩ := hb.rd
    have cb := hb.bad.cell
    have ca := hb.at_.cell
    have cr := hb.rptr.cell
    obtain ⟨c0, c1, c2, f0, f1, f2⟩ := hr.cells
    have HB := Lib.hid hb
    have HL := Lib.hid hl
    have HR := Lib.hid hr
    have hll : l.length ≤ 2147483649 := by
      have := congrArg List.length hK
      rw [List.length_map] at this
      omega
    obtain ⟨A, c, rfl, hcap, hC⟩ := Kd.R_reads hr.arcs
    rw [List.length_map] at c1 hcap
    have hn := hr.len
    have hm0 := hr.m0
    have hm1 := hr.m1
    obtain ⟨b1, r1⟩ : ∃ k, W.heap[w.heap.size + 1]? = some k := ⟨_, hb.res⟩
    have hres := hb.res
    have k0' : W.cell? ⟨w.heap.size + 1, 0, none⟩ = some (.int .i64 0) := (blk_cell hb.res 0).trans rfl
    have k1' : W.cell? ⟨w.heap.size + 1, 1, none⟩ = some (.slice none 0 0) := (blk_cell hb.res 1).trans rfl
    have g0' := blk_frozen hb.res 0
    have g1' := blk_frozen hb.res 1
    have hwD : w.heap.size ≤ D := by omega
    clear hb hl hr hC k0 k1 k2 ksz hb0
    by_cases hq : t.many = (t.arcs.length : Int)
    · gi_wp2
      refine wpIn_wide.2 ?_
      go_quiet (fail)
      gi_wp2
      have hfin := fun o' => last_world HB.out HR.out hDf hwD nq o' t.n (.slice A t.arcs.length c)
      refine ⟨by simp, .inl ⟨_, _, rfl, run_takeDeferred (hfin (.deferred none)).1, ?_⟩⟩
      refine ⟨_, results_ctt rfl _ _ (w.heap.size + 1) 25 #[.int .i64 t.n, .slice A t.arcs.length c] (0, 0) _ rfl (hfin _).2.1 Tryd.underlying25 rfl rfl, ?_⟩
      have h1 := (hfin (.deferred none)).2.2.1
      have h2 := (hfin (.deferred none)).2.2.2
      rw [List.length_map] at h1
      exact post_ok HS HN hE hK HL.out hq h1 h2
    · gi_wp2
      refine wpIn_wide.2 ?_
      go_quiet (fail)
      gi_wp2
      refine wpIn_wide.2 ?_
      go_region
      gi_wp2
      have hfin := fun o' => last_world HB.out HR.out hDf hwD (nq + 1) o' 0 (.slice none 0 0)
      refine ⟨by simp, .inl ⟨_, _, rfl, run_takeDeferred (hfin (.deferred none)).1, ?_⟩⟩
      refine ⟨_, results_ctt rfl _ _ (w.heap.size + 1) 25 #[.int .i64 0, .slice none 0 0] (0, 0) _ rfl (hfin _).2.1 Tryd.underlying25 rfl rfl, ?_⟩
      have h2 := (hfin (.deferred none)).2.2.2
      exact post_few HS HN hE hK HL.out hq h2
  case stop =>
    rintro D c0 l W hD hK ⟨rfl, t, hb, hl⟩ hDf
    obtain ⟨v, hr⟩ := hb.rd
    have cb := hb.bad.cell
    have ca := hb.at_.cell
    have HB := Lib.hid hb
    have HL := Lib.hid hl
    have HR := Lib.hid hr
    have k0' : W.cell? ⟨w.heap.size + 1, 0, none⟩ = some (.int .i64 0) := (blk_cell hb.res 0).trans rfl
    have k1' : W.cell? ⟨w.heap.size + 1, 1, none⟩ = some (.slice none 0 0) := (blk_cell hb.res 1).trans rfl
    have g0' := blk_frozen hb.res 0
    have g1' := blk_frozen hb.res 1
    have hwD : w.heap.size ≤ D := by omega
    clear hb hl hr k0 k1 k2 ksz hb0
    gi_wp2
    refine wpIn_wide.2 ?_
    go_region
    gi_wp2
    have hfin := fun o' => last_world HB.out HR.out hDf hwD 1 o' 0 (.slice none 0 0)
    refine ⟨by simp, .inl ⟨_, _, rfl, run_takeDeferred (hfin (.deferred none)).1, ?_⟩⟩
    refine ⟨_, results_ctt rfl _ _ (w.heap.size + 1) 25 #[.int .i64 0, .slice none 0 0] (0, 0) _ rfl (hfin _).2.1 Tryd.underlying25 rfl rfl, ?_⟩
    have h2 := (hfin (.deferred none)).2.2.2
    exact post_gone HS HN hE hK HL.out h2

end Go.Proofs.YtegikndkokemjaaDoor.PAll

namespace Go.Proofs.YtegikndkokemjaaDoor.PAll
open Go.RowKit Go.Proofs.YtegikndkokemjaaDoorW.PrintWords Go.Proofs.YtegikndkokemjaaDoorW.PrintLast Go.Proofs.YtegikndkokemjaaDoorW.PrintMore
open GrFn Go.Shelf
open Range (SeqCell wpIn_rangeFunc_cell)
open Split (Short)
set_option linter.unusedVariables false
set_option linter.unusedSimpArgs false
attribute [local go_sem] Oper.semAt_some

/-- no line has come -/
def None0 (w : World) (s : ByteArray) (pre : List Short) (W : World) : Prop := pre = [] ∧ Between w s false 0 false t0 W
/-- there is none -/
def Gone0 (w : World) (s : ByteArray) (c : Code) (pre : List Short) (W : World) : Prop := c = .exit 0 ∧ Between w s false 0 false t0 W

theorem post_empty {s s' : ByteArray} {w W : World} (hE : Hid (s' = ByteArray.empty)) (hs' : Hid (bytes s' = (GrFn.strip (bytes s)).1)) (hen : Hid (false = (GrFn.strip (bytes s)).2)) (h2 : Below w.heap.size w W) :
    ParsePost (GrFn.parse (bytes s)) w (.returned (.tuple #[.agg #[.int .i64 0, .slice none 0 0], .int .i64 12, .int .i64 1])) W := by
  have : GrFn.parse (bytes s) = .inr 1 := by
    unfold GrFn.parse
    rw [if_pos]
    have h1 := hs'.out
    rw [hE.out] at h1
    exact ⟨h1.symm, hen.out.symm⟩
  rw [this]
  exact ⟨rfl, h2⟩

set_option maxRecDepth 100000 in
set_option maxHeartbeats 4000000 in
theorem parse_empty (s : ByteArray) (hs : s.size ≤ 2147483648) (s' : ByteArray) (hs' : bytes s' = (GrFn.strip (bytes s)).1) (hen : false = (GrFn.strip (bytes s)).2) (hz : s'.size ≤ 2147483648) (hE : Hid (s' = ByteArray.empty)) (w : World) :
    Calls Tryd.prog 11 #[.string s] w fun e w' => ParsePost (GrFn.parse (bytes s)) w e w' := by
  have HC : Hid (∀ w, Calls Tryd.prog 22 #[.string s, .string ⟨#[10]⟩] w fun e w' => e = .returned (.tuple #[.string s', .bool false]) ∧ w = w') := by
    have e1 : s' = ⟨(GrFn.strip (bytes s)).1.toArray⟩ := by rw [← hs']; rfl
    rw [e1, show (false : Bool) = (GrFn.strip (bytes s)).2 from hen]
    exact Lib.hid (fun w => cutsuffix_any s hs w)
  have HS := Lib.hid hs'
  have HN := Lib.hid hen
  clear hs' hen
  have hfl := frags_length 10 s'
  have hu25 := Tryd.underlying25
  have hu50 := Tryd.underlying50
  have hu54 := Tryd.underlying54
  refine (callsIn_wide (n := 8)).1 ?_
  refine callsIn_of_wp_marks Tryd.func11 rfl trivial ?_ rfl
  simp only [Tryd.ntmps11, List.size_toArray, List.length_cons, List.length_nil, Nat.reduceAdd, Nat.reduceSub, Array.replicate_succ, Array.replicate_zero, List.push_toArray, List.append_toArray, List.nil_append, List.cons_append]
  gi_wp2
  refine wpIn_wide.2 (wp_scope_straight ((wpIn_wide (n := 8)).1 ?_))
  gi_wp2_with (refine ⟨trivial, ?_⟩; gi_at_call 22; refine (callsIn_wide.2 (HC.out _)).mono ?_; rintro e w1 ⟨rfl, rfl⟩)
  refine wpIn_label ?_
  gi_wp2_with (refine ⟨trivial, ?_⟩; gi_at_call 23; refine (callsIn_wide.2 (Split.splitseq_any _ _ _)).mono ?_; rintro e w' ⟨rfl, hW⟩)
  obtain ⟨hb0, k0, k1, k2, ksz⟩ := between_init hW
  clear hW HC
  simp only [Nat.add_assoc, Nat.reduceAdd] at k1 k2 ⊢
  refine wpIn_rangeFunc_cell (cb := w.heap.size + 7) rfl (by omega) (gf := 50) (lb := #[.pointer (some ⟨w.heap.size + 8, 0, none⟩), .pointer (some ⟨w.heap.size + 7, 0, none⟩), .pointer (some ⟨w.heap.size + 9, 0, none⟩)]) rfl trivial (enters_of Tryd.func50 (by kernel_rfl) rfl)
    (by omega) (Split.split_seq_short 7 (by omega) (w.heap.size + 7) 10 s' hz w' k0 k1 k2)
    (fun h k i h1 h2 => (k i h1 h2).trans (h i h1 h2)) (fun W l o o' hl _ _ _ i h1 h2 => World.putObj_heap_other (by omega)) (Below.refl _ _) (fun _ => rfl)
    (None0 w s') (Gone0 w s') (fun pre W u ⟨g, h⟩ => ⟨g, between_set h u⟩) (fun c pre W u ⟨e, h⟩ => ⟨e, between_set h u⟩)
    (fun pre W W' row ⟨g, h⟩ hg hr => ⟨g, between_grown h (by omega) hg hr⟩) (fun c pre W W' row ⟨e, h⟩ hg hr => ⟨e, between_grown h (by omega) hg hr⟩)
    ⟨rfl, hb0⟩
    (fun x => { tmps := #[.string s, .pointer (some ⟨w.heap.size, 0, none⟩), .pointer (some ⟨w.heap.size + 1, 0, none⟩), .int .i64 0, .int .i64 0, .pointer (some ⟨w.heap.size + 3, 0, none⟩), .pointer (some ⟨w.heap.size + 4, 0, none⟩), .pointer (some ⟨w.heap.size + 5, 0, none⟩), .pointer (some ⟨w.heap.size + 6, 0, none⟩), .string x.1,
        .agg #[.int .i64 0, .slice none 0 0, .int .i64 (-1)], .pointer (some ⟨w.heap.size + 2, 0, none⟩), .tuple #[.string s', .bool false], .string s, .tuple #[.string s', .bool false], .string s', .bool false, .string s',
        .func (Fn.func 50) #[] #[.pointer (some ⟨w.heap.size + 8, 0, none⟩), .pointer (some ⟨w.heap.size + 7, 0, none⟩), .pointer (some ⟨w.heap.size + 9, 0, none⟩)], .string x.1,
        undef, undef, undef, undef, undef, undef, undef, undef, undef, undef, undef, undef, undef, undef, undef, undef, undef, undef, undef, undef, undef, undef, undef, undef, undef, undef, undef, undef, undef, undef, undef, undef, undef, undef, undef], defers := [] }) ?assign ?body ?done ?stop
  case assign =>
    intro l x W K hK
    gi_wp2
    exact hK
  case body =>
    rintro l pre x W ⟨rfl, hb⟩ hlt
    have cs := hb.sbox.cell
    have ce := hb.ended.cell
    have hE' : s'.toList.isEmpty = true := by rw [hE.out, toList_eq]; rfl
    have HB := Lib.hid hb
    clear hb
    gi_wp2
    exact ⟨KeepsOthers.refl _, rfl, HB.out⟩
  case done =>
    rintro D l W hD hK ⟨rfl, hb⟩ hDf
    rw [hE.out] at hK
    cases hK
  case stop =>
    rintro D c0 l W hD hK ⟨rfl, hb⟩ hDf
    obtain ⟨v, hr⟩ := hb.rd
    have cb := hb.bad.cell
    have ca := hb.at_.cell
    have cr := hb.rptr.cell
    obtain ⟨c0, c1, c2, f0, f1, f2⟩ := hr.cells
    have HB := Lib.hid hb
    have HR := Lib.hid hr
    obtain ⟨A, c, rfl, hcap, hC⟩ := Kd.R_reads hr.arcs
    simp only [t0, List.map_nil, List.length_nil] at c0 c1 c2
    have k0' : W.cell? ⟨w.heap.size + 1, 0, none⟩ = some (.int .i64 0) := (blk_cell hb.res 0).trans rfl
    have k1' : W.cell? ⟨w.heap.size + 1, 1, none⟩ = some (.slice none 0 0) := (blk_cell hb.res 1).trans rfl
    have g0' := blk_frozen hb.res 0
    have g1' := blk_frozen hb.res 1
    have hwD : w.heap.size ≤ D := by omega
    clear hb hr hC k0 k1 k2 ksz hb0
    gi_wp2
    refine wpIn_wide.2 ?_
    go_quiet (fail)
    gi_wp2
    refine wpIn_wide.2 ?_
    go_region
    gi_wp2
    have hfin := fun o' => last_world HB.out HR.out hDf hwD (nq + 1) o' 0 (.slice none 0 0)
    refine ⟨by simp, .inl ⟨_, _, rfl, run_takeDeferred (hfin (.deferred none)).1, ?_⟩⟩
    refine ⟨_, results_ctt rfl _ _ (w.heap.size + 1) 25 #[.int .i64 0, .slice none 0 0] (0, 0) _ rfl (hfin _).2.1 Tryd.underlying25 rfl rfl, ?_⟩
    have h2 := (hfin (.deferred none)).2.2.2
    exact post_empty hE HS HN h2

end Go.Proofs.YtegikndkokemjaaDoor.PAll

namespace Go.Proofs.YtegikndkokemjaaDoor.PAll
open Go.RowKit Go.Proofs.YtegikndkokemjaaDoorW.PrintWords Go.Proofs.YtegikndkokemjaaDoorW.PrintLast Go.Proofs.YtegikndkokemjaaDoorW.PrintMore
open GrFn

theorem parse_any (s : ByteArray) (hs : s.size ≤ 2147483648) (w : World) :
    Calls Tryd.prog 11 #[.string s] w fun e w' => ParsePost (GrFn.parse (bytes s)) w e w' := by
  obtain ⟨en, hen⟩ : ∃ en, en = (GrFn.strip (bytes s)).2 := ⟨_, rfl⟩
  obtain ⟨s', hs'⟩ : ∃ s' : ByteArray, bytes s' = (GrFn.strip (bytes s)).1 := ⟨⟨(GrFn.strip (bytes s)).1.toArray⟩, rfl⟩
  have hz : s'.size ≤ 2147483648 := by
    have h1 : (bytes s').length ≤ (bytes s).length := by
      rw [hs']
      unfold GrFn.strip
      split <;> simp
    have h2 : (bytes s').length = s'.size := rfl
    have h3 : (bytes s).length = s.size := rfl
    omega
  cases hE : (s'.toList.isEmpty && !en) with
  | false => exact parse_main s hs s' en hs' hen hz hE w
  | true =>
    simp only [Bool.and_eq_true, Bool.not_eq_true'] at hE
    obtain ⟨h1, rfl⟩ := hE
    have : s' = ByteArray.empty := by
      rw [toList_eq] at h1
      have h2 : bytes s' = [] := by simpa using h1
      have h3 : s'.data = #[] := by
        apply Array.toList_inj.1
        exact h2
      cases s' with
      | mk d => simp only at h3; rw [h3]; rfl
    exact parse_empty s hs s' hs' hen hz (Lib.hid this) w

def gr_Parse.f (_k : Nat) (a0 : ByteArray) : Option (Int × List (S50) × Int × Int) :=
  if a0.size ≤ 2147483648 then
    match GrFn.parse (bytes a0) with
    | .inl m => some (m.n, m.arcs.map toS, 0, 0)
    | .inr at_ => some (0, [], 12, at_)
  else none
theorem gr_Parse.mono : ∀ a0 k, LeO (gr_Parse.f k a0) (gr_Parse.f (k + 1) a0) := fun _ _ => LeO.refl _
theorem gr_Parse.calls (k : Nat) (a0 : ByteArray) (r1 : Int) (r2 : List (S50)) (r3 : Int) (r4 : Int) (w : World) (h : gr_Parse.f k a0 = some (r1, r2, r3, r4)) :
    Calls Tryd.prog 11 #[.string a0] w fun e w' => ∃ v1_ : Value, e = .returned (.tuple #[.agg #[.int .i64 r1, v1_], .int .i64 r3, .int .i64 r4]) ∧ Kd.R k50 50 w' w.heap.size (fun _ => True) v1_ r2 ∧ Below w.heap.size w w' := by
  unfold gr_Parse.f at h
  split at h
  case isFalse => cases h
  case isTrue hs =>
    refine (parse_any a0 hs w).mono ?_
    intro e w' hp
    unfold ParsePost at hp
    cases hq : GrFn.parse (bytes a0) with
    | inl m =>
      rw [hq] at h hp
      simp only [Option.some.injEq, Prod.mk.injEq] at h
      obtain ⟨rfl, rfl, rfl, rfl⟩ := h
      obtain ⟨v, he, hR, hB⟩ := hp
      exact ⟨v, he, hR, hB⟩
    | inr i =>
      rw [hq] at h hp
      simp only [Option.some.injEq, Prod.mk.injEq] at h
      obtain ⟨rfl, rfl, rfl, rfl⟩ := h
      obtain ⟨he, hB⟩ := hp
      exact ⟨.slice none 0 0, he, Kd.R_nil _ _ _ _ _, hB⟩

end Go.Proofs.YtegikndkokemjaaDoor.PAll
