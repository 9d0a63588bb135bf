import Derived.Test.YtfppfdejjifhdaaQNoA
import Derived.Test.YtfppfdejjifhdaaQNuA
namespace Go.Proofs.Ytfppfdejjifhdaa.PAll
open Go.RowKit Go.Proofs.YtfppfdejjifhdaaW.PrintWords Go.Proofs.YtfppfdejjifhdaaW.PrintLast Go.Proofs.YtfppfdejjifhdaaW.PrintMore
open Hp hiding Good
set_option linter.unusedVariables false
set_option linter.unusedSimpArgs false

/-! ### left.New: the maps of maps -/
/-- as LRep, while the rows of the first m places are made; no way is laid yet -/
structure LMk (w W : World) (n m : Nat) (B : Nat → Nat) : Prop where
  b0 : B 0 = w.heap.size + 3
  b1 : B 1 = w.heap.size
  b2 : B 2 = w.heap.size + 1
  b3 : B 3 = w.heap.size + 2
  inj : ∀ i j, i < 4 + 2 * m → j < 4 + 2 * m → B i = B j → i = j
  lo : ∀ i, i < 4 + 2 * m → w.heap.size ≤ B i ∧ B i < W.heap.size
  blk : W.heap[w.heap.size + 3]? = some (.cells #[.map (some (B 1)), .map (some (B 2)), .map (some (B 3)), .int .i64 n] 50 (0, 0))
  out : MapV W (B 1) m (rowsV m fun v => B (4 + 2 * v))
  inn : MapV W (B 2) m (rowsV m fun v => B (5 + 2 * v))
  lost : MapI W (B 3) 0 (fun _ => none)
  outs : ∀ v : Nat, v < m → MapV W (B (4 + 2 * v)) 0 (fun _ => none)
  inns : ∀ v : Nat, v < m → MapV W (B (5 + 2 * v)) 0 (fun _ => none)
  below : Below w.heap.size w W
variable {w W W' : World} {n m : Nat} {B : Nat → Nat}
theorem LMk.still (h : LMk w W n m B) (g : Below W.heap.size W W') : LMk w W' n m B :=
  ⟨h.b0, h.b1, h.b2, h.b3, h.inj, fun i hi => ⟨(h.lo i hi).1, Nat.lt_of_lt_of_le (h.lo i hi).2 g.size⟩, (g.block _ (blk_lt h.blk)).trans h.blk, h.out.below g, h.inn.below g, h.lost.only (Only.of_below g (fun _ => False)) (fun f => f), fun v hv => (h.outs v hv).below g, fun v hv => (h.inns v hv).below g, h.below.trans (g.mono h.below.size)⟩
/-- one place more: its two rows, in zo and zi -/
def addB (B : Nat → Nat) (m zo zi : Nat) : Nat → Nat := fun i => if i = 4 + 2 * m then zo else if i = 5 + 2 * m then zi else B i
theorem rowsV_add (m z : Nat) (g g' : Nat → Nat) (h1 : g' m = z) (h2 : ∀ v, v < m → g' v = g v) : updV (rowsV m g) (m : Int) (.map (some z)) = rowsV (m + 1) g' := by
  funext x
  unfold updV rowsV
  by_cases hx : x = m
  · subst hx
    rw [if_pos rfl, if_pos (by omega), Int.toNat_natCast, h1]
  · rw [if_neg hx]
    by_cases h : 0 ≤ x ∧ x < m
    · rw [if_pos h, if_pos (by omega), h2 _ (by omega)]
    · rw [if_neg h, if_neg (by omega)]
theorem LMk.add {zo zi : Nat} {W1 : World} (h : LMk w W n m B) (hm : m < n) (hz : zo ≠ zi) (hzo : W.heap.size ≤ zo ∧ zo < W1.heap.size) (hzi : W.heap.size ≤ zi ∧ zi < W1.heap.size)
    (ho : MapV W1 (B 1) (m + 1) (updV (rowsV m fun v => B (4 + 2 * v)) (m : Int) (.map (some zo)))) (hi : MapV W1 (B 2) (m + 1) (updV (rowsV m fun v => B (5 + 2 * v)) (m : Int) (.map (some zi))))
    (hmo : MapV W1 zo 0 (fun _ => none)) (hmi : MapV W1 zi 0 (fun _ => none)) (g : Only W W1 (fun k => k = B 1 ∨ k = B 2)) : LMk w W1 n (m + 1) (addB B m zo zi) := by
  have e : ∀ i, i < 4 + 2 * m → addB B m zo zi i = B i := fun i hi => by unfold addB; rw [if_neg (by omega), if_neg (by omega)]
  have eo : addB B m zo zi (4 + 2 * m) = zo := by unfold addB; rw [if_pos rfl]
  have ei : addB B m zo zi (5 + 2 * m) = zi := by unfold addB; rw [if_neg (by omega), if_pos rfl]
  have hne : ∀ i, i < 4 + 2 * m → i ≠ 1 → i ≠ 2 → ¬ (B i = B 1 ∨ B i = B 2) := fun i hi h1 h2 f => by
    rcases f with f | f
    · exact h1 (h.inj i 1 hi (by omega) f)
    · exact h2 (h.inj i 2 hi (by omega) f)
  have hb12 : w.heap.size ≤ B 1 ∧ w.heap.size ≤ B 2 := ⟨(h.lo 1 (by omega)).1, (h.lo 2 (by omega)).1⟩
  refine ⟨(e 0 (by omega)).trans h.b0, (e 1 (by omega)).trans h.b1, (e 2 (by omega)).trans h.b2, (e 3 (by omega)).trans h.b3, fun i j hi' hj' hij => ?_, fun i hi' => ?_, ?_, ?_, ?_, ?_, fun v hv => ?_, fun v hv => ?_, ?_⟩
  · have lo : ∀ i, i < 4 + 2 * m → addB B m zo zi i < W.heap.size := fun i hi => by rw [e i hi]; exact (h.lo i hi).2
    by_cases hi1 : i < 4 + 2 * m
    · by_cases hj1 : j < 4 + 2 * m
      · rw [e i hi1, e j hj1] at hij; exact h.inj i j hi1 hj1 hij
      · have := lo i hi1
        have hj2 : j = 4 + 2 * m ∨ j = 5 + 2 * m := by omega
        rcases hj2 with rfl | rfl
        · rw [eo] at hij; omega
        · rw [ei] at hij; omega
    · have hi2 : i = 4 + 2 * m ∨ i = 5 + 2 * m := by omega
      by_cases hj1 : j < 4 + 2 * m
      · have := lo j hj1
        rcases hi2 with rfl | rfl
        · rw [eo] at hij; omega
        · rw [ei] at hij; omega
      · have hj2 : j = 4 + 2 * m ∨ j = 5 + 2 * m := by omega
        rcases hi2 with rfl | rfl <;> rcases hj2 with rfl | rfl
        · rfl
        · rw [eo, ei] at hij; exact absurd hij hz
        · rw [eo, ei] at hij; exact absurd hij.symm hz
        · rfl
  · by_cases hi1 : i < 4 + 2 * m
    · rw [e i hi1]
      have := h.lo i hi1
      have := g.size
      omega
    · have hi2 : i = 4 + 2 * m ∨ i = 5 + 2 * m := by omega
      have := h.below.size
      rcases hi2 with rfl | rfl
      · rw [eo]; omega
      · rw [ei]; omega
  · rw [e 1 (by omega), e 2 (by omega), e 3 (by omega)]
    refine (g.block _ (blk_lt h.blk) (fun f => ?_)).trans h.blk
    rw [← h.b0] at f
    exact hne 0 (by omega) (by omega) (by omega) f
  · rw [e 1 (by omega)]
    rw [rowsV_add m zo (fun v => B (4 + 2 * v)) (fun v => addB B m zo zi (4 + 2 * v)) eo (fun v hv => e _ (by omega))] at ho
    exact ho
  · rw [e 2 (by omega)]
    rw [rowsV_add m zi (fun v => B (5 + 2 * v)) (fun v => addB B m zo zi (5 + 2 * v)) ei (fun v hv => e _ (by omega))] at hi
    exact hi
  · rw [e 3 (by omega)]
    exact h.lost.only g (hne 3 (by omega) (by omega) (by omega))
  · by_cases hvm : v = m
    · subst hvm; rw [eo]; exact hmo
    · rw [e _ (by omega)]
      exact (h.outs v (by omega)).only g (hne _ (by omega) (by omega) (by omega))
  · by_cases hvm : v = m
    · subst hvm; rw [ei]; exact hmi
    · rw [e _ (by omega)]
      exact (h.inns v (by omega)).only g (hne _ (by omega) (by omega) (by omega))
  · exact h.below.trans (g.below h.below.size (fun k hk => by rcases hk with rfl | rfl; exact hb12.1; exact hb12.2))
theorem LMk.rep (h : LMk w W n n B) : LRep W (w.heap.size + 3) n n (fun _ _ => none) B :=
  ⟨h.b0, h.inj, h.blk, h.out, h.inn, h.lost.more (Nat.zero_le _), fun v hv => ((h.outs v hv).more (Nat.zero_le _)), fun v hv => ((h.inns v hv).more (Nat.zero_le _))⟩
end Go.Proofs.Ytfppfdejjifhdaa.PAll

namespace Go.Proofs.Ytfppfdejjifhdaa.PAll
open Go.RowKit Go.Proofs.YtfppfdejjifhdaaW.PrintWords Go.Proofs.YtfppfdejjifhdaaW.PrintLast Go.Proofs.YtfppfdejjifhdaaW.PrintMore
open Hp hiding Good
set_option linter.unusedVariables false
set_option linter.unusedSimpArgs false

/-! ### two rows are made and laid, in whatever order -/
/-- what is to be stored into an entry may be stored, while its map's block stays -/
def Waits (w' : World) (b m : Nat) (r : Int → Option Value) (st : Int) : Prop := ∀ (w2 : World) (v : Value), w2.heap[b]? = w'.heap[b]? → ∃ w3, (Instr.entryStore 46 (.map (some b)) (.int .i64 st) v).run Try.prog w2 = .ok () w3 ∧ MapV w3 b (m + 1) (updV r m v) ∧ w2.grownBy w3 (some b)
structure NSt (W w' : World) (b1 b2 m : Nat) (r1 r2 : Int → Option Value) (d10 d11 d12 d14 d15 : Bool) (zo zi : Nat) (st1 st2 : Int) : Prop where
  only : Only W w' (fun k => k = b1 ∨ k = b2)
  bl : b1 < W.heap.size ∧ b2 < W.heap.size ∧ b1 ≠ b2
  mo : d10 = true → (W.heap.size ≤ zo ∧ zo < w'.heap.size) ∧ MapV w' zo 0 (fun _ => none)
  mi : d11 = true → (W.heap.size ≤ zi ∧ zi < w'.heap.size) ∧ MapV w' zi 0 (fun _ => none)
  ne : d10 = true → d11 = true → zo ≠ zi
  m1 : d12 = false → MapV w' b1 m r1
  c1 : d12 = true → d14 = false → Waits w' b1 m r1 st1
  m14 : d14 = true → MapV w' b1 (m + 1) (updV r1 m (.map (some zo)))
  m2 : d15 = false → MapV w' b2 m r2
  c2 : d15 = true → Waits w' b2 m r2 st2
variable {W w' : World} {b1 b2 m : Nat} {r1 r2 : Int → Option Value} {d10 d11 d12 d14 d15 : Bool} {zo zi : Nat} {st1 st2 : Int}
theorem Waits.same {w2 : World} {b : Nat} {r : Int → Option Value} {st : Int} (h : Waits w' b m r st) (e : w2.heap[b]? = w'.heap[b]?) : Waits w2 b m r st := fun w3 v e3 => h w3 v (e3.trans e)
theorem NSt.below {w2 : World} (h : NSt W w' b1 b2 m r1 r2 d10 d11 d12 d14 d15 zo zi st1 st2) (g : Below w'.heap.size w' w2) : NSt W w2 b1 b2 m r1 r2 d10 d11 d12 d14 d15 zo zi st1 st2 :=
  have hb1 : b1 < w'.heap.size := Nat.lt_of_lt_of_le h.bl.1 h.only.size
  have hb2 : b2 < w'.heap.size := Nat.lt_of_lt_of_le h.bl.2.1 h.only.size
  ⟨h.only.trans ((Only.of_below g _).mono (fun k _ e _ => e)), h.bl, fun e => ⟨⟨(h.mo e).1.1, Nat.lt_of_lt_of_le (h.mo e).1.2 g.size⟩, (h.mo e).2.below g⟩, fun e => ⟨⟨(h.mi e).1.1, Nat.lt_of_lt_of_le (h.mi e).1.2 g.size⟩, (h.mi e).2.below g⟩, h.ne, fun e => (h.m1 e).below g, fun e f => (h.c1 e f).same (g.block _ hb1), fun e => (h.m14 e).below g, fun e => (h.m2 e).below g, fun e => (h.c2 e).same (g.block _ hb2)⟩
theorem NSt.s10 (h : NSt W w' b1 b2 m r1 r2 false d11 d12 d14 d15 zo zi st1 st2) (h14 : d14 = false) : ∃ x z, (Instr.makeMap 51 none).run Try.prog w' = .ok (.map (some z)) x ∧ NSt W x b1 b2 m r1 r2 true d11 d12 d14 d15 z zi st1 st2 := by
  have g : Below w'.heap.size w' (w'.alloc (.map #[] 0)) := (Below.refl _ _).alloc (Nat.le_refl _) _
  have h2 := h.below g
  refine ⟨_, w'.heap.size, run_makeMap 51 w', h2.only, h2.bl, fun _ => ⟨⟨h.only.size, by simp⟩, MapV.made w'⟩, h2.mi, fun _ e => ?_, h2.m1, h2.c1, fun e => (by rw [h14] at e; cases e), h2.m2, h2.c2⟩
  have := (h.mi e).1
  omega
theorem NSt.s11 (h : NSt W w' b1 b2 m r1 r2 d10 false d12 d14 d15 zo zi st1 st2) : ∃ x z, (Instr.makeMap 51 none).run Try.prog w' = .ok (.map (some z)) x ∧ NSt W x b1 b2 m r1 r2 d10 true d12 d14 d15 zo z st1 st2 := by
  have g : Below w'.heap.size w' (w'.alloc (.map #[] 0)) := (Below.refl _ _).alloc (Nat.le_refl _) _
  have h2 := h.below g
  refine ⟨_, w'.heap.size, run_makeMap 51 w', h2.only, h2.bl, h2.mo, fun _ => ⟨⟨h.only.size, by simp⟩, MapV.made w'⟩, fun e _ => ?_, h2.m1, h2.c1, h2.m14, h2.m2, h2.c2⟩
  have := (h.mo e).1
  omega
theorem MapV.ne_new {b n : Nat} {f : Int → Option Value} {z : Nat} (hz : W.heap.size ≤ z) (hb : b < W.heap.size) : some z ≠ some b := fun e => by cases e; omega
theorem NSt.turn {b : Nat} {x : World} (hb : b = b1 ∨ b = b2) (h : NSt W w' b1 b2 m r1 r2 d10 d11 d12 d14 d15 zo zi st1 st2) (g : w'.grownBy x (some b)) : Only W x (fun k => k = b1 ∨ k = b2) ∧ (d10 = true → (W.heap.size ≤ zo ∧ zo < x.heap.size) ∧ MapV x zo 0 (fun _ => none)) ∧ (d11 = true → (W.heap.size ≤ zi ∧ zi < x.heap.size) ∧ MapV x zi 0 (fun _ => none)) := by
  have hbl : b < W.heap.size := by rcases hb with rfl | rfl; exact h.bl.1; exact h.bl.2.1
  refine ⟨h.only.trans ((Only.of_grown g).mono (fun k _ e _ => by cases e; exact hb)), fun e => ⟨⟨(h.mo e).1.1, Nat.lt_of_lt_of_le (h.mo e).1.2 g.size⟩, (h.mo e).2.grown g (fun f => by cases f; have := (h.mo e).1.1; omega)⟩, fun e => ⟨⟨(h.mi e).1.1, Nat.lt_of_lt_of_le (h.mi e).1.2 g.size⟩, (h.mi e).2.grown g (fun f => by cases f; have := (h.mi e).1.1; omega)⟩⟩
theorem NSt.s12 (h : NSt W w' b1 b2 m r1 r2 d10 d11 false false false zo zi st1 st2) (hm : m < maxLen) (hw : (Lit.int .i64 (m : Int)).wf = true) : ∃ v st x, (Instr.mapEntry 46 (.map (some b1)) (.int .i64 (m : Int))).run Try.prog w' = .ok (.tuple #[v, .int .i64 st]) x ∧ NSt W x b1 b2 m r1 r2 d10 d11 true false false zo zi st st2 := by
  obtain ⟨v, st, x, hr, g, hs⟩ := (h.m1 rfl).entry Try.underlying46 zero51 hm m hw
  obtain ⟨t1, t2, t3⟩ := h.turn (.inl rfl) g
  exact ⟨v, st, x, hr, t1, h.bl, t2, t3, h.ne, fun e => (by cases e), fun _ _ => fun w2 v e => hs w2 v e, fun e => (by cases e), fun _ => (h.m2 rfl).grown g (fun e => (by first | exact h.bl.2.2 (Option.some.inj e) | exact h.bl.2.2 (Option.some.inj e).symm)), fun e => (by cases e)⟩
theorem NSt.s14 (h : NSt W w' b1 b2 m r1 r2 true d11 true false false zo zi st1 st2) : ∃ x, (Instr.entryStore 46 (.map (some b1)) (.int .i64 st1) (.map (some zo))).run Try.prog w' = .ok () x ∧ NSt W x b1 b2 m r1 r2 true d11 true true false zo zi st1 st2 := by
  obtain ⟨x, hr, hM, g⟩ := h.c1 rfl rfl w' (.map (some zo)) rfl
  obtain ⟨t1, t2, t3⟩ := h.turn (.inl rfl) g
  exact ⟨x, hr, t1, h.bl, t2, t3, h.ne, fun e => (by cases e), fun _ e => (by cases e), fun _ => hM, fun _ => (h.m2 rfl).grown g (fun e => (by first | exact h.bl.2.2 (Option.some.inj e) | exact h.bl.2.2 (Option.some.inj e).symm)), fun e => (by cases e)⟩
theorem NSt.s15 (h : NSt W w' b1 b2 m r1 r2 d10 d11 true true false zo zi st1 st2) (hm : m < maxLen) (hw : (Lit.int .i64 (m : Int)).wf = true) : ∃ v st x, (Instr.mapEntry 46 (.map (some b2)) (.int .i64 (m : Int))).run Try.prog w' = .ok (.tuple #[v, .int .i64 st]) x ∧ NSt W x b1 b2 m r1 r2 d10 d11 true true true zo zi st1 st := by
  obtain ⟨v, st, x, hr, g, hs⟩ := (h.m2 rfl).entry Try.underlying46 zero51 hm m hw
  obtain ⟨t1, t2, t3⟩ := h.turn (.inr rfl) g
  exact ⟨v, st, x, hr, t1, h.bl, t2, t3, h.ne, fun e => (by cases e), fun _ e => (by cases e), fun _ => (h.m14 rfl).grown g (fun e => (by first | exact h.bl.2.2 (Option.some.inj e) | exact h.bl.2.2 (Option.some.inj e).symm)), fun e => (by cases e), fun _ => fun w2 v e => hs w2 v e⟩
end Go.Proofs.Ytfppfdejjifhdaa.PAll
