import Derived.Test.YtfppfdejjifhdaaQMvL
import Derived.Test.YtfppfdejjifhdaaQLgP
namespace Go.Proofs.Ytfppfdejjifhdaa.PAll
open Go.RowKit Go.Proofs.YtfppfdejjifhdaaW.PrintWords Go.Proofs.YtfppfdejjifhdaaW.PrintLast Go.Proofs.YtfppfdejjifhdaaW.PrintMore
open Hp hiding Good
set_option linter.unusedVariables false
set_option linter.unusedSimpArgs false

theorem wf64 {x : Int} (h0 : 0 ≤ x) (h1 : x ≤ 9223372036854775807) : (Lit.int .i64 x).wf = true := by
  have e1 : IntKind.i64.min = -9223372036854775808 := by decide +kernel
  have e2 : IntKind.i64.max = 9223372036854775807 := by decide +kernel
  unfold Lit.wf
  simp only [e1, e2, Bool.and_eq_true, decide_eq_true_eq]
  omega
/-! ### what is left of a graph, in memory -/
def wayV (y : WayP) : Value := .agg #[.int .i64 y.w, .int .i64 y.mid, .int .i64 y.arc]
theorem zero37 (w : World) : (zeroValue 37).run Try.prog w = .ok (wayV ⟨0, 0, 0⟩) w := by kernel_rfl
theorem zero51 (w : World) : (zeroValue 51).run Try.prog w = .ok (.map none) w := by kernel_rfl
def rowsV (n : Nat) (g : Nat → Nat) : Int → Option Value := fun v => if 0 ≤ v ∧ v < n then some (.map (some (g v.toNat))) else none
def waysV (f : Int → Option WayP) : Int → Option Value := fun x => (f x).map wayV
theorem rowsV_at {n : Nat} {g : Nat → Nat} {v : Nat} (h : v < n) : rowsV n g (v : Int) = some (.map (some (g v))) := by
  unfold rowsV
  rw [if_pos (by omega)]
  simp
theorem rowsV_is (n : Nat) (g : Nat → Nat) (v : Int) : (rowsV n g v).isSome = decide (0 ≤ v ∧ v < n) := by
  unfold rowsV
  by_cases h : 0 ≤ v ∧ v < n
  · rw [if_pos h, decide_eq_true h]; rfl
  · rw [if_neg h, decide_eq_false h]; rfl
theorem waysV_is (f : Int → Option WayP) (x : Int) : (waysV f x).isSome = (f x).isSome := by
  unfold waysV
  rw [Option.isSome_map]
theorem waysV_get (f : Int → Option WayP) (x : Int) : (waysV f x).getD (wayV ⟨0, 0, 0⟩) = wayV ((f x).getD ⟨0, 0, 0⟩) := by
  unfold waysV
  cases f x <;> rfl
theorem waysV_upd (f : Int → Option WayP) (x : Int) (y : WayP) : updV (waysV f) x (wayV y) = waysV (fun z => if z = x then some y else f z) := by
  funext z
  unfold updV waysV
  by_cases h : z = x
  · simp [h]
  · simp [h]
theorem MapI.more {w : World} {b n m : Nat} {f : Int → Option Int} (h : MapI w b n f) (hm : n ≤ m) : MapI w b m f := by
  obtain ⟨D, ⟨es, clock, h1, h2, h3, h4⟩, h5⟩ := h
  exact ⟨D, ⟨es, clock, h1, h2, Nat.le_trans h3 hm, h4⟩, h5⟩
/-- B: 0 the object, 1 out, 2 in, 3 lost; 4 + 2 v the ways out of v, 5 + 2 v those into it -/
structure LRep (w : World) (lb n K : Nat) (F : Int → Int → Option WayP) (B : Nat → Nat) : Prop where
  obj : B 0 = lb
  inj : ∀ i j, i < 4 + 2 * n → j < 4 + 2 * n → B i = B j → i = j
  blk : w.heap[lb]? = some (.cells #[.map (some (B 1)), .map (some (B 2)), .map (some (B 3)), .int .i64 n] 50 (0, 0))
  out : MapV w (B 1) K (rowsV n fun v => B (4 + 2 * v))
  inn : MapV w (B 2) K (rowsV n fun v => B (5 + 2 * v))
  lost : MapI w (B 3) K (fun _ => none)
  outs : ∀ v : Nat, v < n → MapV w (B (4 + 2 * v)) K (waysV fun x => F v x)
  inns : ∀ v : Nat, v < n → MapV w (B (5 + 2 * v)) K (waysV fun x => F x v)
/-- the blocks of its own -/
def LS (n : Nat) (B : Nat → Nat) (k : Nat) : Prop := ∃ i, i < 4 + 2 * n ∧ k = B i
variable {w w' : World} {lb n K : Nat} {F : Int → Int → Option WayP} {B : Nat → Nat}
theorem LRep.only {S : Nat → Prop} (h : LRep w lb n K F B) (g : Only w w' S) (hs : ∀ k, LS n B k → ¬ S k) : LRep w' lb n K F B :=
  ⟨h.obj, h.inj, (g.block _ (blk_lt h.blk) (hs _ ⟨0, by omega, h.obj.symm⟩)).trans h.blk, h.out.only g (hs _ ⟨1, by omega, rfl⟩), h.inn.only g (hs _ ⟨2, by omega, rfl⟩), h.lost.only g (hs _ ⟨3, by omega, rfl⟩),
    fun v hv => (h.outs v hv).only g (hs _ ⟨4 + 2 * v, by omega, rfl⟩), fun v hv => (h.inns v hv).only g (hs _ ⟨5 + 2 * v, by omega, rfl⟩)⟩
theorem LRep.more {m : Nat} (h : LRep w lb n K F B) (hm : K ≤ m) : LRep w lb n m F B := ⟨h.obj, h.inj, h.blk, h.out.more hm, h.inn.more hm, h.lost.more hm, fun v hv => (h.outs v hv).more hm, fun v hv => (h.inns v hv).more hm⟩
theorem LRep.below (h : LRep w lb n K F B) (g : Below w.heap.size w w') : LRep w' lb n K F B := h.only (Only.of_below g (fun _ => False)) (fun _ _ f => f)
theorem LRep.lt (h : LRep w lb n K F B) : ∀ k, LS n B k → k < w.heap.size := by
  rintro k ⟨i, hi, rfl⟩
  by_cases h0 : i = 0
  · subst h0; rw [h.obj]; exact blk_lt h.blk
  by_cases h1 : i = 1
  · subst h1; exact h.out.lt
  by_cases h2 : i = 2
  · subst h2; exact h.inn.lt
  by_cases h3 : i = 3
  · subst h3; exact h.lost.lt
  by_cases he : i % 2 = 0
  · have := (h.outs ((i - 4) / 2) (by omega)).lt
    rwa [show 4 + 2 * ((i - 4) / 2) = i by omega] at this
  · have := (h.inns ((i - 5) / 2) (by omega)).lt
    rwa [show 5 + 2 * ((i - 5) / 2) = i by omega] at this
/-- a way is laid: in its two maps -/
theorem LRep.laid {w1 w2 : World} (h : LRep w lb n K F B) {u v : Nat} (hu : u < n) (hv : v < n) (y : WayP) (h1 : MapV w1 (B (4 + 2 * u)) (K + 1) (updV (waysV fun x => F u x) v (wayV y))) (g1 : w.grownBy w1 (some (B (4 + 2 * u))))
    (h2 : MapV w2 (B (5 + 2 * v)) (K + 1) (updV (waysV fun x => F x v) u (wayV y))) (g2 : w1.grownBy w2 (some (B (5 + 2 * v)))) : LRep w2 lb n (K + 1) (putF F u v y) B ∧ Only w w2 (LS n B) := by
  have o1 : Only w w1 (fun k => k = B (4 + 2 * u)) := (Only.of_grown g1).mono (fun k _ e => by cases e; rfl)
  have o2 : Only w1 w2 (fun k => k = B (5 + 2 * v)) := (Only.of_grown g2).mono (fun k _ e => by cases e; rfl)
  have ne : ∀ i j, i < 4 + 2 * n → j < 4 + 2 * n → i ≠ j → B i ≠ B j := fun i j hi hj hn e => hn (h.inj i j hi hj e)
  have o : Only w w2 (fun k => k = B (4 + 2 * u) ∨ k = B (5 + 2 * v)) := (o1.mono (fun k _ e => .inl e)).trans (o2.mono (fun k _ e _ => .inr e))
  refine ⟨⟨h.obj, h.inj, (o.block _ (blk_lt h.blk) ?_).trans h.blk, (h.out.only o ?_).more (by omega), (h.inn.only o ?_).more (by omega), (h.lost.only o ?_).more (by omega), fun x hx => ?_, fun x hx => ?_⟩, o.mono (fun k _ e => by
    rcases e with rfl | rfl
    · exact ⟨_, by omega, rfl⟩
    · exact ⟨_, by omega, rfl⟩)⟩
  · rintro (e | e)
    · rw [← h.obj] at e; exact ne 0 _ (by omega) (by omega) (by omega) e
    · rw [← h.obj] at e; exact ne 0 _ (by omega) (by omega) (by omega) e
  · rintro (e | e)
    · exact ne 1 _ (by omega) (by omega) (by omega) e
    · exact ne 1 _ (by omega) (by omega) (by omega) e
  · rintro (e | e)
    · exact ne 2 _ (by omega) (by omega) (by omega) e
    · exact ne 2 _ (by omega) (by omega) (by omega) e
  · rintro (e | e)
    · exact ne 3 _ (by omega) (by omega) (by omega) e
    · exact ne 3 _ (by omega) (by omega) (by omega) e
  · by_cases hxu : x = u
    · subst hxu
      have := h1.only o2 (fun e => ne _ _ (by omega) (by omega) (by omega) e)
      rw [waysV_upd] at this
      have e : (fun z => if z = (v : Int) then some y else F x z) = fun z => putF F x v y x z := by funext z; unfold putF; simp
      rwa [e] at this
    · have := ((h.outs x hx).only o (by
        rintro (e | e)
        · exact ne _ _ (by omega) (by omega) (by omega) e
        · exact ne _ _ (by omega) (by omega) (by omega) e)).more (show K ≤ K + 1 by omega)
      have e : (fun z => F x z) = fun z => putF F u v y x z := by funext z; unfold putF; rw [if_neg (fun g => hxu (by omega))]
      rwa [e] at this
  · by_cases hxv : x = v
    · subst hxv
      have := h2
      rw [waysV_upd] at this
      have e : (fun z => if z = (u : Int) then some y else F z x) = fun z => putF F u x y z x := by funext z; unfold putF; simp
      rwa [e] at this
    · have := ((h.inns x hx).only o (by
        rintro (e | e)
        · exact ne _ _ (by omega) (by omega) (by omega) e
        · exact ne _ _ (by omega) (by omega) (by omega) e)).more (show K ≤ K + 1 by omega)
      have e : (fun z => F z x) = fun z => putF F u v y z x := by funext z; unfold putF; rw [if_neg (fun g => hxv (by omega))]
      rwa [e] at this
theorem LRep.cells (h : LRep w lb n K F B) : w.cell? ⟨lb, 0, none⟩ = some (.map (some (B 1))) ∧ w.cell? ⟨lb, 1, none⟩ = some (.map (some (B 2))) ∧ w.cell? ⟨lb, 2, none⟩ = some (.map (some (B 3))) ∧ w.cell? ⟨lb, 3, none⟩ = some (.int .i64 n) ∧ lb < w.heap.size :=
  ⟨(blk_cell h.blk 0).trans rfl, (blk_cell h.blk 1).trans rfl, (blk_cell h.blk 2).trans rfl, (blk_cell h.blk 3).trans rfl, blk_lt h.blk⟩

/-- (*Left).is -/
theorem is_walk (w : World) (lb n K : Nat) (F : Int → Int → Option WayP) (B : Nat → Nat) (H : LRep w lb n K F B) (v : Int) (hv : (Lit.int .i64 v).wf = true) :
    Calls Try.prog 27 #[.pointer (some ⟨lb, 0, none⟩), .int .i64 v] w fun r w' => r = .returned (.bool (decide (0 ≤ v ∧ v < n))) ∧ w = w' := by
  obtain ⟨c0, c1, c2, c3, cl⟩ := H.cells
  have hl := H.out.lookOk Try.underlying46 (zero51 w) v hv
  rw [rowsV_is] at hl
  generalize decide (0 ≤ v ∧ v < n) = b at *
  generalize (rowsV n (fun v => B (4 + 2 * v)) v).getD (.map none) = z at hl
  clear H
  go_enter Try.func27, Try.ntmps27
  go_wp2
  go_ret
  exact ⟨rfl, rfl⟩
end Go.Proofs.Ytfppfdejjifhdaa.PAll
