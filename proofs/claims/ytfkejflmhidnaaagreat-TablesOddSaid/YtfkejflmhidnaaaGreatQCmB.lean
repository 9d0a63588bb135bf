import Derived.Test.YtfkejflmhidnaaaGreatQHpF
import Derived.RangeFuncFrom
import Derived.RangeFuncNested
import Derived.RangeFuncBound
import Derived.RangeFuncCalls
import Derived.RangeFuncLeaves
import Derived.RangeFuncBox
import Derived.OwnWalkIn
import Derived.TacticsInMore
import Derived.LoopNIn
import Derived.LoopIn
import Derived.RegionIn
import Derived.Shelf.Abstract
set_option linter.all false
namespace Go.Proofs.YtfkejflmhidnaaaGreat.PAll
open RowKit YtfkejflmhidnaaaGreatW.PrintWords YtfkejflmhidnaaaGreatW.PrintLast YtfkejflmhidnaaaGreatW.PrintMore
open Hp hiding Good
def commonP : List S37 → List S37 → List (S37 × S37)
 | [], _ => []
 | _ :: _, [] => []
 | x :: a, y :: b => if x.f0 < y.f0 then commonP a (y :: b) else if x.f0 > y.f0 then commonP (x :: a) b else (x, y) :: commonP a b
termination_by a b => a.length + b.length
theorem commonP_nil (b : List S37) : commonP [] b = [] := by cases b <;> simp [commonP]
theorem commonP_nil' (a : List S37) : commonP a [] = [] := by cases a <;> simp [commonP]
theorem commonP_lt {x y : S37} {a b : List S37} (h : x.f0 < y.f0) : commonP (x :: a) (y :: b) = commonP a (y :: b) := by rw [commonP, if_pos h]
theorem commonP_gt {x y : S37} {a b : List S37} (h : x.f0 > y.f0) : commonP (x :: a) (y :: b) = commonP (x :: a) b := by rw [commonP, if_neg (by omega), if_pos h]
theorem commonP_eq {x y : S37} {a b : List S37} (h : x.f0 = y.f0) : commonP (x :: a) (y :: b) = (x, y) :: commonP a b := by rw [commonP, if_neg (by omega), if_neg (by omega)]
theorem commonP_len : ∀ (a b : List S37), (commonP a b).length ≤ a.length
 | [], b => by rw [commonP_nil]; simp
 | x :: a, [] => by rw [commonP_nil']; simp
 | x :: a, y :: b => by
  by_cases h1 : x.f0 < y.f0
  ·rw [commonP_lt h1]; have := commonP_len a (y :: b); simp; omega
  ·by_cases h2 : x.f0 > y.f0
   ·rw [commonP_gt h2]; exact commonP_len (x :: a) b
   ·rw [commonP_eq (by omega)]; have := commonP_len a b; simp; omega
termination_by a b => a.length + b.length
theorem commonP_mem : ∀ (a b : List S37) (p : S37 × S37), p ∈ commonP a b → p.1 ∈ a ∧ p.2 ∈ b ∧ p.1.f0 = p.2.f0
 | [], b, p, h => by rw [commonP_nil] at h; simp at h
 | x :: a, [], p, h => by rw [commonP_nil'] at h; simp at h
 | x :: a, y :: b, p, h => by
  by_cases h1 : x.f0 < y.f0
  ·rw [commonP_lt h1] at h
   have := commonP_mem a (y :: b) p h
   exact ⟨by simp [this.1], this.2⟩
  ·by_cases h2 : x.f0 > y.f0
   ·rw [commonP_gt h2] at h
    have := commonP_mem (x :: a) b p h
    exact ⟨this.1, by simp [this.2.1], this.2.2⟩
   ·rw [commonP_eq (by omega)] at h
    rcases List.mem_cons.1 h with rfl | h
    ·exact ⟨by simp, by simp, by simp; omega⟩
    ·have := commonP_mem a b p h
     exact ⟨by simp [this.1], by simp [this.2.1], this.2.2⟩
termination_by a b => a.length + b.length
def meetS (s : Int × Int) (p : S37 × S37) : Int × Int :=
 if s.2 = -1 ∨ IntKind.i64.wrap (p.1.f1 + p.2.f1) ≤ s.1 then (IntKind.i64.wrap (p.1.f1 + p.2.f1), p.1.f0) else s
def meetP (a b : List S37) : Int × Int := (commonP a b).foldl meetS (-1, -1)
theorem foldl_meet {m : Int} (l : List (S37 × S37)) (hl : ∀ p ∈ l, 0 ≤ p.1.f0 ∧ 0 ≤ p.1.f1 ∧ 0 ≤ p.2.f1 ∧ p.1.f1 + p.2.f1 ≤ m) (hm : m ≤ 9223372036854775807) :
  ∀ s : Int × Int, (s = (-1, -1) ∨ (0 ≤ s.2 ∧ 0 ≤ s.1 ∧ s.1 ≤ m)) → (l.foldl meetS s = (-1, -1) ∨ (0 ≤ (l.foldl meetS s).2 ∧ 0 ≤ (l.foldl meetS s).1 ∧ (l.foldl meetS s).1 ≤ m)) := by
 induction l with
 | nil => intro s h; exact h
 | cons p l ih =>
  intro s h
  rw [List.foldl_cons]
  refine ih (fun q hq => hl q (by simp [hq])) _ ?_
  obtain ⟨h0, h1, h2, h3⟩ := hl p (by simp)
  have hw : IntKind.i64.wrap (p.1.f1 + p.2.f1) = p.1.f1 + p.2.f1 := i64w rfl (by omega) (by omega)
  unfold meetS
  rw [hw]
  split
  ·exact .inr ⟨h0, by simp only; omega, h3⟩
  ·exact h
end Go.Proofs.YtfkejflmhidnaaaGreat.PAll
namespace Go.Proofs.YtfkejflmhidnaaaGreat.Range
open Go Go.RowKit
def SeqCell {α : Type} (F : Fence) (n : Nat) (P : Program) (g : Nat) (lb : Array Value) (encs : α → Array Value) (Kp : World → World → Prop) (S Sp : List α → Prop) (N : Nat) (Cs : Nat → Prop) (w : World) : Prop :=
 ∀ (l : Nat) (J Jx : List α → World → Prop) (W : World), Below w.heap.size w W → AbidesFrom W.heap.size J → AbidesFrom W.heap.size Jx →
  (∀ cb, Cs cb → ∀ s W v, J s W → J s (W.setCell ⟨cb, 0, none⟩ v)) → (∀ cb, Cs cb → ∀ s W v, Jx s W → Jx s (W.setCell ⟨cb, 0, none⟩ v)) →
  (∀ pre x W1, J pre W1 → pre.length < N → YieldAt F (n - 1) P l (encs x) W1 fun e W' =>
   (e = .returned (.bool true) ∧ J (pre ++ [x]) W' ∧ Kp W1 W') ∨ (e = .returned (.bool false) ∧ Jx (pre ++ [x]) W')) →
  J [] W →
  CallsIn F n P g (#[.func (.yield l) #[] #[]] ++ lb) W fun e W' => (∃ v, e = .returned v) ∧ ((∃ xs, S xs ∧ J xs W') ∨ (∃ pre, Sp pre ∧ Jx pre W'))
variable {F : Fence} {n : Nat} {P : Program}
theorem wpIn_rangeFunc_cell {α : Type} {g : Operand} {ps : Array Tmp} {assign body : Code} {Q : Exit → Act → World → Prop} {a : Act} {w : World}
  (hro : F.round = none) (h1 : 1 ≤ n) {gf : Nat} {lb : Array Value} (hg : a.eval g = .func (.func gf) #[] lb) (hFg : F.fn gf) (eg : ∀ args w, (callFunc gf args).run P w = .ok (.enter gf args) w)
  {encs : α → Array Value} {Kp : World → World → Prop} {S Sp : List α → Prop} {N : Nat} {w0 : World} {Cs : Nat → Prop} (hcb : ∀ cb, Cs cb → cb < w.heap.size) (hseq : SeqCell F (n - 1) P gf lb encs Kp S Sp N Cs w0)
  (hKt : ∀ {A B C : World}, Kp A B → Kp B C → Kp A C) (hKb : ∀ (W : World) (l : Nat) (o o' : Obj), w.heap.size ≤ l → W.heap[l]? = some o → o.isCells = false → o.isWalk = false → Kp W (W.putObj l o')) (hb0 : Below w0.heap.size w0 w) (hps : ∀ x, (encs x).size = ps.size)
  (I : List α → World → Prop) (Ix : Code → List α → World → Prop) (hIc : ∀ cb, Cs cb → ∀ s W v, I s W → I s (W.setCell ⟨cb, 0, none⟩ v)) (hIxc : ∀ cb, Cs cb → ∀ c s W v, Ix c s W → Ix c s (W.setCell ⟨cb, 0, none⟩ v)) (hI : OwnFrom w.heap.size I) (hIx : ∀ c, OwnFrom w.heap.size (Ix c)) (h0 : I [] w) (a₁ : α → World → Act) (asg : α → World → World) (has : ∀ (x : α) (W : World), W.grownBy (asg x W) none) (hKa : ∀ (x : α) (W : World), w.heap.size ≤ W.heap.size → Kp W (asg x W))
  (hassign : ∀ (l : Nat) (x : α) (W : World) (K : Act → World → Prop), K (a₁ x W) (asg x W) →
   assign.wpIn (F.inRound l) (n - 1 - 1) P (Exit.then K (fun _ _ _ => False)) { tmps := (ps.zip (encs x)).foldl (fun t (p, v) => t.setIfInBounds p v) a.tmps, defers := [] } W)
  (hbody : ∀ (l : Nat) (pre : List α) (x : α) (W W2 : World), w.heap.size ≤ W.heap.size → (∀ k, W.heap.size ≤ k → W2.heap[k]? = (asg x W).heap[k]?) → W2.heap.size = (asg x W).heap.size → I pre W2 → pre.length < N → body.wpIn (F.inRound l) (n - 1 - 1) P (ownPostK Kp I Ix (pre ++ [x]) W2) (a₁ x W) W2)
  (hdone : ∀ (D : Nat) (xs : List α) (W : World), w.heap.size ≤ D → S xs → I xs W → W.heap[D]? = some (.deferred (some [])) → Q .normal { a with defers := { target := .collected D, args := #[] } :: a.defers } W)
  (hstop : ∀ (D : Nat) (c : Code) (pre : List α) (W : World), w.heap.size ≤ D → Sp pre → Ix c pre W → W.heap[D]? = some (.deferred (some [])) → c.wpIn F n P Q { a with defers := { target := .collected D, args := #[] } :: a.defers } W) :
  (Code.rangeFunc g ps assign body).wpIn F n P Q a w := by
 refine wpIn_rangeFunc ?_
 intro fn hfn
 rw [hro]
 obtain ⟨rec, hrec⟩ : ∃ rec : LoopState → Option Code → Loop, rec = fun st pe => { state := st, pending := pe, fn, tmps := a.tmps, params := ps, assign, body, defers := w.heap.size } := ⟨_, rfl⟩
 obtain ⟨W1, hW1⟩ : ∃ W1, (w.alloc (.deferred (some []))).alloc (.loop (rec .ready none)) = W1 := ⟨_, rfl⟩
 have hL1 : W1.heap[w.heap.size + 1]? = some (.loop (rec .ready none)) := by
  rw [← hW1]; have := World.alloc_heap_new (w.alloc (.deferred (some []))) (.loop (rec .ready none)); rwa [World.size_alloc] at this
 have hK1 : W1.heap[w.heap.size]? = some (.deferred (some [])) := by
  rw [← hW1]; exact (Below.heap_alloc _ _ _ (by simp)).trans (World.alloc_heap_new w _)
 have hI1 : I [] W1 := by rw [← hW1]; exact hI.alloc _ (hI.alloc _ h0)
 have hb1 : Below w0.heap.size w0 W1 := by
  rw [← hW1]; exact hb0.trans ((((Below.refl _ w).alloc (Nat.le_refl _) _).alloc (by simp) _).mono hb0.size)
 refine ⟨w.heap.size + 1, [{ target := .collected w.heap.size, args := #[] }], W1, { target := .fn (.func gf) lb, args := #[.func (.yield (w.heap.size + 1)) #[] #[]] }, W1, gf,
  #[.func (.yield (w.heap.size + 1)) #[] #[]] ++ lb, W1, ?_, ?_, ?_, ?_, fun _ => h1, ?_⟩
 ·rw [← hW1, hrec]; exact run_enterLoop_outer _ _ _ _ _
 ·simp only [resolve, hg]
  simp [go_sem]
 ·intro f' hf'; simp [Target.leads] at hf'; subst hf'; exact hFg
 ·simp [invoke, go_sem, eg]
 ·
  have hnw : ∀ {A B : World} {row : Option Nat}, (∀ r, row = some r → W1.heap.size ≤ r ∧ ∃ o : Obj, A.heap[r]? = some o ∧ o.isWalk = true) → (∀ r, row = some r → w.heap.size ≤ r ∧ ∃ o : Obj, A.heap[r]? = some o ∧ o.isCells = false) :=
   fun hr r e => by obtain ⟨hB, o, ho, hw⟩ := hr r e; exact ⟨by rw [← hW1] at hB; simp at hB; omega, o, ho, Obj.not_cells_of_walk hw⟩
  refine (hseq (w.heap.size + 1)
   (fun pre W => I pre W ∧ W.heap[w.heap.size + 1]? = some (.loop (rec .ready none)) ∧ W.heap[w.heap.size]? = some (.deferred (some [])))
   (fun pre W => ∃ c, Ix c pre W ∧ W.heap[w.heap.size + 1]? = some (.loop (rec .done (some c))) ∧ W.heap[w.heap.size]? = some (.deferred (some [])))
   W1 hb1
   (fun s A B row hs hg' hr => ⟨hI s A B row hs.1 hg' (hnw (B := B) hr), (grownBy_keeps hg' (fun r e => (hr r e).2) hs.2.1 rfl).trans hs.2.1, (grownBy_keeps hg' (fun r e => (hr r e).2) hs.2.2 rfl).trans hs.2.2⟩)
   (fun s A B row hs hg' hr => by
    obtain ⟨c, hc, hl, hk⟩ := hs
    exact ⟨c, hIx c s A B row hc hg' (hnw (B := B) hr), (grownBy_keeps hg' (fun r e => (hr r e).2) hl rfl).trans hl, (grownBy_keeps hg' (fun r e => (hr r e).2) hk rfl).trans hk⟩)
   (fun cb hC s W v hs => have := hcb cb hC; ⟨hIc cb hC s W v hs.1, (Below.heap_setCell W ⟨cb, 0, none⟩ v _ (by simp; omega)).trans hs.2.1, (Below.heap_setCell W ⟨cb, 0, none⟩ v _ (by simp; omega)).trans hs.2.2⟩)
   (fun cb hC s W v hs => by
    have := hcb cb hC
    obtain ⟨c, hc, hl, hk⟩ := hs
    exact ⟨c, hIxc cb hC c s W v hc, (Below.heap_setCell W ⟨cb, 0, none⟩ v _ (by simp; omega)).trans hl, (Below.heap_setCell W ⟨cb, 0, none⟩ v _ (by simp; omega)).trans hk⟩)
   ?_ ⟨hI1, hL1, hK1⟩).mono ?_
  ·
   rintro pre x W ⟨hi, hl, hk⟩ hlen
   have hlt : w.heap.size + 1 < W.heap.size := (Array.getElem?_eq_some_iff.1 hl).1
   have hy := run_yield (P := P) (args := encs x) hl (by rw [hrec]; exact hps x)
   rw [hrec] at hy
   have hal : ∀ k, k < W.heap.size → (asg x W).heap[k]? = W.heap[k]? := fun k hk => (has x W).block k hk (by simp)
   have hla := (hal _ hlt).trans hl
   have hka := (hal _ (by omega)).trans hk
   have hia : I pre (asg x W) := hI pre W _ none hi (has x W) (fun r e => by cases e)
   have hsz := (has x W).size
   have hlta : w.heap.size + 1 < (asg x W).heap.size := by omega
   have hKW := hKa x W (by omega)
   refine ⟨fn, _, assign, body, hy, roundIn_of_wpIn hfn (hassign _ x W _ ⟨_, run_beginRound hla (by rw [hrec]), ?_⟩)⟩
   have hl2 : ((asg x W).putObj (w.heap.size + 1) (.loop { rec .ready none with state := .busy })).heap[w.heap.size + 1]? = some (.loop { rec .ready none with state := .busy }) := World.putObj_heap_same hlta
   have hk2 : ((asg x W).putObj (w.heap.size + 1) (.loop { rec .ready none with state := .busy })).heap[w.heap.size]? = some (.deferred (some [])) := (World.putObj_heap_other (by omega)).trans hka
   have hw2 : Kp W ((asg x W).putObj (w.heap.size + 1) (.loop { rec .ready none with state := .busy })) := hKt hKW (hKb _ _ _ _ (by omega) hla rfl rfl)
   refine wpIn_mono (hbody _ pre x W _ (by omega) (fun k hk => World.putObj_heap_other (by omega)) (by simp) (hI.putObj _ hia (by omega) hla rfl) hlen) ?_
   have fin : ∀ (jump : Option Code) (W3 : World), KeepsOthers ((asg x W).putObj (w.heap.size + 1) (.loop { rec .ready none with state := .busy })) W3 →
     (Instr.endRound (w.heap.size + 1) jump).run P W3 = .ok (.bool jump.isNone) (W3.putObj (w.heap.size + 1) (.loop (rec (if jump.isNone then .ready else .done) jump))) ∧
     W3.heap[w.heap.size + 1]? = some (.loop { rec .ready none with state := .busy }) ∧
     (W3.putObj (w.heap.size + 1) (.loop (rec (if jump.isNone then .ready else .done) jump))).heap[w.heap.size + 1]? = some (.loop (rec (if jump.isNone then .ready else .done) jump)) ∧
     (W3.putObj (w.heap.size + 1) (.loop (rec (if jump.isNone then .ready else .done) jump))).heap[w.heap.size]? = some (.deferred (some [])) := fun jump W3 hk3 => by
    have hl3 := hk3.same _ _ hl2 rfl
    have := run_endRound (P := P) jump hl3
    rw [hrec] at this ⊢
    exact ⟨this, by rw [hrec] at hl3; exact hl3, World.putObj_heap_same (Array.getElem?_eq_some_iff.1 hl3).1, (World.putObj_heap_other (by omega)).trans (hk3.same _ _ hk2 rfl)⟩
   rintro e a3 W3 hp
   cases e with
   | normal =>
    obtain ⟨hk3, hkp3, hi3⟩ := hp
    obtain ⟨hr, hl3, hl4, hk4⟩ := fin none W3 hk3
    exact ⟨_, _, hr, .inl ⟨rfl, ⟨hI.putObj _ hi3 (by omega) hl3 rfl, hl4, hk4⟩, hKt (hKt hw2 hkp3) (hKb _ _ _ _ (by omega) hl3 rfl rfl)⟩⟩
   | ret =>
    obtain ⟨hk3, hi3⟩ := hp
    obtain ⟨hr, hl3, hl4, hk4⟩ := fin (some .ret) W3 hk3
    exact ⟨_, _, hr, .inr ⟨rfl, .ret, (hIx _).putObj _ hi3 (by omega) hl3 rfl, hl4, hk4⟩⟩
   | exit id =>
    obtain ⟨hk3, hi3⟩ := hp
    obtain ⟨hr, hl3, hl4, hk4⟩ := fin (some (.exit id)) W3 hk3
    exact ⟨_, _, hr, .inr ⟨rfl, .exit id, (hIx _).putObj _ hi3 (by omega) hl3 rfl, hl4, hk4⟩⟩
   | goto t =>
    obtain ⟨hk3, hi3⟩ := hp
    obtain ⟨hr, hl3, hl4, hk4⟩ := fin (some (.goto t)) W3 hk3
    exact ⟨_, _, hr, .inr ⟨rfl, .goto t, (hIx _).putObj _ hi3 (by omega) hl3 rfl, hl4, hk4⟩⟩
   | panic ch => exact hp.elim
   | outgrown => exact hp.elim
  ·
   rintro e W2 ⟨⟨v, rfl⟩, (⟨xs, hS, hi, hl, hk⟩ | ⟨pre, hSp, c, hi, hl, hk⟩)⟩
   ·exact ⟨none, _, by have := run_endLoop (P := P) hl (by rw [hrec]; simp); rw [hrec] at this; exact this, hdone _ xs _ (Nat.le_refl _) hS (hI.putObj _ hi (by omega) hl rfl) ((World.putObj_heap_other (by omega)).trans hk)⟩
   ·exact ⟨some c, _, by have := run_endLoop (P := P) hl (by rw [hrec]; simp); rw [hrec] at this; exact this, hstop _ c pre _ (Nat.le_refl _) hSp ((hIx c).putObj _ hi (by omega) hl rfl) ((World.putObj_heap_other (by omega)).trans hk)⟩
end Go.Proofs.YtfkejflmhidnaaaGreat.Range
namespace Go.Proofs.YtfkejflmhidnaaaGreat.PAll
open RowKit YtfkejflmhidnaaaGreatW.PrintWords YtfkejflmhidnaaaGreatW.PrintLast YtfkejflmhidnaaaGreatW.PrintMore
open Hp hiding Good
open Range (SeqCell wpIn_rangeFunc_cell)
attribute [local go_sem] Oper.semAt_some
theorem cutR (ad : Addr) (n cap : Nat) (h1 : 1 ≤ n) (hn : n ≤ cap) : ∃ A : Option Addr, (∀ (w : World) (x : S37) (l : List S37), (x :: l).length = n → Kd.C k37 w (some ad) n (x :: l) → Kd.C k37 w A l.length l) ∧
  ∀ W : World, (Instr.slice 33 (.slice (some ad) n cap) (some (.int .i64 1)) none none).run Tryz.prog W = .ok (.slice A (n - 1) (cap - 1)) W := by
 have hel : Tryz.prog.elem 33 = 37 := by simp [Program.elem, Tryz.underlying33]
 have hu : Tryz.prog.underlying 33 = some (.slice (Tryz.prog.elem 33)) := by rw [hel]; exact Tryz.underlying33
 obtain ⟨i0, hi0, hz0, hz1, hz2⟩ := info_parts info37
 refine ⟨if cap = 1 then some ad else some (ad.add 2), fun w x l hl h => ?_, fun W => ?_⟩
 ·subst hl
  have := Kd.C_drop (m := 1) (c := cap) h (by simp) hn
  simp only [List.drop_succ_cons, List.drop_zero] at this
  by_cases hc : cap = 1
  ·rw [if_pos hc] at this ⊢; exact this
  ·rw [if_neg hc] at this ⊢; exact this
 ·rw [run_slice_l W 33 (some ad) n cap hu .i64 1 (by omega) (by omega), hel]
  by_cases hc : cap = 1
  ·subst hc
   simp [sizeOf, typeInfo, hi0, hz1, sliced, Result.andThen]
  ·have hc' : ¬ 1 = cap := fun e => hc e.symm
   simp [sizeOf, typeInfo, hi0, hz1, sliced, Result.andThen, hc, hc', Addr.add]
noncomputable def cnt (B : Nat) (W : World) : Nat := match W.cell? ⟨B, 0, none⟩ with | some (.slice _ n _) => n | _ => 0
theorem cnt_at {B : Nat} {W : World} {A : Option Addr} {n c : Nat} (h : Boxed W B 33 (.slice A n c)) : cnt B W = n := by
 unfold cnt
 rw [h.cell]
theorem at39C {w : World} {A : Option Addr} {m : Nat} {l : List S37} (h : Kd.C k37 w A m l) (i : Nat) (hi : i < l.length) :
  ∃ ad, A = some ad ∧ w.cell? (ad.add (i * 2)) = some (.int .i64 (rd_T37 l i).f0) ∧ w.cell? ⟨(ad.add (i * 2)).block, (ad.add (i * 2)).off + 1, none⟩ = some (.int .i64 (rd_T37 l i).f1) := by
 obtain rfl : l.length = m := h.1
 exact at_T37 h (i : Int) (by omega) (by omega)
def v39 (x : S37) : Value := .agg #[.int .i64 x.f0, .int .i64 x.f1]
def Kp2 (n0 B : Nat) (W W' : World) : Prop := Below n0 W W' ∧ W'.heap[B]? = W.heap[B]? ∧ W'.heap[B + 1]? = W.heap[B + 1]?
structure RelC (w0 : World) (B : Nat) (a0 b0 : List S37) (J : List (S37 × S37) → World → Prop) (wr : World) (pre : List (S37 × S37)) (a b : List S37) (Aa Ab : Option Addr) (ca cb : Nat) : Prop where
 left : commonP a0 b0 = pre ++ commonP a b
 boxa : Boxed wr B 33 (.slice Aa a.length ca)
 boxb : Boxed wr (B + 1) 33 (.slice Ab b.length cb)
 capa : a.length ≤ ca
 capb : b.length ≤ cb
 rowa : Kd.C k37 w0 Aa a.length a
 rowb : Kd.C k37 w0 Ab b.length b
 below : Below w0.heap.size w0 wr
 inv : J pre wr
theorem RelC.still {w0 : World} {B : Nat} {a0 b0 : List S37} {J : List (S37 × S37) → World → Prop} {wr W1 : World} {pre : List (S37 × S37)} {a b : List S37} {Aa Ab : Option Addr} {ca cb : Nat}
  (R : RelC w0 B a0 b0 J wr pre a b Aa Ab ca cb) (hJa : ∀ s W W', J s W → Below W.heap.size W W' → J s W') (g : Below wr.heap.size wr W1) : RelC w0 B a0 b0 J W1 pre a b Aa Ab ca cb :=
 ⟨R.left, (g.block _ R.boxa.lt).trans R.boxa, (g.block _ R.boxb.lt).trans R.boxb, R.capa, R.capb, R.rowa, R.rowb, R.below.trans (g.mono R.below.size), hJa _ _ _ R.inv g⟩
theorem RelC.meas {w0 : World} {B : Nat} {a0 b0 : List S37} {J : List (S37 × S37) → World → Prop} {wr : World} {pre : List (S37 × S37)} {a b : List S37} {Aa Ab : Option Addr} {ca cb : Nat}
  (R : RelC w0 B a0 b0 J wr pre a b Aa Ab ca cb) : cnt B wr + cnt (B + 1) wr = a.length + b.length := by rw [cnt_at R.boxa, cnt_at R.boxb]
theorem RelC.cuta {w0 : World} {B : Nat} {a0 b0 : List S37} {J : List (S37 × S37) → World → Prop} {wr : World} {pre : List (S37 × S37)} {x y : S37} {a b : List S37} {A Aa Ab : Option Addr} {ca cb : Nat}
  (R : RelC w0 B a0 b0 J wr pre (x :: a) (y :: b) A Ab ca cb) (hB : w0.heap.size ≤ B) (hJc : ∀ cb, cb = B ∨ cb = B + 1 → ∀ s W v, J s W → J s (W.setCell ⟨cb, 0, none⟩ v)) (hc : x.f0 < y.f0) (hA : Kd.C k37 w0 Aa a.length a) :
  RelC w0 B a0 b0 J (wr.setCell ⟨B, 0, none⟩ (.slice Aa a.length (ca - 1))) pre a (y :: b) Aa Ab (ca - 1) cb :=
 ⟨by rw [R.left, commonP_lt hc], R.boxa.set _, R.boxb.other (by omega) _, by have := R.capa; simp at this; omega, R.capb, hA, R.rowb, R.below.setCell (p := ⟨B, 0, none⟩) hB _, hJc _ (.inl rfl) _ _ _ R.inv⟩
theorem RelC.cutb {w0 : World} {B : Nat} {a0 b0 : List S37} {J : List (S37 × S37) → World → Prop} {wr : World} {pre : List (S37 × S37)} {x y : S37} {a b : List S37} {A Aa Ab : Option Addr} {ca cb : Nat}
  (R : RelC w0 B a0 b0 J wr pre (x :: a) (y :: b) Aa A ca cb) (hB : w0.heap.size ≤ B) (hJc : ∀ cb, cb = B ∨ cb = B + 1 → ∀ s W v, J s W → J s (W.setCell ⟨cb, 0, none⟩ v)) (hc : y.f0 < x.f0) (hA : Kd.C k37 w0 Ab b.length b) :
  RelC w0 B a0 b0 J (wr.setCell ⟨B + 1, 0, none⟩ (.slice Ab b.length (cb - 1))) pre (x :: a) b Aa Ab ca (cb - 1) :=
 ⟨by rw [R.left, commonP_gt hc], R.boxa.other (by omega) _, R.boxb.set _, R.capa, by have := R.capb; simp at this; omega, R.rowa, hA, R.below.setCell (p := ⟨B + 1, 0, none⟩) (by simp; omega) _, hJc _ (.inr rfl) _ _ _ R.inv⟩
theorem RelC.cutab {w0 : World} {B : Nat} {a0 b0 : List S37} {J : List (S37 × S37) → World → Prop} {wr W3 : World} {pre : List (S37 × S37)} {x y : S37} {a b : List S37} {A A' Aa Ab : Option Addr} {ca cb : Nat}
  (R : RelC w0 B a0 b0 J wr pre (x :: a) (y :: b) A A' ca cb) (hB : w0.heap.size ≤ B) (hJc : ∀ cb, cb = B ∨ cb = B + 1 → ∀ s W v, J s W → J s (W.setCell ⟨cb, 0, none⟩ v)) (hc : x.f0 = y.f0) (hA : Kd.C k37 w0 Aa a.length a) (hA' : Kd.C k37 w0 Ab b.length b)
  (hJ : J (pre ++ [(x, y)]) W3) (hk : Kp2 w0.heap.size B wr W3) :
  RelC w0 B a0 b0 J ((W3.setCell ⟨B, 0, none⟩ (.slice Aa a.length (ca - 1))).setCell ⟨B + 1, 0, none⟩ (.slice Ab b.length (cb - 1))) (pre ++ [(x, y)]) a b Aa Ab (ca - 1) (cb - 1) :=
 ⟨by rw [R.left, commonP_eq hc]; simp, (Boxed.set (v := .slice A (x :: a).length ca) _ (hk.2.1.trans R.boxa)).other (by omega) _, (Boxed.other (v := .slice A' (y :: b).length cb) (hk.2.2.trans R.boxb) (by omega) _).set _, by have := R.capa; simp at this; omega, by have := R.capb; simp at this; omega, hA, hA',
  ((R.below.trans hk.1).setCell (p := ⟨B, 0, none⟩) hB _).setCell (p := ⟨B + 1, 0, none⟩) (by simp; omega) _, hJc _ (.inr rfl) _ _ _ (hJc _ (.inl rfl) _ _ _ hJ)⟩
set_option maxRecDepth 100000 in
set_option maxHeartbeats 1000000 in
theorem common1_in (n : Nat) (hn : 1 ≤ n) (l B : Nat) (w0 : World) (hB : w0.heap.size ≤ B) (a0 b0 : List S37) (J Jx : List (S37 × S37) → World → Prop)
  (hJa : ∀ s W W', J s W → Below W.heap.size W W' → J s W')
  (hJc : ∀ cb, cb = B ∨ cb = B + 1 → ∀ s W v, J s W → J s (W.setCell ⟨cb, 0, none⟩ v))
  (hY : ∀ pre x W, J pre W → pre.length < (commonP a0 b0).length → YieldAt Fence.wide (n - 1) Tryz.prog l #[v39 x.1, v39 x.2] W fun e W' =>
   (e = .returned (.bool true) ∧ J (pre ++ [x]) W' ∧ Kp2 w0.heap.size B W W') ∨ (e = .returned (.bool false) ∧ Jx (pre ++ [x]) W'))
  (W : World) (Aa Ab : Option Addr) (ca cb : Nat) (hR : RelC w0 B a0 b0 J W [] a0 b0 Aa Ab ca cb) :
  CallsIn Fence.wide n Tryz.prog 135 #[.func (.yield l) #[] #[], .pointer (some ⟨B, 0, none⟩), .pointer (some ⟨B + 1, 0, none⟩)] W fun e W' => (∃ v, e = .returned v) ∧
   ((∃ ys, ys = commonP a0 b0 ∧ J ys W') ∨ (∃ pre, pre <+: commonP a0 b0 ∧ Jx pre W')) := by
 have c1 := hR.boxa.cell
 have c2 := hR.boxb.cell
 refine callsIn_of_wp Tryz.func135 rfl trivial ?_ rfl
 simp only [Tryz.ntmps135, List.size_toArray, List.length_cons, List.length_nil, Nat.reduceAdd, Nat.reduceSub, Array.replicate_succ, Array.replicate_zero, List.push_toArray, List.append_toArray, List.nil_append, List.cons_append]
 gi_wp2
 clear c1 c2
 gi_loopw [] (fun wr => ∃ pre a b Aa Ab ca cb, RelC w0 B a0 b0 J wr pre a b Aa Ab ca cb)
  (fun wr => cnt B wr + cnt (B + 1) wr)
 case atStart => exact ⟨_, _, _, _, _, _, _, hR⟩
 case round =>
  obtain ⟨pre, a, b, Aa, Ab, ca, cb, R⟩ := hrel
  have k0 := R.boxa.cell
  have k1 := R.boxb.cell
  have f0 := R.boxa.frozen
  have f1 := R.boxb.frozen
  have HR := Lib.hid R
  clear hR R
  cases a with
  | nil =>
   have HL : Hid (commonP a0 b0 = pre) := Lib.hid (by rw [HR.out.left, commonP_nil, List.append_nil])
   have HJ := Lib.hid HR.out.inv
   clear HR
   gi_wp2
   go_end0
   exact ⟨⟨_, rfl⟩, .inl ⟨pre, HL.out.symm, HJ.out⟩⟩
  | cons x a =>
   obtain ⟨ada, rfl, ra0, ra1⟩ := at39C (Kd.C_below HR.out.rowa HR.out.below) 0 (by simp)
   cases b with
   | nil =>
    have HL : Hid (commonP a0 b0 = pre) := Lib.hid (by rw [HR.out.left, commonP_nil', List.append_nil])
    have HJ := Lib.hid HR.out.inv
    clear HR
    gi_wp2
    go_end0
    exact ⟨⟨_, rfl⟩, .inl ⟨pre, HL.out.symm, HJ.out⟩⟩
   | cons y b =>
    obtain ⟨adb, rfl, rb0, rb1⟩ := at39C (Kd.C_below HR.out.rowb HR.out.below) 0 (by simp)
    have e0 : rd_T37 (x :: a) (0 : Nat) = x := by simp [rd_T37]
    have e1 : rd_T37 (y :: b) (0 : Nat) = y := by simp [rd_T37]
    rw [e0] at ra0 ra1
    rw [e1] at rb0 rb1
    have z0 : ∀ ad : Addr, ad.add (0 * 2) = ad := fun ad => by cases ad; simp [Addr.add]
    rw [z0] at ra0 ra1 rb0 rb1
    clear e0 e1 z0
    obtain ⟨Aa, hAa, hsa⟩ := cutR ada (a.length + 1) ca (by omega) (by simpa using HR.out.capa)
    obtain ⟨Ab, hAb, hsb⟩ := cutR adb (b.length + 1) cb (by omega) (by simpa using HR.out.capb)
    have hwa := hAa w0 x a rfl HR.out.rowa
    have hwb := hAb w0 y b rfl HR.out.rowb
    have HA := Lib.hid hwa
    have HB := Lib.hid hwb
    simp only [Nat.add_sub_cancel] at hsa hsb
    simp only [List.length_cons] at k0 k1
    clear hAa hAb hwa hwb
    obtain ⟨x0, x1⟩ := x
    obtain ⟨y0, y1⟩ := y
    simp only at ra0 ra1 rb0 rb1
    have la : ada.block < wr.heap.size := World.block_lt_of_cell? wr _ ra0
    have lb : adb.block < wr.heap.size := World.block_lt_of_cell? wr _ rb0
    have l0 : B < wr.heap.size := HR.out.boxa.lt
    have l1 : B + 1 < wr.heap.size := HR.out.boxb.lt
    rcases Int.lt_trichotomy x0 y0 with hc | hc | hc
    ·gi_wp2
     gi_region
     all_goals gi_wp2
     all_goals go_roundw
     all_goals first
      | (case rel => exact ⟨_, _, _, _, _, _, _, (HR.out.cuta hB hJc hc HA.out).still hJa ((((Below.refl _ _).alloc (Nat.le_refl _) _).alloc (by simp) _).drew)⟩)
      | (case measure =>
        exact Nat.lt_of_le_of_lt (Nat.le_of_eq (RelC.meas ((HR.out.cuta hB hJc hc HA.out).still hJa ((((Below.refl _ _).alloc (Nat.le_refl _) _).alloc (by simp) _).drew)))) (by rw [HR.out.meas]; simp only [List.length_cons]; omega))
    ·obtain rfl := hc
     have HCE : Hid (commonP (⟨x0, x1⟩ :: a) (⟨x0, y1⟩ :: b) = ((⟨x0, x1⟩ : S37), (⟨x0, y1⟩ : S37)) :: commonP a b) := Lib.hid (commonP_eq rfl)
     gi_wp2
     gi_region
     ·have hB1 : Below wr.heap.size wr ((wr.alloc (.cells #[.int .i64 x0, .int .i64 x1] 37)).alloc (.cells #[.int .i64 x0, .int .i64 y1] 37)).drew := ((((Below.refl _ _).alloc (Nat.le_refl _) _).alloc (by simp) _).drew)
      have HR1 := Lib.hid (HR.out.still hJa hB1)
      obtain ⟨fn, tmps, assign, body, hy, hR⟩ := hY pre (⟨x0, x1⟩, ⟨x0, y1⟩) _ HR1.out.inv (by rw [HR.out.left, HCE.out]; simp)
      simp only [v39] at hy
      gi_wp2
      refine hR.mono ?_
      rintro e W3 (⟨rfl, hJ3, hk3⟩ | ⟨rfl, hJx3⟩)
      ·have q0 := (World.cell?_of_block (a := ⟨B, 0, none⟩) hk3.2.1).trans HR1.out.boxa.cell
       have q1 := (World.cell?_of_block (a := ⟨B + 1, 0, none⟩) hk3.2.2).trans HR1.out.boxb.cell
       have g0 := (World.frozen?_of_block (a := ⟨B, 0, none⟩) hk3.2.1).trans HR1.out.boxa.frozen
       have g1 := (World.frozen?_of_block (a := ⟨B + 1, 0, none⟩) hk3.2.2).trans HR1.out.boxb.frozen
       have b3 : B + 1 < W3.heap.size := World.block_lt_of_cell? W3 _ q1
       have HF := Lib.hid (HR1.out.cutab hB hJc rfl HA.out HB.out hJ3 hk3)
       simp only [List.length_cons] at q0 q1
       clear hJ3 hk3
       gi_wp2
       gi_region
       all_goals gi_wp2
       all_goals go_roundw
       all_goals first
        | (case rel => exact ⟨_, _, _, _, _, _, _, HF.out.still hJa (Below.refl _ _).drew⟩)
        | (case measure => exact Nat.lt_of_le_of_lt (Nat.le_of_eq (HF.out.still hJa (Below.refl _ _).drew).meas) (by rw [HR.out.meas]; simp only [List.length_cons]; omega))
      ·gi_wp2
       refine bodyPost_ret (results_none rfl _ _ _) rfl ?_
       exact ⟨⟨_, rfl⟩, .inr ⟨_, by rw [HR.out.left, HCE.out]; exact ⟨commonP a b, by simp⟩, hJx3⟩⟩
     ·have hB1 : Below wr.heap.size wr ((wr.alloc (.cells #[.int .i64 x0, .int .i64 y1] 37)).alloc (.cells #[.int .i64 x0, .int .i64 x1] 37)).drew := ((((Below.refl _ _).alloc (Nat.le_refl _) _).alloc (by simp) _).drew)
      have HR1 := Lib.hid (HR.out.still hJa hB1)
      obtain ⟨fn, tmps, assign, body, hy, hR⟩ := hY pre (⟨x0, x1⟩, ⟨x0, y1⟩) _ HR1.out.inv (by rw [HR.out.left, HCE.out]; simp)
      simp only [v39] at hy
      gi_wp2
      refine hR.mono ?_
      rintro e W3 (⟨rfl, hJ3, hk3⟩ | ⟨rfl, hJx3⟩)
      ·have q0 := (World.cell?_of_block (a := ⟨B, 0, none⟩) hk3.2.1).trans HR1.out.boxa.cell
       have q1 := (World.cell?_of_block (a := ⟨B + 1, 0, none⟩) hk3.2.2).trans HR1.out.boxb.cell
       have g0 := (World.frozen?_of_block (a := ⟨B, 0, none⟩) hk3.2.1).trans HR1.out.boxa.frozen
       have g1 := (World.frozen?_of_block (a := ⟨B + 1, 0, none⟩) hk3.2.2).trans HR1.out.boxb.frozen
       have b3 : B + 1 < W3.heap.size := World.block_lt_of_cell? W3 _ q1
       have HF := Lib.hid (HR1.out.cutab hB hJc rfl HA.out HB.out hJ3 hk3)
       simp only [List.length_cons] at q0 q1
       clear hJ3 hk3
       gi_wp2
       gi_region
       all_goals gi_wp2
       all_goals go_roundw
       all_goals first
        | (case rel => exact ⟨_, _, _, _, _, _, _, HF.out.still hJa (Below.refl _ _).drew⟩)
        | (case measure => exact Nat.lt_of_le_of_lt (Nat.le_of_eq (HF.out.still hJa (Below.refl _ _).drew).meas) (by rw [HR.out.meas]; simp only [List.length_cons]; omega))
      ·gi_wp2
       refine bodyPost_ret (results_none rfl _ _ _) rfl ?_
       exact ⟨⟨_, rfl⟩, .inr ⟨_, by rw [HR.out.left, HCE.out]; exact ⟨commonP a b, by simp⟩, hJx3⟩⟩
    ·gi_wp2
     gi_region
     all_goals gi_wp2
     all_goals go_roundw
     all_goals first
      | (case rel => exact ⟨_, _, _, _, _, _, _, (HR.out.cutb hB hJc hc HB.out).still hJa ((((Below.refl _ _).alloc (Nat.le_refl _) _).alloc (by simp) _).drew)⟩)
      | (case measure =>
        exact Nat.lt_of_le_of_lt (Nat.le_of_eq (RelC.meas ((HR.out.cutb hB hJc hc HB.out).still hJa ((((Below.refl _ _).alloc (Nat.le_refl _) _).alloc (by simp) _).drew)))) (by rw [HR.out.meas]; simp only [List.length_cons]; omega))
end Go.Proofs.YtfkejflmhidnaaaGreat.PAll
namespace Go.Proofs.YtfkejflmhidnaaaGreat.PAll
open RowKit YtfkejflmhidnaaaGreatW.PrintWords YtfkejflmhidnaaaGreatW.PrintLast YtfkejflmhidnaaaGreatW.PrintMore
open Hp hiding Good
open Range (SeqCell wpIn_rangeFunc_cell)
attribute [local go_sem] Oper.semAt_some
theorem common_any (Aa Ab : Option Addr) (m k ca cb : Nat) (w : World) :
  Calls Tryz.prog 117 #[.slice Aa m ca, .slice Ab k cb] w fun e w' => e = .returned (.func (.func 135) #[] #[.pointer (some ⟨w.heap.size, 0, none⟩), .pointer (some ⟨w.heap.size + 1, 0, none⟩)]) ∧
   (w.alloc (.cells #[.slice Aa m ca] 33)).alloc (.cells #[.slice Ab k cb] 33) = w' := by
 go_enter Tryz.func117, Tryz.ntmps117
 go_wp2
 go_ret
 exact ⟨rfl, rfl⟩
theorem common_seq (n : Nat) (hn : 1 ≤ n) (B : Nat) (w0 : World) (hB : w0.heap.size ≤ B) (a b : List S37) (Aa Ab : Option Addr) (ca cb : Nat) (hca : a.length ≤ ca) (hcb : b.length ≤ cb) (ha : Kd.C k37 w0 Aa a.length a) (hb : Kd.C k37 w0 Ab b.length b)
  (w : World) (hbl : Below w0.heap.size w0 w) (h0 : Boxed w B 33 (.slice Aa a.length ca)) (h1 : Boxed w (B + 1) 33 (.slice Ab b.length cb)) :
  SeqCell Fence.wide n Tryz.prog 135 #[.pointer (some ⟨B, 0, none⟩), .pointer (some ⟨B + 1, 0, none⟩)] (fun p : S37 × S37 => #[v39 p.1, v39 p.2]) (Kp2 w0.heap.size B)
   (fun ys => ys = commonP a b) (fun pre => pre <+: commonP a b) (commonP a b).length (fun cb => cb = B ∨ cb = B + 1) w := fun l J Jx W hW hA _ hJc _ hY hJ0 =>
 common1_in n hn l B w0 hB a b J Jx (fun s W W' h g => hA s W W' none h (grown_of_below (g.mono (Nat.le_refl _)) none) (fun r e => by cases e)) hJc hY W Aa Ab ca cb
  ⟨rfl, (hW.block _ h0.lt).trans h0, (hW.block _ h1.lt).trans h1, hca, hcb, ha, hb, hbl.trans (hW.mono hbl.size), hJ0⟩
structure MeetI (w : World) (pre : List (S37 × S37)) (W : World) : Prop where
 best : Boxed W w.heap.size 3 (.int .i64 (pre.foldl meetS (-1, -1)).1)
 at' : Boxed W (w.heap.size + 1) 3 (.int .i64 (pre.foldl meetS (-1, -1)).2)
 below : Below w.heap.size w W
 size : w.heap.size + 4 ≤ W.heap.size
theorem MeetI.cell {w W : World} {pre : List (S37 × S37)} (h : MeetI w pre W) (c : Nat) (hc : c = w.heap.size + 2 ∨ c = w.heap.size + 2 + 1) (u : Value) : MeetI w pre (W.setCell ⟨c, 0, none⟩ u) :=
 ⟨h.best.other (by omega) u, h.at'.other (by omega) u, h.below.setCell (p := ⟨c, 0, none⟩) (by simp; omega) _, by simpa [World.setCell] using h.size⟩
theorem MeetI.own (w : World) (B : Nat) (hB : w.heap.size + 4 ≤ B) : OwnFrom B (fun pre W => MeetI w pre W) := by
 rintro pre W W' row ⟨h1, h2, h3, h4⟩ hg hrow
 have hcell : ∀ k o, W.heap[k]? = some o → o.isCells = true → some k ≠ row := fun k o hk ho e => by
  obtain ⟨_, o', ho', hc⟩ := hrow k e.symm
  rw [hk] at ho'; cases ho'
  rw [ho] at hc; cases hc
 exact ⟨h1.kept hg (hcell _ _ h1 rfl), h2.kept hg (hcell _ _ h2 rfl), h3.grown hg h3.size (fun k e => by have := (hrow k e).1; omega), Nat.le_trans h4 hg.size⟩
theorem below_put {W : World} {B D : Nat} {w : World} (o' : Obj) (hb : Below B w W) (hB : B ≤ D) : Below B w (W.putObj D o') :=
 ⟨hb.os, hb.tape, hb.output, by simpa using hb.size, fun k hk => (World.putObj_heap_other (by omega)).trans (hb.block k hk)⟩
theorem MeetI.step {w W : World} {pre : List (S37 × S37)} {p : S37 × S37} (h : MeetI w pre W) (d x : Int) (hs : List.foldl meetS (-1, -1) (pre ++ [p]) = (d, x)) :
  KeepsOthers W ((W.setCell ⟨w.heap.size, 0, none⟩ (.int .i64 d)).setCell ⟨w.heap.size + 1, 0, none⟩ (.int .i64 x)).drew ∧ Kp2 w.heap.size (w.heap.size + 1 + 1) W ((W.setCell ⟨w.heap.size, 0, none⟩ (.int .i64 d)).setCell ⟨w.heap.size + 1, 0, none⟩ (.int .i64 x)).drew ∧
   MeetI w (pre ++ [p]) ((W.setCell ⟨w.heap.size, 0, none⟩ (.int .i64 d)).setCell ⟨w.heap.size + 1, 0, none⟩ (.int .i64 x)).drew := by
 have hb : Below w.heap.size W ((W.setCell ⟨w.heap.size, 0, none⟩ (.int .i64 d)).setCell ⟨w.heap.size + 1, 0, none⟩ (.int .i64 x)).drew := (((Below.refl _ W).setCell (p := ⟨w.heap.size, 0, none⟩) (Nat.le_refl _) _).setCell (p := ⟨w.heap.size + 1, 0, none⟩) (by simp) _).drew
 have hblk : ∀ k, k ≠ w.heap.size → k ≠ w.heap.size + 1 → ((W.setCell ⟨w.heap.size, 0, none⟩ (.int .i64 d)).setCell ⟨w.heap.size + 1, 0, none⟩ (.int .i64 x)).drew.heap[k]? = W.heap[k]? := fun k h1 h2 =>
  (Below.heap_setCell _ ⟨w.heap.size + 1, 0, none⟩ _ k h2).trans (Below.heap_setCell _ ⟨w.heap.size, 0, none⟩ _ k h1)
 refine ⟨((KeepsOthers.setCell _ _ _).trans (KeepsOthers.setCell _ _ _)).trans (KeepsOthers.drew _), ⟨hb, hblk _ (by omega) (by omega), hblk _ (by omega) (by omega)⟩, ⟨?_, ?_, h.below.trans hb, Nat.le_trans h.size hb.size⟩⟩
 ·rw [hs]; exact (h.best.set _).other (by omega) _
 ·rw [hs]; exact (h.at'.other (by omega) _).set _
theorem MeetI.stay {w W : World} {pre : List (S37 × S37)} {p : S37 × S37} (h : MeetI w pre W) (hs : List.foldl meetS (-1, -1) (pre ++ [p]) = List.foldl meetS (-1, -1) pre) :
  KeepsOthers W W ∧ Kp2 w.heap.size (w.heap.size + 1 + 1) W W ∧ MeetI w (pre ++ [p]) W :=
 ⟨KeepsOthers.refl _, ⟨Below.refl _ _, rfl, rfl⟩, ⟨by rw [hs]; exact h.best, by rw [hs]; exact h.at', h.below, h.size⟩⟩
set_option maxRecDepth 100000 in
set_option maxHeartbeats 2000000 in
theorem meet_walk (w : World) (a b : List S37) (Aa Ab : Option Addr) (ca cb : Nat) (hca : a.length ≤ ca) (hcb : b.length ≤ cb) (ha : Kd.C k37 w Aa a.length a) (hb : Kd.C k37 w Ab b.length b) :
  Calls Tryz.prog 88 #[.slice Aa a.length ca, .slice Ab b.length cb] w fun e w' => e = .returned (.tuple #[.int .i64 (meetP a b).1, .int .i64 (meetP a b).2]) ∧ Below w.heap.size w w' := by
 refine (callsIn_wide (n := 6)).1 ?_
 refine callsIn_of_wp_marks Tryz.func88 rfl trivial ?_ rfl
 simp only [Tryz.ntmps88, List.size_toArray, List.length_cons, List.length_nil, Nat.reduceAdd, Nat.reduceSub, Array.replicate_succ, Array.replicate_zero, List.push_toArray, List.append_toArray, List.nil_append, List.cons_append]
 gi_wp2_with (refine ⟨trivial, ?_⟩; gi_at_call 117; refine (callsIn_wide.2 (common_any _ _ _ _ _ _ _)).mono ?_; rintro e w' ⟨rfl, hW⟩)
 have kB : Below w.heap.size w w' := by rw [← hW]; exact ((((Below.refl _ w).alloc (Nat.le_refl _) _).alloc (by simp) _).alloc (by simp; omega) _).alloc (by simp; omega) _
 have kS : w'.heap.size = w.heap.size + 4 := by rw [← hW]; simp
 have k0 : Boxed w' w.heap.size 3 (.int .i64 (-1)) := by rw [← hW]; exact (((Boxed.new w 3 (.int .i64 (-1))).alloc _).alloc _).alloc _
 have k1 : Boxed w' (w.heap.size + 1) 3 (.int .i64 (-1)) := by
  rw [← hW]
  have := Boxed.new (w.alloc (.cells #[.int .i64 (-1)] 3)) 3 (.int .i64 (-1))
  simp only [World.size_alloc] at this
  exact (this.alloc _).alloc _
 have k2 : Boxed w' (w.heap.size + 1 + 1) 33 (.slice Aa a.length ca) := by
  rw [← hW]
  have := Boxed.new ((w.alloc (.cells #[.int .i64 (-1)] 3)).alloc (.cells #[.int .i64 (-1)] 3)) 33 (.slice Aa a.length ca)
  simp only [World.size_alloc] at this
  exact this.alloc _
 have k3 : Boxed w' (w.heap.size + 1 + 1 + 1) 33 (.slice Ab b.length cb) := by
  rw [← hW]
  have := Boxed.new (((w.alloc (.cells #[.int .i64 (-1)] 3)).alloc (.cells #[.int .i64 (-1)] 3)).alloc (.cells #[.slice Aa a.length ca] 33)) 33 (.slice Ab b.length cb)
  simp only [World.size_alloc] at this
  exact this
 clear hW
 refine wpIn_rangeFunc_cell (Cs := fun c => c = w.heap.size + 1 + 1 ∨ c = w.heap.size + 1 + 1 + 1) rfl (by omega) (gf := 135) (lb := #[.pointer (some ⟨w.heap.size + 1 + 1, 0, none⟩), .pointer (some ⟨w.heap.size + 1 + 1 + 1, 0, none⟩)]) rfl trivial (enters_of Tryz.func135 (by kernel_rfl) rfl)
  (fun c hc => by omega) (common_seq 5 (by omega) (w.heap.size + 1 + 1) w (by omega) a b Aa Ab ca cb hca hcb ha hb w' kB k2 k3)
  (fun h k => ⟨h.1.trans k.1, k.2.1.trans h.2.1, k.2.2.trans h.2.2⟩) (fun W l o o' hl _ _ _ => ⟨below_put o' (Below.refl _ _) (by omega), World.putObj_heap_other (by omega), World.putObj_heap_other (by omega)⟩) (Below.refl _ _) (fun _ => rfl)
  (MeetI w) (fun _ _ _ => False) (fun c hc s W u h => h.cell c (by omega) u) (fun _ _ _ _ _ _ h => h) (MeetI.own w _ (by omega)) (fun _ _ _ _ _ h _ _ => h)
  ⟨k0, k1, kB, by omega⟩
  (fun x W => { tmps := #[.slice Aa a.length ca, .slice Ab b.length cb, undef, undef, .int .i64 0, .int .i64 0, .pointer (some ⟨w.heap.size, 0, none⟩), .pointer (some ⟨w.heap.size + 1, 0, none⟩),
     .pointer (some ⟨W.heap.size, 0, none⟩), .pointer (some ⟨W.heap.size + 1, 0, none⟩), undef, .slice Aa a.length ca, .slice Ab b.length cb,
     .func (.func 135) #[] #[.pointer (some ⟨w.heap.size + 1 + 1, 0, none⟩), .pointer (some ⟨w.heap.size + 1 + 1 + 1, 0, none⟩)], v39 x.1, v39 x.2, undef, undef, undef, undef, undef, undef, undef, undef, undef, undef, undef, undef, undef, undef, undef, undef, undef], defers := [] })
  (fun x W => (W.alloc (.cells #[.int .i64 x.1.f0, .int .i64 x.1.f1] 37)).alloc (.cells #[.int .i64 x.2.f0, .int .i64 x.2.f1] 37))
  (fun x W => grown_of_below (((Below.refl _ W).alloc (Nat.le_refl _) _).alloc (by simp) _) none)
  (fun x W hs => have hb : Below W.heap.size W ((W.alloc (.cells #[.int .i64 x.1.f0, .int .i64 x.1.f1] 37)).alloc (.cells #[.int .i64 x.2.f0, .int .i64 x.2.f1] 37)) := ((Below.refl _ W).alloc (Nat.le_refl _) _).alloc (by simp) _; ⟨hb.mono (by omega), hb.block _ (by omega), hb.block _ (by omega)⟩) ?assign ?body ?done ?stop
 case assign =>
  intro l x W K hK
  simp only [v39] at hK ⊢
  gi_wp2
  exact hK
 case body =>
  rintro l pre ⟨⟨x0, x1⟩, ⟨y0, y1⟩⟩ W W2 hsz hnew hsz2 ⟨I1, I2, I3, I4⟩ hlt
  have n0 : W2.heap[W.heap.size]? = some (.cells #[.int .i64 x0, .int .i64 x1] 37 (0, 0)) := (hnew _ (Nat.le_refl _)).trans (blk_alloc (blk_new W _) _)
  have n1 : W2.heap[W.heap.size + 1]? = some (.cells #[.int .i64 y0, .int .i64 y1] 37 (0, 0)) := (hnew _ (by omega)).trans (by
   have := blk_new (W.alloc (.cells #[.int .i64 x0, .int .i64 x1] 37)) (.cells #[.int .i64 y0, .int .i64 y1] 37)
   rwa [World.size_alloc] at this)
  have a0 := (blk_cell n0 0).trans rfl
  have a1 := (blk_cell n0 1).trans rfl
  have b0 := (blk_cell n1 0).trans rfl
  have b1 := (blk_cell n1 1).trans rfl
  have q0 := I1.cell
  have q1 := I2.cell
  have g0 := I1.frozen
  have g1 := I2.frozen
  have HI : Hid (MeetI w pre W2) := Lib.hid ⟨I1, I2, I3, I4⟩
  have HS : Hid (List.foldl meetS (-1, -1) (pre ++ [(⟨x0, x1⟩, ⟨y0, y1⟩)]) = meetS (List.foldl meetS (-1, -1) pre) (⟨x0, x1⟩, ⟨y0, y1⟩)) := Lib.hid (by simp)
  clear hnew n0 n1 I1 I2 I3 I4
  generalize hF : List.foldl meetS (-1, -1) pre = F at *
  obtain ⟨fb, fa⟩ := F
  simp only at q0 q1
  have HF := Lib.hid hF
  clear hF
  obtain ⟨d, hd⟩ : ∃ d, IntKind.i64.wrap (x1 + y1) = d := ⟨_, rfl⟩
  have l0 := HI.out.best.lt
  have l1 := HI.out.at'.lt
  by_cases hfa : fa = -1
  ·have HFIN := Lib.hid (HI.out.step d x0 (by rw [HS.out]; unfold meetS; rw [if_pos (.inl hfa), hd]))
   have hfb : (fa == -1) = true := by simp [hfa]
   clear hfa HS
   gi_wp2
   gi_region
   all_goals gi_wp2
   all_goals exact HFIN.out
  ·have hfb : (fa == -1) = false := by simp [hfa]
   by_cases hle : d ≤ fb
   ·have HFIN := Lib.hid (HI.out.step d x0 (by rw [HS.out]; unfold meetS; rw [if_pos (.inr (by rw [hd]; exact hle)), hd]))
    clear hfa HS
    gi_wp2
    gi_region
    all_goals gi_wp2
    all_goals exact HFIN.out
   ·have HFIN := Lib.hid (HI.out.stay (p := (⟨x0, x1⟩, ⟨y0, y1⟩)) (by rw [HS.out, HF.out]; unfold meetS; rw [if_neg (by rw [hd]; intro f; rcases f with f | f; exact hfa f; exact hle f)]))
    clear hfa HS
    gi_wp2
    all_goals exact HFIN.out
 case done =>
  rintro D ys W hD rfl ⟨I1, I2, I3, I4⟩ hK
  have q0 := I1.cell
  have q1 := I2.cell
  have HFIN : Hid (Below w.heap.size w W) := Lib.hid I3
  have hM : List.foldl meetS (-1, -1) (commonP a b) = meetP a b := rfl
  rw [hM] at q0 q1
  generalize hF : meetP a b = F at *
  obtain ⟨fb, fa⟩ := F
  have HF := Lib.hid hF
  clear hF
  simp only at q0 q1
  have l0 := I1.lt
  have l1 := I2.lt
  clear I1 I2 I3 I4 hM
  gi_wp2
  gi_region
  all_goals gi_wp2
  all_goals (refine ⟨by simp, .inl ⟨_, _, rfl, run_takeDeferred hK, ?_⟩⟩; refine ⟨_, results_tmp2 rfl _ _ _, ?_⟩)
  all_goals exact ⟨by rw [HF.out]; rfl, below_put _ (HFIN.out.drew) (by omega)⟩
 case stop =>
  rintro D c pre W _ _ h _
  exact h.elim
end Go.Proofs.YtfkejflmhidnaaaGreat.PAll
