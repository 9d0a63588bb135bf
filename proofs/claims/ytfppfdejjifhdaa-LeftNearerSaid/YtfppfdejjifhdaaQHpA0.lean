import Derived.Test.YtfppfdejjifhdaaQPAllx0
import Derived.Test.YtfppfdejjifhdaaHeapP
import Derived.Test.YtfppfdejjifhdaaQFHeapEntryIntBefore
import Derived.StillTailTactics
import Derived.Lib.Hide
import Derived.Outline
namespace Go.Proofs.Ytfppfdejjifhdaa.PAll
open Go.RowKit Go.Proofs.YtfppfdejjifhdaaW.PrintWords Go.Proofs.YtfppfdejjifhdaaW.PrintLast Go.Proofs.YtfppfdejjifhdaaW.PrintMore
open Hp
set_option linter.unusedVariables false
set_option linter.unusedSimpArgs false

/-! ### worlds: what may have changed -/
/-- what was there is as it was, but for blocks in S; the streams are as they were -/
structure Only (w w' : World) (S : Nat → Prop) : Prop where
  os : w'.os = w.os
  tape : w'.tape = w.tape
  output : w'.output = w.output
  size : w.heap.size ≤ w'.heap.size
  block : ∀ k, k < w.heap.size → ¬ S k → w'.heap[k]? = w.heap[k]?
theorem Only.refl (w : World) (S : Nat → Prop) : Only w w S := ⟨rfl, rfl, rfl, Nat.le_refl _, fun _ _ _ => rfl⟩
theorem Only.trans {a b c : World} {S : Nat → Prop} (h : Only a b S) (g : Only b c (fun k => k < a.heap.size → S k)) : Only a c S :=
  ⟨g.os.trans h.os, g.tape.trans h.tape, g.output.trans h.output, Nat.le_trans h.size g.size, fun k hk hs => (g.block k (Nat.lt_of_lt_of_le hk h.size) (fun f => hs (f hk))).trans (h.block k hk hs)⟩
theorem Only.mono {w w' : World} {S T : Nat → Prop} (h : Only w w' S) (hs : ∀ k, k < w.heap.size → S k → T k) : Only w w' T :=
  ⟨h.os, h.tape, h.output, h.size, fun k hk hn => h.block k hk (fun f => hn (hs k hk f))⟩
theorem Only.drew {a w : World} {S : Nat → Prop} (h : Only a w S) : Only a w.drew S := ⟨h.os, h.tape, h.output, h.size, h.block⟩
theorem Only.drewN {a w : World} {S : Nat → Prop} (h : Only a w S) (n : Nat) : Only a (w.drewN n) S := ⟨h.os, h.tape, h.output, h.size, h.block⟩
theorem Only.alloc {a w : World} {S : Nat → Prop} (h : Only a w S) (o : Obj) : Only a (w.alloc o) S :=
  ⟨h.os, h.tape, h.output, by have := h.size; simp; omega, fun k hk hn => (Below.heap_alloc w o k (Nat.lt_of_lt_of_le hk h.size)).trans (h.block k hk hn)⟩
theorem Only.setCell {a w : World} {S : Nat → Prop} (h : Only a w S) (p : Addr) (u : Value) (hp : p.block < a.heap.size → S p.block) : Only a (w.setCell p u) S :=
  ⟨h.os, h.tape, h.output, by have := h.size; simp [World.setCell]; omega, fun k hk hn => (Below.heap_setCell w p u k (fun e => hn (by subst e; exact hp hk))).trans (h.block k hk hn)⟩
theorem Only.cell {a w : World} {S : Nat → Prop} (h : Only a w S) (b o : Nat) (u : Value) (hb : S b) : Only a (w.setCell ⟨b, o, none⟩ u) S := h.setCell ⟨b, o, none⟩ u (fun _ => hb)
theorem Only.below {w w' : World} {S : Nat → Prop} {B : Nat} (h : Only w w' S) (hB : B ≤ w.heap.size) (hs : ∀ k, S k → B ≤ k) : Below B w w' :=
  ⟨h.os, h.tape, h.output, h.size, fun k hk => h.block k (Nat.lt_of_lt_of_le hk hB) (fun f => by have := hs k f; omega)⟩
theorem Only.of_below {w w' : World} (h : Below w.heap.size w w') (S : Nat → Prop) : Only w w' S := ⟨h.os, h.tape, h.output, h.size, fun k hk _ => h.block k hk⟩
theorem Only.of_belowB {w w' : World} {B : Nat} (h : Below B w w') : Only w w' (fun k => B ≤ k) := ⟨h.os, h.tape, h.output, h.size, fun k hk hn => h.block k (by omega)⟩
theorem Only.of_grown {w w' : World} {row : Option Nat} (h : w.grownBy w' row) : Only w w' (fun k => some k = row) := ⟨h.os, h.tape, h.output, h.size, fun k hk hn => h.block k hk hn⟩
theorem own_only {w w' : World} {S : Nat → Prop} {B e sz n : Nat} {v : Value} {xs : List Value} (h : w.ownsRow B e sz v n xs) (g : Only w w' S) (hs : ∀ k, v.ownBlock = some k → ¬ S k) : w'.ownsRow B e sz v n xs := by
  obtain ⟨h1, h2⟩ := h
  refine ⟨h1, ?_⟩
  rcases h2 with h2 | ⟨b, cap, cur, rfl, hb, hh, r⟩
  · exact .inl h2
  · exact .inr ⟨b, cap, cur, rfl, hb, (g.block b (blk_lt hh) (hs b rfl)).trans hh, r⟩
theorem own_blk {w : World} {B e sz g n cap : Nat} {xs : List Value} (h : w.ownsRow B e sz (.slice (some ⟨g, 0, none⟩) n cap) n xs) : ∃ cur, w.heap[g]? = some (.cells cur e (0, 0)) := by
  rcases h.2 with ⟨h', _⟩ | ⟨g', cap', cur, h', hb, hg, _⟩
  · simp at h'
  · simp only [Value.slice.injEq, Option.some.injEq, Addr.mk.injEq, and_true, true_and] at h'
    obtain ⟨rfl, rfl⟩ := h'
    exact ⟨cur, hg⟩
theorem own_form {w : World} {B e sz n : Nat} {v : Value} {xs : List Value} (h : w.ownsRow B e sz v n xs) (hn : 0 < n) : ∃ g cap, v = .slice (some ⟨g, 0, none⟩) n cap ∧ n ≤ cap := by
  rcases h.2 with ⟨_, rfl⟩ | ⟨g, cap, cur, rfl, hb, hg, hc, _⟩
  · omega
  · exact ⟨g, cap, rfl, hc⟩
theorem ne_typed {w : World} {a b : Nat} {ca cb : Array Value} {ta tb : Nat} (ha : w.heap[a]? = some (.cells ca ta (0, 0))) (hb : w.heap[b]? = some (.cells cb tb (0, 0))) (ht : ta ≠ tb) : a ≠ b := by
  rintro rfl
  rw [ha] at hb
  injection hb with hb
  injection hb with _ hb
  exact ht hb

/-! ### a heap in memory -/
/-- entries, as they lie in memory -/
def flat (l : List E) : List Value := l.flatMap fun e => [.int .i64 e.id, .int .i64 e.key]
def ints (l : List Int) : List Value := l.map (.int .i64)
theorem flat_len (l : List E) : (flat l).length = l.length * 2 := by
  induction l with
  | nil => rfl
  | cons e l ih => simp [flat] at ih ⊢; omega
theorem flat_get : ∀ (l : List E) (i : Nat), i < l.length → (flat l)[i * 2]? = some (.int .i64 (nth l i).id) ∧ (flat l)[i * 2 + 1]? = some (.int .i64 (nth l i).key)
  | e :: l, 0, _ => ⟨rfl, rfl⟩
  | e :: l, i + 1, h => by
    have := flat_get l i (by simpa using h)
    have e1 : flat (e :: l) = .int .i64 e.id :: .int .i64 e.key :: flat l := rfl
    rw [e1, show (i + 1) * 2 = i * 2 + 1 + 1 by omega, show nth (e :: l) (i + 1) = nth l i by simp [nth]]
    simpa using this
theorem flat_set : ∀ (l : List E) (i : Nat) (e : E), flat (l.set i e) = ((flat l).set (i * 2) (.int .i64 e.id)).set (i * 2 + 1) (.int .i64 e.key)
  | [], i, e => by simp [flat]
  | d :: l, 0, e => rfl
  | d :: l, i + 1, e => by
    have := flat_set l i e
    have e1 : ∀ d l, flat (d :: l) = .int .i64 d.id :: .int .i64 d.key :: flat l := fun _ _ => rfl
    rw [List.set_cons_succ, e1, e1, this, show (i + 1) * 2 = i * 2 + 1 + 1 by omega]
    rfl
theorem ints_get (l : List Int) (i : Nat) (h : i < l.length) : (ints l)[i]? = some (.int .i64 (pl l (i : Int))) := by simp [ints, pl, List.getD, h]
theorem ints_set (l : List Int) (i : Nat) (v : Int) : ints (l.set i v) = (ints l).set i (.int .i64 v) := by simp [ints, List.map_set]

/-- The heap's object in block hb; its rows lie from block B on. -/
structure HRep (w : World) (B hb n : Nat) (lv pv : Value) (q : Q) : Prop where
  blk : w.heap[hb]? = some (.cells #[lv, pv] 88 (0, 0))
  l : w.ownsRow B 90 2 lv q.l.length (flat q.l)
  p : w.ownsRow B 3 1 pv n (ints q.place)
  base : B ≤ hb
  lsmall : q.l.length ≤ 1000
  psmall : n ≤ 1000

/-- the heap's own blocks -/
def HS (hb : Nat) (lv pv : Value) (k : Nat) : Prop := k = hb ∨ lv.ownBlock = some k ∨ pv.ownBlock = some k
theorem HRep.plen {w : World} {B hb n : Nat} {lv pv : Value} {q : Q} (h : HRep w B hb n lv pv q) : q.place.length = n := by
  have := h.p.1
  simpa [ints] using this
theorem HRep.hs {w : World} {B hb n : Nat} {lv pv : Value} {q : Q} (h : HRep w B hb n lv pv q) : ∀ k, HS hb lv pv k → B ≤ k ∧ k < w.heap.size := by
  rintro k (rfl | hk | hk)
  · exact ⟨h.base, blk_lt h.blk⟩
  · exact h.l.lt k hk
  · exact h.p.lt k hk
theorem HRep.only {w w' : World} {B hb n : Nat} {lv pv : Value} {q : Q} {S : Nat → Prop} (h : HRep w B hb n lv pv q) (g : Only w w' S) (hs : ∀ k, HS hb lv pv k → ¬ S k) : HRep w' B hb n lv pv q :=
  ⟨(g.block hb (blk_lt h.blk) (hs hb (.inl rfl))).trans h.blk, own_only h.l g (fun k hk => hs k (.inr (.inl hk))), own_only h.p g (fun k hk => hs k (.inr (.inr hk))), h.base, h.lsmall, h.psmall⟩

/-- what is known of a heap's cells -/
theorem HRep.cells {w : World} {B hb n : Nat} {lv pv : Value} {q : Q} (h : HRep w B hb n lv pv q) : w.cell? ⟨hb, 0, none⟩ = some lv ∧ w.cell? ⟨hb, 1, none⟩ = some pv ∧ w.frozen? ⟨hb, 0, none⟩ = false ∧ w.frozen? ⟨hb, 1, none⟩ = false ∧ hb < w.heap.size :=
  ⟨(blk_cell h.blk 0).trans rfl, (blk_cell h.blk 1).trans rfl, blk_frozen h.blk 0, blk_frozen h.blk 1, blk_lt h.blk⟩
theorem HRep.forms {w : World} {B hb n : Nat} {lv pv : Value} {q : Q} (h : HRep w B hb n lv pv q) (hq : 0 < q.l.length) (hn : 0 < n) :
    ∃ lb lc pb pc, lv = .slice (some ⟨lb, 0, none⟩) q.l.length lc ∧ q.l.length ≤ lc ∧ pv = .slice (some ⟨pb, 0, none⟩) n pc ∧ n ≤ pc ∧ lb < w.heap.size ∧ pb < w.heap.size ∧ lb ≠ hb ∧ pb ≠ hb ∧ lb ≠ pb ∧ (∀ j, w.frozen? ⟨lb, j, none⟩ = false) ∧ (∀ j, w.frozen? ⟨pb, j, none⟩ = false) ∧
      (∀ i, i < q.l.length → w.cell? ⟨lb, i * 2, none⟩ = some (.int .i64 (nth q.l i).id) ∧ w.cell? ⟨lb, i * 2 + 1, none⟩ = some (.int .i64 (nth q.l i).key)) ∧ (∀ i : Nat, i < n → w.cell? ⟨pb, i, none⟩ = some (.int .i64 (pl q.place i))) := by
  obtain ⟨lb, lc, rfl, hlc⟩ := own_form h.l hq
  obtain ⟨pb, pc, rfl, hpc⟩ := own_form h.p hn
  obtain ⟨curl, bl⟩ := own_blk h.l
  obtain ⟨curp, bp⟩ := own_blk h.p
  have hp := h.plen
  refine ⟨lb, lc, pb, pc, rfl, hlc, rfl, hpc, blk_lt bl, blk_lt bp, ne_typed bl h.blk (by decide), ne_typed bp h.blk (by decide), ne_typed bl bp (by decide), h.l.frozenAt, h.p.frozenAt, fun i hi => ⟨?_, ?_⟩, fun i hi => ?_⟩
  · exact (h.l.cellAt (i * 2) (by omega)).trans (flat_get q.l i hi).1
  · exact (h.l.cellAt (i * 2 + 1) (by omega)).trans (flat_get q.l i hi).2
  · exact (h.p.cellAt i (by omega)).trans (ints_get q.place i (by omega))

theorem drew_own {w : World} {B e sz n : Nat} {v : Value} {xs : List Value} (h : w.ownsRow B e sz v n xs) : w.drew.ownsRow B e sz v n xs := own_only h ((Only.refl w (fun _ => False)).drew) (fun _ _ f => f)

/-- what lay leaves -/
theorem HRep.laid {w : World} {B hb n lb lc pb pc : Nat} {q : Q} (h : HRep w B hb n (.slice (some ⟨lb, 0, none⟩) q.l.length lc) (.slice (some ⟨pb, 0, none⟩) n pc) q) (i a : Nat) (k : Int) (hne : lb ≠ pb) (hlh : lb ≠ hb) (hph : pb ≠ hb) :
    HRep (((w.setCell ⟨lb, i * 2, none⟩ (.int .i64 a)).setCell ⟨lb, i * 2 + 1, none⟩ (.int .i64 k)).setCell ⟨pb, a, none⟩ (.int .i64 ((i : Int) + 1))) B hb n (.slice (some ⟨lb, 0, none⟩) q.l.length lc) (.slice (some ⟨pb, 0, none⟩) n pc) (lay q i ⟨a, k⟩) := by
  have l1 := (h.l.stored (i * 2) (.int .i64 a)).1
  have l2 := (l1.stored (i * 2 + 1) (.int .i64 k)).1
  have o2 : Only w ((w.setCell ⟨lb, i * 2, none⟩ (.int .i64 a)).setCell ⟨lb, i * 2 + 1, none⟩ (.int .i64 k)) (fun k => k = lb) :=
    ((Only.refl w (fun k => k = lb)).cell lb (i * 2) (.int .i64 a) rfl).cell lb (i * 2 + 1) (.int .i64 k) rfl
  have p1 := own_only h.p o2 (fun k hk e => by subst e; simp [Value.ownBlock] at hk; exact hne hk.symm)
  have hb1 := (o2.block hb (blk_lt h.blk) (fun e => hlh e.symm)).trans h.blk
  generalize (w.setCell ⟨lb, i * 2, none⟩ (.int .i64 a)).setCell ⟨lb, i * 2 + 1, none⟩ (.int .i64 k) = w1 at *
  have o1 : Only w1 (w1.setCell ⟨pb, a, none⟩ (.int .i64 ((i : Int) + 1))) (fun k => k = pb) := (Only.refl w1 (fun k => k = pb)).cell pb a (.int .i64 ((i : Int) + 1)) rfl
  have l3 := own_only l2 o1 (fun k hk e => by subst e; simp [Value.ownBlock] at hk; exact hne hk)
  have p2 := (p1.stored a (.int .i64 ((i : Int) + 1))).1
  have hb2 := (o1.block hb (blk_lt hb1) (fun e => hph e.symm)).trans hb1
  generalize w1.setCell ⟨pb, a, none⟩ (.int .i64 ((i : Int) + 1)) = w2 at *
  have el : (lay q i ⟨a, k⟩).l = q.l.set i ⟨a, k⟩ := rfl
  have ep : (lay q i ⟨a, k⟩).place = q.place.set a ((i : Int) + 1) := rfl
  have hs := h.lsmall
  refine ⟨hb2, ?_, ?_, h.base, ?_, h.psmall⟩
  · rw [el, List.length_set, flat_set]
    exact l3
  · rw [ep, ints_set]
    exact p2
  · rw [el, List.length_set]
    exact hs

/-- behind lay, and its like: the heap in memory is q'; nothing else has changed -/
def HStep (w : World) (B hb n : Nat) (lv pv : Value) (q' : Q) (w' : World) : Prop := HRep w' B hb n lv pv q' ∧ Only w w' (HS hb lv pv)

theorem lay_walk (w : World) (B hb n : Nat) (lv pv : Value) (q : Q) (h : HRep w B hb n lv pv q) (i : Nat) (a k : Int) (hi : i < q.l.length) (he0 : 0 ≤ a) (he1 : a < n) :
    Calls Try.prog 47 #[.pointer (some ⟨hb, 0, none⟩), .int .i64 i, .agg #[.int .i64 a, .int .i64 k]] w fun r w' => r = .returned (.tuple #[]) ∧ HStep w B hb n lv pv (lay q i ⟨a, k⟩) w' := by
  obtain ⟨lb, lc, pb, pc, rfl, hlc, rfl, hpc, l1, l2, n0, n1, n2, f0, f1, dl, dp⟩ := h.forms (by omega) (by omega)
  obtain ⟨c0, c1, g0, g1, l0⟩ := h.cells
  have n0' := n0.symm
  have n1' := n1.symm
  have n2' := n2.symm
  obtain ⟨a, rfl⟩ := Int.eq_ofNat_of_zero_le he0
  obtain ⟨d0, d1⟩ := dl i hi
  have d2 := dp a (by omega)
  generalize (nth q.l i).id = v0 at d0
  generalize (nth q.l i).key = v1 at d1
  generalize pl q.place a = v2 at d2
  have hs := h.psmall
  have hs2 := h.lsmall
  have H := Lib.hid h
  obtain ⟨m, hm⟩ : ∃ m, q.l.length = m := ⟨_, rfl⟩
  have HM := Lib.hid hm
  have HL := Lib.hid (h.laid i a k n2 n0 n1)
  rw [hm] at c0 hi hs2
  clear h hm he0 dl dp hlc hpc
  rw [HM.out] at HL ⊢
  go_enter Try.func47, Try.ntmps47
  go_wp2
  go_region
  all_goals go_wp2
  all_goals go_region
  all_goals go_wp2
  go_end0
  refine ⟨rfl, HRep.only HL.out (S := fun _ => False) ((Only.refl _ _).alloc _).drew.drew (fun _ _ f => f), ?_⟩
  exact (((((Only.refl w _).cell lb (i * 2) _ (.inr (.inl rfl))).cell lb (i * 2 + 1) _ (.inr (.inl rfl))).cell pb a _ (.inr (.inr rfl))).alloc _).drew.drew
end Go.Proofs.Ytfppfdejjifhdaa.PAll
