import Derived.Test.YtfkejflmhidnaaaGreatQClB
import Derived.Maps.OwnSet
import Derived.Maps.OwnOps
import Derived.Test.YtfkejflmhidnaaaGreatQMtP
import Derived.Test.YtfkejflmhidnaaaGreatQHpA0
set_option linter.all false
namespace Go.Proofs.YtfkejflmhidnaaaGreat.PAll
open RowKit YtfkejflmhidnaaaGreatW.PrintWords YtfkejflmhidnaaaGreatW.PrintLast YtfkejflmhidnaaaGreatW.PrintMore
open Hp hiding Good
def anyElem (v : Value) : Option (DataW Value × List MemPlace) := some (.held v, [])
def MapV (w : World) (b n : Nat) (f : Int → Option Value) : Prop :=
 ∃ D : DataW Value, w.ownsMap Tryz.prog 3 anyElem b n D ∧ Maps.IsMap D ∧
  ∀ x : Int, (Maps.has D (.int .i64 x) = (f x).isSome) ∧ ∀ z, D.atKey (.int .i64 x) z = match f x with
   | some y => .held y
   | none => z
def updV (f : Int → Option Value) (x : Int) (v : Value) : Int → Option Value := fun y => if y = x then some v else f y
theorem updV_same (f : Int → Option Value) (x : Int) (v : Value) : updV f x v x = some v := if_pos rfl
theorem updV_ne (f : Int → Option Value) {x y : Int} (v : Value) (h : y ≠ x) : updV f x v y = f y := if_neg h
theorem MapV.made (w : World) : MapV (w.alloc (.map #[] 0)) w.heap.size 0 (fun _ => none) :=
 ⟨.map [], World.ownsMap_made w _ _ _, Maps.isMap_empty, fun x => ⟨rfl, fun z => rfl⟩⟩
theorem MapV.lt {w : World} {b n : Nat} {f : Int → Option Value} (h : MapV w b n f) : b < w.heap.size := by
 obtain ⟨D, h, _⟩ := h
 exact h.lt
theorem MapV.only {w w' : World} {b n : Nat} {f : Int → Option Value} {S : Nat → Prop} (h : MapV w b n f) (g : Only w w' S) (hs : ¬ S b) : MapV w' b n f := by
 obtain ⟨D, ⟨es, clock, h1, h2⟩, h3⟩ := h
 exact ⟨D, ⟨es, clock, (g.block b (Array.getElem?_eq_some_iff.1 h1).1 hs).trans h1, h2⟩, h3⟩
theorem MapV.below {w w' : World} {b n : Nat} {f : Int → Option Value} (h : MapV w b n f) (g : Below w.heap.size w w') : MapV w' b n f :=
 h.only (Only.of_below g (fun _ => False)) (fun f => f)
theorem MapV.grown {w w' : World} {b n : Nat} {f : Int → Option Value} {o : Option Nat} (h : MapV w b n f) (g : w.grownBy w' o) (ho : o ≠ some b) : MapV w' b n f := by
 obtain ⟨D, ⟨es, clock, h1, h2⟩, h3⟩ := h
 exact ⟨D, ⟨es, clock, (g.block b (Array.getElem?_eq_some_iff.1 h1).1 (fun e => ho e.symm)).trans h1, h2⟩, h3⟩
theorem MapV.look {w : World} {b n : Nat} {f : Int → Option Value} (h : MapV w b n f) {t e : TypeId} (ht : Tryz.prog.underlying t = some (.map 3 e)) {z : Value} (hz : (zeroValue e).run Tryz.prog w = .ok z w) (x : Int) (hx : (Lit.int .i64 x).wf = true) :
  (Instr.lookup t (.map (some b)) (.int .i64 x) false).run Tryz.prog w = .ok ((f x).getD z) w := by
 obtain ⟨D, h1, h2, h3⟩ := h
 obtain ⟨v, ps, hr, hv⟩ := h1.lookup key3 ht hz (R := anyElem) (zd := .held z) (zp := []) rfl (Maps.keyOf_int_mk Tryz.underlying3 hx)
 rw [(h3 x).2] at hv
 rw [hr]
 cases hf : f x with
 | none =>
  rw [hf] at hv
  simp only [anyElem, Option.some.injEq, Prod.mk.injEq, DataW.held.injEq] at hv
  rw [hv.1]; rfl
 | some y =>
  rw [hf] at hv
  simp only [anyElem, Option.some.injEq, Prod.mk.injEq, DataW.held.injEq] at hv
  rw [hv.1]; rfl
theorem MapV.store {w : World} {b n : Nat} {f : Int → Option Value} (h : MapV w b n f) {t e : TypeId} (ht : Tryz.prog.underlying t = some (.map 3 e)) (hn : n < maxLen) (x : Int) (hx : (Lit.int .i64 x).wf = true) (v : Value) :
  ∃ w', (Instr.mapUpdate t (.map (some b)) (.int .i64 x) v).run Tryz.prog w = .ok () w' ∧ MapV w' b (n + 1) (updV f x v) ∧ w.mapTurned w' b := by
 obtain ⟨D, h1, h2, h3⟩ := h
 obtain ⟨w', hr, h4, h5⟩ := h1.store key3 ht hn (Maps.keyOf_int_mk Tryz.underlying3 hx) (val := v) (d := .held v) (ps := []) rfl
 refine ⟨w', hr, ⟨_, h4, h2.put _ _, fun y => ?_⟩, h5⟩
 have hkl : WideAt.IsKeyLit (Lit.int .i64 x) := trivial
 by_cases e : y = x
 ·subst e
  refine ⟨?_, fun z => ?_⟩
  ·rw [Maps.has_put_same h2 hkl]; simp [updV]
  ·rw [Maps.atKey_put_same h2 hkl]; simp [updV]
 ·have hne : (Lit.int .i64 y) ≠ (Lit.int .i64 x) := fun f => by injection f with _ f; exact e f
  refine ⟨?_, fun z => ?_⟩
  ·rw [Maps.has_put_other hne, (h3 y).1]; simp [updV, e]
  ·rw [Maps.atKey_put_other hne, (h3 y).2]; simp [updV, e]
theorem info174 : (Tryz.prog.info? 174).map (fun i => (i.zero, i.size, i.bytes)) = some (some (.agg #[(.int .i64 0), (.int .i64 0)]), 2, 16) := by kernel_rfl
structure S174 where
 f0 : Int
 f1 : Int
def z174 : S174 := ⟨(0 : Int), (0 : Int)⟩
def k174 : Kd S174 := Kd.iso (Kd.pair (Kd.int .i64) (Kd.int .i64)) (fun x : S174 => (x.f0, x.f1))
theorem k174_open {w : World} {x : S174} {cs : List Value} (h : k174.K w x cs) : cs = [.int .i64 x.f0, .int .i64 x.f1] := by
 obtain ⟨_, _, rfl, rfl, rfl⟩ := h
 exact rfl
theorem k174_openM {w : World} {base : Nat} {ok : Nat → Prop} {x : S174} {cs : List Value} (h : k174.M w base ok x cs) : cs = [.int .i64 x.f0, .int .i64 x.f1] := by
 obtain ⟨_, _, rfl, rfl, rfl⟩ := h
 exact rfl
theorem k174_mkM (w : World) (base : Nat) (ok : Nat → Prop) (x : S174)  : k174.M w base ok x [.int .i64 x.f0, .int .i64 x.f1] := ⟨[.int .i64 x.f0], [.int .i64 x.f1], rfl, rfl, rfl⟩
def rd_T174 (xs : List S174) (i : Int) : S174 := xs.getD i.toNat z174
theorem at_T174 {w : World} {A : Option Addr} {n : Nat} {xs : List S174} (h : Kd.C k174 w A n xs) (i : Int) (h0 : 0 ≤ i) (h1 : i < n) : ∃ ad , A = some ad ∧ w.cell? (ad.add (i.toNat * 2)) = some (.int .i64 (rd_T174 xs i).f0) ∧ w.cell? ⟨(ad.add (i.toNat * 2)).block, (ad.add (i.toNat * 2)).off + 1, none⟩ = some (.int .i64 (rd_T174 xs i).f1) := by
 obtain ⟨ad, c, e, _, hK, hc0⟩ := Kd.C_get h z174 i h0 h1
 have hc : ∀ j u, c[j]? = some u → w.cell? (ad.add (i.toNat * 2 + j)) = some u := hc0
 obtain rfl := k174_open hK
 exact ⟨ad, e, hc 0 _ rfl, by rw [← add_field _ _ 1 (by omega)]; exact hc 1 _ rfl⟩
def bkAdd (i : Nat) (f : Int → List S174) (x : S37) : Int → List S174 := fun u => if u = x.f0 then f u ++ [⟨(i : Int), x.f1⟩] else f u
def bkP (n : Nat) (h : HierP) (ts : List Int) : Nat → Int → List S174
 | 0 => fun _ => []
 | k + 1 => (aboveP n h (rd ts (k : Int)) true).foldl (bkAdd k) (bkP n h ts k)
theorem bkAdd_mem {i : Nat} {f : Int → List S174} {x : S37} {u : Int} {b : S174} : b ∈ bkAdd i f x u ↔ b ∈ f u ∨ (u = x.f0 ∧ b = ⟨(i : Int), x.f1⟩) := by
 unfold bkAdd
 by_cases h : u = x.f0
 ·rw [if_pos h]; simp [h]
 ·rw [if_neg h]; simp [h]
theorem bkFold_mem {i : Nat} {u : Int} {b : S174} : ∀ (l : List S37) (f : Int → List S174), b ∈ l.foldl (bkAdd i) f u ↔ b ∈ f u ∨ ∃ x ∈ l, u = x.f0 ∧ b = ⟨(i : Int), x.f1⟩
 | [], f => by simp
 | x :: l, f => by
  rw [List.foldl_cons, bkFold_mem l, bkAdd_mem]
  constructor
  ·rintro ((h | h) | ⟨y, hy, h⟩)
   ·exact .inl h
   ·exact .inr ⟨x, by simp, h⟩
   ·exact .inr ⟨y, by simp [hy], h⟩
  ·rintro (h | ⟨y, hy, h⟩)
   ·exact .inl (.inl h)
   ·rcases List.mem_cons.1 hy with rfl | hy
    ·exact .inl (.inr h)
    ·exact .inr ⟨y, hy, h⟩
theorem bkP_mem {n : Nat} {h : HierP} {ts : List Int} {u : Int} {b : S174} : ∀ k : Nat, b ∈ bkP n h ts k u ↔ ∃ i : Nat, i < k ∧ ∃ x ∈ aboveP n h (rd ts (i : Int)) true, u = x.f0 ∧ b = ⟨(i : Int), x.f1⟩
 | 0 => by simp [bkP]
 | k + 1 => by
  rw [bkP, bkFold_mem, bkP_mem k]
  constructor
  ·rintro (⟨i, hi, h⟩ | h)
   ·exact ⟨i, by omega, h⟩
   ·exact ⟨k, by omega, h⟩
  ·rintro ⟨i, hi, h⟩
   by_cases e : i = k
   ·subst e; exact .inr h
   ·exact .inl ⟨i, by omega, h⟩
theorem bkAdd_len {i : Nat} {f : Int → List S174} {x : S37} {u : Int} : (bkAdd i f x u).length ≤ (f u).length + 1 := by
 unfold bkAdd
 split <;> simp
theorem bkFold_len {i : Nat} {u : Int} : ∀ (l : List S37) (f : Int → List S174), (l.foldl (bkAdd i) f u).length ≤ (f u).length + l.length
 | [], f => by simp
 | x :: l, f => by
  rw [List.foldl_cons]
  have := bkFold_len (i := i) (u := u) l (bkAdd i f x)
  have := bkAdd_len (i := i) (f := f) (x := x) (u := u)
  simp only [List.length_cons]
  omega
theorem bkP_len {n : Nat} {h : HierP} {ts : List Int} {u : Int} : ∀ k : Nat, (bkP n h ts k u).length ≤ k * n
 | 0 => by simp [bkP]
 | k + 1 => by
  rw [bkP]
  have h1 := bkFold_len (i := k) (u := u) (aboveP n h (rd ts (k : Int)) true) (bkP n h ts k)
  have h2 := bkP_len (n := n) (h := h) (ts := ts) (u := u) k
  have h3 := aboveP_len n h (rd ts (k : Int)) true
  have h4 : (k + 1) * n = k * n + n := Nat.succ_mul k n
  omega
structure BkRep (w : World) (base mb N : Nat) (P : Int → List S174) : Prop where
 ex : ∃ f, MapV w mb N f ∧ (∀ x, f x = none → P x = []) ∧ (∀ x v, f x = some v → Kd.R k174 174 w base (fun k => k ≠ mb) v (P x)) ∧ (∀ x y v u k, x ≠ y → f x = some v → f y = some u → v.ownBlock = some k → u.ownBlock ≠ some k)
theorem BkRep.below {w w' : World} {base mb N : Nat} {P : Int → List S174} (h : BkRep w base mb N P) (g : Below w.heap.size w w') : BkRep w' base mb N P := by
 obtain ⟨f, h1, h2, h3, h4⟩ := h.ex
 exact ⟨f, h1.below g, h2, fun x v e => Kd.R_below (h3 x v e) g, h4⟩
theorem BkRep.lt {w : World} {base mb N : Nat} {P : Int → List S174} (h : BkRep w base mb N P) : mb < w.heap.size := by
 obtain ⟨f, h1, _⟩ := h.ex
 exact h1.lt
structure BkAt (w : World) (base mb N : Nat) (P : Int → List S174) (f : Int → Option Value) (x : Int) (v : Value) : Prop where
 map : MapV w mb N f
 noP : ∀ y, f y = none → P y = []
 row : ∀ y u, f y = some u → Kd.R k174 174 w base (fun k => k ≠ mb) u (P y)
 ne : ∀ y z u t k, y ≠ z → f y = some u → f z = some t → u.ownBlock = some k → t.ownBlock ≠ some k
 val : (f x).getD (.slice none 0 0) = v
 own : Kd.R k174 174 w base (fun k => k ≠ mb) v (P x)
theorem BkRep.at {w : World} {base mb N : Nat} {P : Int → List S174} (h : BkRep w base mb N P) (x : Int) : ∃ f v, BkAt w base mb N P f x v := by
 obtain ⟨f, h1, h2, h3, h4⟩ := h.ex
 refine ⟨f, _, h1, h2, h3, h4, rfl, ?_⟩
 cases hf : f x with
 | none => rw [h2 x hf]; exact Kd.R_nil _ _ _ _ _
 | some v => exact h3 x v hf
theorem BkAt.look {w w' : World} {base mb N : Nat} {P : Int → List S174} {f : Int → Option Value} {x : Int} {v : Value} (h : BkAt w base mb N P f x v) (g : Below w.heap.size w w') (hx : (Lit.int .i64 x).wf = true) :
  (Instr.lookup 141 (.map (some mb)) (.int .i64 x) false).run Tryz.prog w' = .ok v w' := by
 have := (h.map.below g).look (t := 141) (e := 172) (z := .slice none 0 0) Tryz.underlying141 (by kernel_rfl) x hx
 rw [this, h.val]
theorem BkAt.below {w w' : World} {base mb N : Nat} {P : Int → List S174} {f : Int → Option Value} {x : Int} {v : Value} (h : BkAt w base mb N P f x v) (g : Below w.heap.size w w') : BkAt w' base mb N P f x v :=
 ⟨h.map.below g, h.noP, fun y u e => Kd.R_below (h.row y u e) g, h.ne, h.val, Kd.R_below h.own g⟩
theorem BkAt.away {w : World} {base mb N : Nat} {P : Int → List S174} {f : Int → Option Value} {x : Int} {v : Value} (h : BkAt w base mb N P f x v) : v.ownBlock ≠ some mb := fun e => h.own.1 mb e rfl
theorem BkAt.look2 {w w1 : World} {base mb N : Nat} {P : Int → List S174} {f : Int → Option Value} {x : Int} {v : Value} (h : BkAt w base mb N P f x v) (g : w.grownBy w1 v.ownBlock) (hx : (Lit.int .i64 x).wf = true) :
  (Instr.lookup 141 (.map (some mb)) (.int .i64 x) false).run Tryz.prog w1 = .ok v w1 := by
 have := (h.map.grown g h.away).look (t := 141) (e := 172) (z := .slice none 0 0) Tryz.underlying141 (by kernel_rfl) x hx
 rw [this, h.val]
theorem bk_put {w w1 : World} {base mb N i : Nat} {P : Int → List S174} {f : Int → Option Value} {x : Int} {v v1 : Value} {d : Int} (h : BkAt w base mb N P f x v) (hx : (Lit.int .i64 x).wf = true) (hN : N < maxLen)
  (hR : Kd.R k174 174 w1 base (fun k => k ≠ mb) v1 (P x ++ [⟨(i : Int), d⟩])) (g : w.grownBy w1 v.ownBlock) (hat : v1.ownBlock = v.ownBlock ∨ ∃ b, v1.ownBlock = some b ∧ w.heap.size ≤ b) :
  ∃ w2, (Instr.mapUpdate 141 (.map (some mb)) (.int .i64 x) v1).run Tryz.prog w1 = .ok () w2 ∧ BkRep w2 base mb (N + 1) (bkAdd i P ⟨x, d⟩) ∧ w1.grownBy w2 (some mb) := by
 obtain ⟨w2, hr, h1, h2⟩ := (h.map.grown g h.away).store (t := 141) (e := 172) Tryz.underlying141 hN x hx v1
 have g2 : w1.grownBy w2 (some mb) := h2.grown
 have hlt : ∀ y u k, f y = some u → u.ownBlock = some k → k < w.heap.size := fun y u k e hk => by
  obtain ⟨inner, ho⟩ := Kd.R_own (h.row y u e)
  exact (ho.lt k hk).2
 have hvn : ∀ y u k, y ≠ x → f y = some u → u.ownBlock = some k → v.ownBlock ≠ some k := fun y u k hne e hk hv => by
  have hval := h.val
  cases hf : f x with
  | none => rw [hf] at hval; simp only [Option.getD_none] at hval; rw [← hval] at hv; cases hv
  | some t => rw [hf] at hval; simp only [Option.getD_some] at hval; subst hval; exact h.ne y x u t k hne e hf hk hv
 refine ⟨w2, hr, ⟨_, h1, fun y e => ?_, fun y u e => ?_, fun y z u t k hne e1 e2 hk hk2 => ?_⟩, g2⟩
 ·by_cases hy : y = x
  ·subst hy; rw [updV_same] at e; cases e
  ·rw [updV_ne f v1 hy] at e
   unfold bkAdd
   rw [if_neg hy]
   exact h.noP y e
 ·by_cases hy : y = x
  ·subst hy
   rw [updV_same] at e
   cases e
   unfold bkAdd
   rw [if_pos rfl]
   exact Kd.R_grown hR g2 (fun k hk e => hk (by cases e; rfl))
  ·rw [updV_ne f v1 hy] at e
   unfold bkAdd
   rw [if_neg hy]
   have r0 := Kd.R_bound (h.row y u e)
   have r1 : Kd.R k174 174 w base (fun k => k ≠ mb ∧ u.ownBlock = some k) u (P y) := ⟨fun k hk => ⟨(h.row y u e).1 k hk, hk⟩, (h.row y u e).2.imp_ (fun _ _ hp => by obtain rfl := k174_openM hp; exact k174_mkM _ _ _ _)⟩
   exact Kd.R_grown (Kd.R_mono (Kd.R_grown r1 g (fun k hk e2 => hvn y u k hy e hk.2 e2.symm)) (fun k hk => hk.1)) g2 (fun k hk e => hk (by cases e; rfl))
 ·have hnew : ∀ z t, z ≠ x → f z = some t → ∀ k, v1.ownBlock = some k → t.ownBlock ≠ some k := fun z t hz e k hk hk2 => by
   rcases hat with ha | ⟨b, hb, hge⟩
   ·rw [ha] at hk
    exact hvn z t k hz e hk2 hk
   ·rw [hb] at hk
    cases hk
    have := hlt z t _ e hk2
    omega
  by_cases hy : y = x
  ·subst hy
   rw [updV_same] at e1
   cases e1
   rw [updV_ne f v1 (fun e => hne e.symm)] at e2
   exact hnew z t (fun e => hne e.symm) e2 k hk hk2
  ·rw [updV_ne f v1 hy] at e1
   by_cases hz : z = x
   ·subst hz
    rw [updV_same] at e2
    cases e2
    exact hnew y u hy e1 k hk2 hk
   ·rw [updV_ne f v1 hz] at e2
    exact h.ne y z u t k hne e1 e2 hk hk2
theorem cellAllocZ {w : World} {o : Obj} {a : Addr} {v : Value} (h : w.cell? a = some v) : (w.alloc o).cell? a = some v := by
 have hl := World.block_lt_of_cell? w a h
 exact ((Below.refl w.heap.size w).alloc (Nat.le_refl _) o).cell (p := a) hl |>.trans h
theorem take_foldZ {α β : Type} (f : β → α → β) (b : β) (l : List α) (j : Nat) (hj : j < l.length) : (l.take (j + 1)).foldl f b = f ((l.take j).foldl f b) l[j] := by
 rw [List.take_succ_eq_append_getElem hj, List.foldl_append]
 rfl
theorem BkRep.made (w : World) (n : Nat) (h : HierP) (ts : List Int) : BkRep (w.alloc (.map #[] 0)) w.heap.size w.heap.size 0 (bkP n h ts 0) := by
 refine ⟨_, MapV.made w, fun x _ => rfl, ?_, ?_⟩
 ·intro x v e; cases e
 ·intro x y v u k _ e; cases e
set_option maxRecDepth 100000 in
set_option maxHeartbeats 4000000 in
theorem buckets_walk (w : World) (hb n : Nat) (h : HierP) (wm : Int) (H : HierRep w hb n h) (hok : HOk n wm h) (A : Option Addr) (c : Nat) (ts : List Int) (hT : Kd.C (Kd.int .i64) w A ts.length ts) (htl : ts.length ≤ 1000) :
  Calls Tryz.prog 98 #[.pointer (some ⟨hb, 0, none⟩), .slice A ts.length c] w fun r w' => ∃ mb N, r = .returned (.map (some mb)) ∧ BkRep w' w.heap.size mb N (bkP n h ts ts.length) ∧ w.heap.size ≤ mb ∧ Below w.heap.size w w' := by
 have hn9 := H.small
 have HBA : Hid (∀ W, Below w.heap.size w W → ∀ v : Int, Calls Tryz.prog 90 #[.pointer (some ⟨hb, 0, none⟩), .int .i64 v] W fun r w' => ∃ vr, r = .returned vr ∧ Kd.R k37 37 w' W.heap.size (fun _ => True) vr (aboveP n h v true) ∧ Below W.heap.size W w') := Lib.hid (fun W g v => back_walk W hb n h wm (H.below g) hok v)
 have HTC : Hid (∀ W, Below w.heap.size w W → Kd.C (Kd.int .i64) W A ts.length ts) := Lib.hid (fun W g => Kd.C_below hT g)
 have HAM : Hid (∀ v : Int, ∀ x ∈ aboveP n h v true, 0 ≤ x.f0 ∧ x.f0 < n ∧ 0 ≤ x.f1 ∧ x.f1 ≤ 1152921504606846976) := Lib.hid (fun v x hx => aboveP_mem hok hn9 hx)
 have HAL : Hid (∀ v : Int, (aboveP n h v true).length ≤ 900) := Lib.hid (fun v => Nat.le_trans (aboveP_len n h v true) hn9)
 have HPL : Hid (∀ (i j : Nat) (l : List S37) (u : Int), i ≤ 1000 → j ≤ 900 → (((l.take j).foldl (bkAdd i) (bkP n h ts i)) u).length ≤ 900900) := Lib.hid (fun i j l u hi hj => by
  have h1 := bkFold_len (i := i) (u := u) (l.take j) (bkP n h ts i)
  have h2 := bkP_len (n := n) (h := h) (ts := ts) (u := u) i
  have h3 : (l.take j).length ≤ j := by rw [List.length_take]; omega
  have h4 : i * n ≤ 1000 * 900 := Nat.mul_le_mul hi hn9
  omega)
 obtain ⟨nt, hnt⟩ : ∃ nt, ts.length = nt := ⟨_, rfl⟩
 rw [hnt] at HTC htl ⊢
 clear H hok hT
 have hmm := @run_makeMap Tryz.prog
 have HM0 : Hid (BkRep (w.alloc (.map #[] 0)) w.heap.size w.heap.size 0 (bkP n h ts 0)) := Lib.hid (BkRep.made w n h ts)
 have HB0 : Hid (Below w.heap.size w (w.alloc (.map #[] 0))) := Lib.hid ((Below.refl _ _).alloc (Nat.le_refl _) _)
 have HNT := Lib.hid hnt
 clear hnt
 go_enter Tryz.func98, Tryz.ntmps98
 go_wp2_with fail
 generalize w.alloc (.map #[] 0) = W1 at *
 obtain ⟨mb, hmb⟩ : ∃ mb, w.heap.size = mb := ⟨_, rfl⟩
 have HMB : Hid (BkRep W1 w.heap.size mb 0 (bkP n h ts 0) ∧ w.heap.size ≤ mb) := Lib.hid ⟨by have := HM0.out; rwa [hmb] at this ⊢, by omega⟩
 clear HM0
 try rw [hmb]
 have HGE := Lib.hid (show w.heap.size ≤ mb by omega)
 clear hmb
 go_loopw [13] (fun v13 wr => ∃ i N : Nat, v13 = .int .i64 i ∧ i ≤ nt ∧ N ≤ i * 1000 ∧ Hid (BkRep wr w.heap.size mb N (bkP n h ts i)) ∧ Hid (Below w.heap.size w wr)) (fun v13 _ => nt - (intOf v13).toNat)
 case atStart => exact ⟨0, 0, rfl, by omega, by omega, Lib.hid HMB.out.1, HB0⟩
 case round =>
  obtain ⟨i, N, rfl, hi, hN, HBK, HB⟩ := hrel
  clear HMB HB0
  by_cases hlt : i < nt
  ·have hi0 : (0 : Int) ≤ (i : Int) := Int.natCast_nonneg _
   have hi1 : (i : Int) < (nt : Int) := by omega
   obtain ⟨ad, hA, r0⟩ := Kd.at_int (HTC.out wr HB.out) (i : Int) (by omega) (by omega)
   have r0' : wr.cell? (ad.add i) = some (.int .i64 (rd ts (i : Int))) := r0
   subst hA
   clear r0
   have HNX : Hid (bkP n h ts (i + 1) = (aboveP n h (rd ts (i : Int)) true).foldl (bkAdd i) (bkP n h ts i)) := Lib.hid rfl
   have HBI := Lib.hid (HBA.out wr HB.out (rd ts (i : Int)))
   have HAM2 := Lib.hid (HAM.out (rd ts (i : Int)))
   have hal := HAL.out (rd ts (i : Int))
   have HAL2 := Lib.hid hal
   clear hal
   generalize aboveP n h (rd ts (i : Int)) true = l at *
   generalize rd ts (i : Int) = t at *
   go_wp2_with fail
   refine HBI.out.mono ?_
   rintro e W2 ⟨vr, rfl, hR, g2⟩
   obtain ⟨Ra, rc, rfl, hrc, _⟩ := Kd.R_reads hR
   have hmlt : mb < wr.heap.size := HBK.out.lt
   have HRL : Hid (Kd.R k37 37 W2 w.heap.size (fun k => k ≠ mb) (.slice Ra l.length rc) l) := Lib.hid (Kd.R_lower (Kd.R_mono (Kd.R_bound hR) (fun k hk => by have := hk.2.1; omega)) HB.out.size)
   have HBK2 := Lib.hid (HBK.out.below g2)
   have HB2 := Lib.hid (HB.out.trans (g2.mono HB.out.size))
   obtain ⟨m, hm⟩ : ∃ m, l.length = m := ⟨_, rfl⟩
   have HML := Lib.hid hm
   have hm9 := HAL2.out
   rw [hm] at HRL hm9 ⊢
   clear hR g2 hrc hm HBI HBK HB r0' hmlt
   have HS0 : Hid (BkRep W2 w.heap.size mb N ((l.take 0).foldl (bkAdd i) (bkP n h ts i))) := Lib.hid HBK2.out
   go_wp2_with fail
   go_loopw [22] (fun v22 wr => ∃ j M : Nat, v22 = .int .i64 j ∧ j ≤ m ∧ M ≤ i * 1000 + j ∧ Hid (BkRep wr w.heap.size mb M ((l.take j).foldl (bkAdd i) (bkP n h ts i))) ∧ Hid (Below w.heap.size w wr) ∧ Hid (Kd.R k37 37 wr w.heap.size (fun k => k ≠ mb) (.slice Ra m rc) l)) (fun v22 _ => m - (intOf v22).toNat)
   case atStart => exact ⟨0, N, rfl, by omega, by omega, HS0, HB2, HRL⟩
   case round =>
    obtain ⟨j, M, rfl, hj, hM, HBK, HB, HRl⟩ := hrel
    clear HS0 HB2 HRL HBK2
    by_cases hjt : j < m
    ·have hj0 : (0 : Int) ≤ (j : Int) := Int.natCast_nonneg _
     have hj1 : (j : Int) < (m : Int) := by omega
     have hjl : j < l.length := by have := HML.out; omega
     have hxe : rd_T37 l (j : Int) = l[j] := by simp [rd_T37, List.getD, hjl]
     have HNF : Hid ((l.take (j + 1)).foldl (bkAdd i) (bkP n h ts i) = bkAdd i ((l.take j).foldl (bkAdd i) (bkP n h ts i)) (rd_T37 l (j : Int))) := Lib.hid (by rw [hxe]; exact take_foldZ _ _ _ _ hjl)
     have hxm : rd_T37 l (j : Int) ∈ l := by rw [hxe]; exact List.getElem_mem _
     obtain ⟨hx0, hx1, hx2, hx3⟩ := HAM2.out _ hxm
     obtain ⟨ad2, hAd, r0, r1⟩ := at_T37 (Kd.R_reads' HRl.out).2.2 (j : Int) (by omega) (by have := HML.out; omega)
     simp only [Int.toNat_natCast] at r0 r1
     subst hAd
     have hpl := HPL.out i j l (rd_T37 l (j : Int)).f0 (by omega) (by omega)
     clear hxm hxe hjl
     generalize (l.take j).foldl (bkAdd i) (bkP n h ts i) = P at *
     generalize rd_T37 l (j : Int) = x at *
     obtain ⟨xv, xd⟩ := x
     simp only at r0 r1 hx0 hx1 hx2 hx3 hpl HNF
     have hxw : (Lit.int .i64 xv).wf = true := wf64 hx0 (by omega)
     have HXB := Lib.hid (blk_new wr (.cells #[.int .i64 xv, .int .i64 xd] 37))
     have HGX : Hid (Below wr.heap.size wr (wr.alloc (.cells #[.int .i64 xv, .int .i64 xd] 37))) := Lib.hid ((Below.refl _ _).alloc (Nat.le_refl _) _)
     go_upto_region 8 with fail
     generalize wr.alloc (.cells #[.int .i64 xv, .int .i64 xd] 37) = WX at *
     have HBX : Hid (Below w.heap.size w WX.drew) := Lib.hid ((HB.out.trans (HGX.out.mono HB.out.size)).drew)
     have HRX : Hid (Kd.R k37 37 WX.drew w.heap.size (fun k => k ≠ mb) (.slice (some ad2) m rc) l) := Lib.hid (Kd.R_drew (Kd.R_below HRl.out HGX.out))
     obtain ⟨f, v0, hat⟩ := (HBK.out.below HGX.out).at xv
     have HAT := Lib.hid hat
     have HATD := Lib.hid (hat.below (Below.refl _ _).drew)
     have hmblt : mb < WX.drew.heap.size := HATD.out.map.lt
     generalize hgx : wr.heap.size = gx at *
     have HXD : Hid (WX.drew.heap[gx]? = some (.cells #[.int .i64 xv, .int .i64 xd] 37 (0, 0))) := Lib.hid HXB.out
     have HNE : Hid (some gx ≠ v0.ownBlock) := Lib.hid (fun e => by
      obtain ⟨inner, ho⟩ := Kd.R_own HATD.out.own
      obtain ⟨cells, hc⟩ := own_typed ho gx e.symm
      have := HXD.out
      rw [hc] at this
      simp at this)
     have hMM : M < maxLen := by simp only [maxLen]; omega
     have c0 : WX.cell? ⟨gx, 0, none⟩ = some (.int .i64 xv) := (blk_cell HXB.out 0).trans rfl
     have c1 : WX.cell? ⟨gx, 1, none⟩ = some (.int .i64 xd) := (blk_cell HXB.out 1).trans rfl
     have hbl : ((P xv).length + 1) * 16 ≤ 140737488355328 := by omega
     clear hat hgx HBK HB HRl HGX HXB r0 r1
     refine start_ (n := 14) (S := fun w' => w'.cell? ⟨gx, 0, none⟩ = some (.int .i64 xv) ∧ w'.cell? ⟨gx, 1, none⟩ = some (.int .i64 xd) ∧ (Instr.lookup 141 (.map (some mb)) (.int .i64 xv) false).run Tryz.prog w' = .ok v0 w') (ds := [13]) (bA_ 14 0) (by kernel_rfl) rfl rfl ⟨c0, c1, (HAT.out.look (Below.refl _ _).drew hxw)⟩ (fun hHeld => ?_)
     refine p2_ 0 26 (bA_ 14 1) ?_
     refine p2_ 1 27 (bA_ 14 3) ?_
     refine p2_ 3 29 (bA_ 14 11) ?_
     refine p2_ 4 30 (bA_ 14 27) ?_
     refine p2_ 7 33 (bA_ 14 155) ?_
     refine p2_ 8 34 (bA_ 14 411) ?_
     refine t2_ 2 28 (bA_ 14 415) hHeld ?_ (hy := by rintro w' ⟨s0, s1, s2⟩; go_simp; with_reducible rfl)
     refine t2_ 5 31 (bA_ 14 447) hHeld ?_ (hy := by rintro w' ⟨s0, s1, s2⟩; go_simp; with_reducible rfl)
     refine t2_ 6 32 (bA_ 14 511) hHeld ?_ (hy := by rintro w' ⟨s0, s1, s2⟩; go_simp; with_reducible rfl)
     refine t2_ 9 35 (bA_ 14 1023) hHeld ?_ (hy := by rintro w' ⟨s0, s1, s2⟩; go_simp; with_reducible rfl)
     refine p2_ 10 36 (bA_ 14 2047) ?_
     refine o2_ 11 37 (bA_ 14 4095) (fun K hK => ?_)
     refine value_ (w1 := ?_) (v := ?_) (by rfl) rfl ?_ ?_
     rotate_left 2
     ·go_simp
      constructor
      ·rfl
      ·rfl
     refine hK.out _ _ ⟨(cellAllocZ c0), (cellAllocZ c1), (HAT.out.look ((Below.refl _ _).drew.alloc (Nat.le_refl _) _) hxw)⟩ (fun hHeld => ?_)
     clear hK K
     refine n2_ 37 ?_
     refine o2_ 12 38 (bA_ 14 8191) (fun K hK => ?_)
     refine Kd.R_append_step k174 (w0 := w) (W := WX.drew) w.heap.size (by rfl) (.tmp 32) (.tmp 37) 172 174 (.agg #[(.int .i64 0), (.int .i64 0)]) 16 rfl Tryz.underlying172 info174 rfl (by decide) (by omega) v0 (P xv) (⟨(i : Int), xd⟩ : S174) [.int .i64 i, .int .i64 xd] (fun k => k ≠ mb) (fun _ => False) rfl rfl (k174_mkM _ _ _ (⟨(i : Int), xd⟩ : S174)) (fun _ h => h.elim) (fun k hk => by omega) HATD.out.own HBX.out HBX.out.size hbl ?_
     intro v9 w9 hR9 hB9 hG9 hat9
     obtain ⟨w2, hrun, hbk, hg2⟩ := bk_put HATD.out hxw hMM hR9 hG9 hat9
     have HQ1 := Lib.hid hbk
     have HQ2 : Hid (Below w.heap.size w w2) := Lib.hid (hB9.grown hg2 hB9.size (fun k hk => by cases hk; exact HGE.out))
     have HQ3 : Hid (Kd.R k37 37 w2 w.heap.size (fun k => k ≠ mb) (.slice (some ad2) m rc) l) := Lib.hid (Kd.R_grown (Kd.R_over HRX.out HATD.out.own (by decide) hG9) hg2 (fun k hk e => hk (by cases e; rfl)))
     have hx9 : w9.heap[gx]? = some (.cells #[.int .i64 xv, .int .i64 xd] 37 (0, 0)) := (hG9.block gx (blk_lt HXD.out) HNE.out).trans HXD.out
     have hlk9 := HATD.out.look2 hG9 hxw
     clear hR9 hB9 hbk hg2 hG9 hat9
     refine hK.out _ _ ⟨((blk_cell hx9 0).trans rfl), ((blk_cell hx9 1).trans rfl), hlk9⟩ (fun hHeld => ?_)
     clear hK K
     refine n2_ 38 ?_
     refine last_ (i := 13) (N := none) (bA_ 14 16383) rfl rfl (by kernel_rfl) (by decide) (fun K hK => ?_)
     refine skip_ (w1 := ?_) (by rfl) rfl ?_ ?_
     rotate_left
     ·go_simp
      rfl
     refine hK.out _ _ ?_
     clear hK K
     refine done_ (by kernel_rfl) ?_
     go_wp2_with fail
     go_roundw
     case measure => simp [intOf]; omega
     case rel => exact ⟨j + 1, M + 1, by go_num, by omega, by omega, Lib.hid (by rw [HNF.out]; exact HQ1.out), HQ2, HQ3⟩
    ·have HJE : Hid ((l.take j).foldl (bkAdd i) (bkP n h ts i) = bkP n h ts (i + 1)) := Lib.hid (by rw [HNX.out, List.take_of_length_le (by have := HML.out; omega)])
     have hjm : m ≤ j := by omega
     rw [HJE.out] at HBK
     clear HRl
     go_wp2_with fail
     go_roundw
     case measure => simp [intOf]; omega
     case rel => exact ⟨i + 1, M, by go_num, by omega, by omega, HBK, HB⟩
  ·have HIE : Hid (i = nt) := Lib.hid (by omega)
   have hil : nt ≤ i := by omega
   rw [HIE.out] at HBK
   go_wp2_with fail
   all_goals (try rw [Exit.noGoto_ret])
   all_goals go_ret
   all_goals exact ⟨mb, N, rfl, HBK.out, HGE.out, HB.out⟩
end Go.Proofs.YtfkejflmhidnaaaGreat.PAll
