import Derived.Test.YtfppfdejjifhdaaQHpF
import Derived.Maps.OwnSet
import Derived.Maps.OwnOps
import Derived.WideKeyEntry
namespace Go.Proofs.Ytfppfdejjifhdaa.PAll
open Go.RowKit Go.Proofs.YtfppfdejjifhdaaW.PrintWords Go.Proofs.YtfppfdejjifhdaaW.PrintLast Go.Proofs.YtfppfdejjifhdaaW.PrintMore
open Hp hiding Good
set_option linter.unusedVariables false
set_option linter.unusedSimpArgs false

/-- a map of numbers by numbers, of the call's own -/
def MapI (w : World) (b n : Nat) (f : Int → Option Int) : Prop :=
  ∃ D : DataW Unit, w.ownsMap Try.prog 3 (plainElem Try.prog 3) b n D ∧ Maps.IsMap D ∧
    ∀ x : Int, (Maps.has D (.int .i64 x) = (f x).isSome) ∧ ∀ z, D.atKey (.int .i64 x) z = match f x with
      | some y => .lit (.int .i64 y)
      | none => z
def upd (f : Int → Option Int) (x v : Int) : Int → Option Int := fun y => if y = x then some v else f y

theorem zero3 (w : World) : (zeroValue 3).run Try.prog w = .ok (.int .i64 0) w := by kernel_rfl
theorem key3 : Maps.Keyed Try.prog 3 := Maps.int_keyed Try.underlying3

theorem MapI.made (w : World) : MapI (w.alloc (.map #[] 0)) w.heap.size 0 (fun _ => none) :=
  ⟨.map [], World.ownsMap_made w _ _ _, Maps.isMap_empty, fun x => ⟨rfl, fun z => rfl⟩⟩
theorem MapI.lt {w : World} {b n : Nat} {f : Int → Option Int} (h : MapI w b n f) : b < w.heap.size := by
  obtain ⟨D, h, _⟩ := h
  exact h.lt
theorem MapI.only {w w' : World} {b n : Nat} {f : Int → Option Int} {S : Nat → Prop} (h : MapI w b n f) (g : Only w w' S) (hs : ¬ S b) : MapI w' b n f := by
  obtain ⟨D, ⟨es, clock, h1, h2⟩, h3⟩ := h
  exact ⟨D, ⟨es, clock, (g.block b (Array.getElem?_eq_some_iff.1 h1).1 hs).trans h1, h2⟩, h3⟩
theorem MapI.ismap {w : World} {b n : Nat} {f : Int → Option Int} (h : MapI w b n f) : ∃ es clock, w.heap[b]? = some (.map es clock) := by
  obtain ⟨D, ⟨es, clock, h1, _⟩, _⟩ := h
  exact ⟨es, clock, h1⟩

section
variable {ops : Array Oper} {rest : List Oper} {o : Oper} {a : Act} {Q : Exit → Act → World → Prop} {w : World}
theorem mapI_put (hg : o.guard = none) (m x v : Operand) (hop : o.op = Op.mapUpdate 47 m x v) (b n : Nat) (f : Int → Option Int) (hm : a.eval m = .map (some b)) (H : MapI w b n f) (hn : n < maxLen) (xk xv : Int)
    (hx : a.eval x = .int .i64 xk) (hv : a.eval v = .int .i64 xv) (wk : (Lit.int .i64 xk).wf = true) (wv : (Lit.int .i64 xv).wf = true)
    (hK : ∀ w', MapI w' b (n + 1) (upd f xk xv) → w.grownBy w' (some b) → wpList Try.prog ops Q rest (a.put o.dst undef) w') : wpList Try.prog ops Q (o :: rest) a w := by
  obtain ⟨D, h1, h2, h3⟩ := H
  refine wpList_mapUpdate_own w hg m x v 47 hop 3 3 key3 Try.underlying47 _ b n D hm h1 hn _ _ _ hx hv (Maps.keyOf_int_mk Try.underlying3 wk) _ [] (plainElem_int Try.underlying3 wv) ?_
  intro w' h4 h5
  refine hK w' ⟨_, h4, h2.put _ _, fun y => ?_⟩ h5
  have hkl : WideAt.IsKeyLit (Lit.int .i64 xk) := trivial
  by_cases e : y = xk
  · subst e
    refine ⟨?_, fun z => ?_⟩
    · rw [Maps.has_put_same h2 hkl]; simp [upd]
    · rw [Maps.atKey_put_same h2 hkl]; simp [upd]
  · have hne : (Lit.int .i64 y) ≠ (Lit.int .i64 xk) := fun f => by injection f with _ f; exact e f
    refine ⟨?_, fun z => ?_⟩
    · rw [Maps.has_put_other hne, (h3 y).1]; simp [upd, e]
    · rw [Maps.atKey_put_other hne, (h3 y).2]; simp [upd, e]
theorem mapI_look (hg : o.guard = none) (m x : Operand) (hop : o.op = Op.lookup 47 m x true) (b n : Nat) (f : Int → Option Int) (hm : a.eval m = .map (some b)) (H : MapI w b n f) (xk : Int)
    (hx : a.eval x = .int .i64 xk) (wk : (Lit.int .i64 xk).wf = true)
    (hK : wpList Try.prog ops Q rest (a.put o.dst (.tuple #[.int .i64 ((f xk).getD 0), .bool (f xk).isSome])) w) : wpList Try.prog ops Q (o :: rest) a w := by
  obtain ⟨D, h1, h2, h3⟩ := H
  refine wpList_lookup_own_ok_int w hg m x 47 hop 3 3 .i64 key3 Try.underlying47 Try.underlying3 (zero3 w) b n D hm h1 _ _ hx (Maps.keyOf_int_mk Try.underlying3 wk) ?_
  intro c hc _
  rw [(h3 xk).1]
  rw [(h3 xk).2] at hc
  cases hf : f xk with
  | none =>
    rw [hf] at hc hK
    simp only at hc
    injection hc with hc
    injection hc with _ hc
    subst hc
    exact hK
  | some y =>
    rw [hf] at hc hK
    simp only at hc
    injection hc with hc
    injection hc with _ hc
    subst hc
    exact hK
theorem mapI_none (hg : o.guard = none) (m x : Operand) (hop : o.op = Op.lookup 47 m x true) (b n : Nat) (f : Int → Option Int) (hm : a.eval m = .map (some b)) (H : MapI w b n f) (xk : Int)
    (hx : a.eval x = .int .i64 xk) (wk : (Lit.int .i64 xk).wf = true) (hf : f xk = none)
    (hK : wpList Try.prog ops Q rest (a.put o.dst (.tuple #[.int .i64 0, .bool false])) w) : wpList Try.prog ops Q (o :: rest) a w :=
  mapI_look hg m x hop b n f hm H xk hx wk (by rw [hf]; exact hK)
theorem mapI_some (hg : o.guard = none) (m x : Operand) (hop : o.op = Op.lookup 47 m x true) (b n : Nat) (f : Int → Option Int) (hm : a.eval m = .map (some b)) (H : MapI w b n f) (xk d : Int)
    (hx : a.eval x = .int .i64 xk) (wk : (Lit.int .i64 xk).wf = true) (hf : f xk = some d)
    (hK : wpList Try.prog ops Q rest (a.put o.dst (.tuple #[.int .i64 d, .bool true])) w) : wpList Try.prog ops Q (o :: rest) a w :=
  mapI_look hg m x hop b n f hm H xk hx wk (by rw [hf]; exact hK)
end
end Go.Proofs.Ytfppfdejjifhdaa.PAll

namespace Go.Proofs.Ytfppfdejjifhdaa.PAll
open Go.RowKit Go.Proofs.YtfppfdejjifhdaaW.PrintWords Go.Proofs.YtfppfdejjifhdaaW.PrintLast Go.Proofs.YtfppfdejjifhdaaW.PrintMore
open Hp hiding Good
set_option linter.unusedVariables false
set_option linter.unusedSimpArgs false

open Go.ChangeMaps Go.MapKept
theorem heap_setBlock_other' (w : World) (b i : Nat) (o : Obj) (h : i ≠ b) : (setBlock w b o).heap[i]? = w.heap[i]? := by
  simp [setBlock, Array.getElem?_setIfInBounds, Ne.symm h]
/-! ### a map by numbers, whatever its elements are -/
def anyElem (v : Value) : Option (DataW Value × List MemPlace) := some (.held v, [])
def MapV (w : World) (b n : Nat) (f : Int → Option Value) : Prop :=
  ∃ D : DataW Value, w.ownsMap Try.prog 3 anyElem b n D ∧ Maps.IsMap D ∧
    ∀ x : Int, (Maps.has D (.int .i64 x) = (f x).isSome) ∧ ∀ z, D.atKey (.int .i64 x) z = match f x with
      | some y => .held y
      | none => z
def updV (f : Int → Option Value) (x : Int) (v : Value) : Int → Option Value := fun y => if y = x then some v else f y
theorem updV_same (f : Int → Option Value) (x : Int) (v : Value) : updV f x v x = some v := if_pos rfl
theorem updV_ne (f : Int → Option Value) {x y : Int} (v : Value) (h : y ≠ x) : updV f x v y = f y := if_neg h
theorem MapV.made (w : World) : MapV (w.alloc (.map #[] 0)) w.heap.size 0 (fun _ => none) :=
  ⟨.map [], World.ownsMap_made w _ _ _, Maps.isMap_empty, fun x => ⟨rfl, fun z => rfl⟩⟩
theorem MapV.lt {w : World} {b n : Nat} {f : Int → Option Value} (h : MapV w b n f) : b < w.heap.size := by
  obtain ⟨D, h, _⟩ := h
  exact h.lt
theorem MapV.only {w w' : World} {b n : Nat} {f : Int → Option Value} {S : Nat → Prop} (h : MapV w b n f) (g : Only w w' S) (hs : ¬ S b) : MapV w' b n f := by
  obtain ⟨D, ⟨es, clock, h1, h2⟩, h3⟩ := h
  exact ⟨D, ⟨es, clock, (g.block b (Array.getElem?_eq_some_iff.1 h1).1 hs).trans h1, h2⟩, h3⟩
theorem MapV.below {w w' : World} {b n : Nat} {f : Int → Option Value} (h : MapV w b n f) (g : Below w.heap.size w w') : MapV w' b n f :=
  h.only (Only.of_below g (fun _ => False)) (fun f => f)
theorem MapV.grown {w w' : World} {b n : Nat} {f : Int → Option Value} {o : Option Nat} (h : MapV w b n f) (g : w.grownBy w' o) (ho : o ≠ some b) : MapV w' b n f := by
  obtain ⟨D, ⟨es, clock, h1, h2⟩, h3⟩ := h
  exact ⟨D, ⟨es, clock, (g.block b (Array.getElem?_eq_some_iff.1 h1).1 (fun e => ho e.symm)).trans h1, h2⟩, h3⟩
theorem MapV.setCell {w : World} {b n : Nat} {f : Int → Option Value} (h : MapV w b n f) {a : Addr} (ha : b ≠ a.block) (u : Value) : MapV (w.setCell a u) b n f := by
  obtain ⟨D, h1, h3⟩ := h
  exact ⟨D, h1.setCell ha u, h3⟩
theorem MapV.ismap {w : World} {b n : Nat} {f : Int → Option Value} (h : MapV w b n f) : ∃ es clock, w.heap[b]? = some (.map es clock) := by
  obtain ⟨D, ⟨es, clock, h1, _⟩, _⟩ := h
  exact ⟨es, clock, h1⟩
theorem MapV.more {w : World} {b n m : Nat} {f : Int → Option Value} (h : MapV w b n f) (hm : n ≤ m) : MapV w b m f := by
  obtain ⟨D, ⟨es, clock, h1, h2, h3, h4⟩, h5⟩ := h
  exact ⟨D, ⟨es, clock, h1, h2, Nat.le_trans h3 hm, h4⟩, h5⟩

/-- a look-up: its run -/
theorem MapV.look {w : World} {b n : Nat} {f : Int → Option Value} (h : MapV w b n f) {t e : TypeId} (ht : Try.prog.underlying t = some (.map 3 e)) {z : Value} (hz : (zeroValue e).run Try.prog w = .ok z w) (x : Int) (hx : (Lit.int .i64 x).wf = true) :
    (Instr.lookup t (.map (some b)) (.int .i64 x) false).run Try.prog w = .ok ((f x).getD z) w := by
  obtain ⟨D, h1, h2, h3⟩ := h
  obtain ⟨v, ps, hr, hv⟩ := h1.lookup key3 ht hz (R := anyElem) (zd := .held z) (zp := []) rfl (Maps.keyOf_int_mk Try.underlying3 hx)
  rw [(h3 x).2] at hv
  rw [hr]
  cases hf : f x with
  | none =>
    rw [hf] at hv
    simp only [anyElem, Option.some.injEq, Prod.mk.injEq, DataW.held.injEq] at hv
    rw [hv.1]; rfl
  | some y =>
    rw [hf] at hv
    simp only [anyElem, Option.some.injEq, Prod.mk.injEq, DataW.held.injEq] at hv
    rw [hv.1]; rfl
theorem MapV.lookOk {w : World} {b n : Nat} {f : Int → Option Value} (h : MapV w b n f) {t e : TypeId} (ht : Try.prog.underlying t = some (.map 3 e)) {z : Value} (hz : (zeroValue e).run Try.prog w = .ok z w) (x : Int) (hx : (Lit.int .i64 x).wf = true) :
    (Instr.lookup t (.map (some b)) (.int .i64 x) true).run Try.prog w = .ok (.tuple #[(f x).getD z, .bool (f x).isSome]) w := by
  obtain ⟨D, h1, h2, h3⟩ := h
  obtain ⟨v, ps, hr, hv⟩ := h1.look_ok key3 ht hz (R := anyElem) (zd := .held z) (zp := []) rfl (Maps.keyOf_int_mk Try.underlying3 hx)
  rw [(h3 x).2] at hv
  rw [hr, (h3 x).1]
  cases hf : f x with
  | none =>
    rw [hf] at hv
    simp only [anyElem, Option.some.injEq, Prod.mk.injEq, DataW.held.injEq] at hv
    rw [hv.1]; rfl
  | some y =>
    rw [hf] at hv
    simp only [anyElem, Option.some.injEq, Prod.mk.injEq, DataW.held.injEq] at hv
    rw [hv.1]; rfl
/-- a store: its run -/
theorem MapV.store {w : World} {b n : Nat} {f : Int → Option Value} (h : MapV w b n f) {t e : TypeId} (ht : Try.prog.underlying t = some (.map 3 e)) (hn : n < maxLen) (x : Int) (hx : (Lit.int .i64 x).wf = true) (v : Value) :
    ∃ w', (Instr.mapUpdate t (.map (some b)) (.int .i64 x) v).run Try.prog w = .ok () w' ∧ MapV w' b (n + 1) (updV f x v) ∧ w.mapTurned w' b := by
  obtain ⟨D, h1, h2, h3⟩ := h
  obtain ⟨w', hr, h4, h5⟩ := h1.store key3 ht hn (Maps.keyOf_int_mk Try.underlying3 hx) (val := v) (d := .held v) (ps := []) rfl
  refine ⟨w', hr, ⟨_, h4, h2.put _ _, fun y => ?_⟩, h5⟩
  have hkl : WideAt.IsKeyLit (Lit.int .i64 x) := trivial
  by_cases e : y = x
  · subst e
    refine ⟨?_, fun z => ?_⟩
    · rw [Maps.has_put_same h2 hkl]; simp [updV]
    · rw [Maps.atKey_put_same h2 hkl]; simp [updV]
  · have hne : (Lit.int .i64 y) ≠ (Lit.int .i64 x) := fun f => by injection f with _ f; exact e f
    refine ⟨?_, fun z => ?_⟩
    · rw [Maps.has_put_other hne, (h3 y).1]; simp [updV, e]
    · rw [Maps.atKey_put_other hne, (h3 y).2]; simp [updV, e]
theorem MapV.of_block {w w' : World} {b n : Nat} {f : Int → Option Value} (h : MapV w b n f) (e : w'.heap[b]? = w.heap[b]?) : MapV w' b n f := by
  obtain ⟨D, ⟨es, clock, h1, h2⟩, h3⟩ := h
  exact ⟨D, ⟨es, clock, e.trans h1, h2⟩, h3⟩
/-- an entry is made, or found; what is stored into it in the end -/
theorem MapV.entry {w : World} {b n : Nat} {f : Int → Option Value} (h : MapV w b n f) {t e : TypeId} (ht : Try.prog.underlying t = some (.map 3 e)) {z : Value} (hz : ∀ u : World, (zeroValue e).run Try.prog u = .ok z u) (hn : n < maxLen) (x : Int) (hx : (Lit.int .i64 x).wf = true) :
    ∃ (v0 : Value) (st : Int) (w1 : World), (Instr.mapEntry t (.map (some b)) (.int .i64 x)).run Try.prog w = .ok (.tuple #[v0, .int .i64 st]) w1 ∧ w.grownBy w1 (some b) ∧
      ∀ (w2 : World) (v : Value), w2.heap[b]? = w1.heap[b]? → ∃ w3, (Instr.entryStore t (.map (some b)) (.int .i64 st) v).run Try.prog w2 = .ok () w3 ∧ MapV w3 b (n + 1) (updV f x v) ∧ w2.grownBy w3 (some b) := by
  have hkey : keyOf Try.prog 3 (.int .i64 x) = some (.int .i64 x) := Maps.keyOf_int_mk Try.underlying3 hx
  obtain ⟨D, ⟨es, clock, hb, F, hsz, hD⟩, hrest⟩ := id h
  have K := key3
  obtain ⟨s1, s2, _⟩ := F.stamped
  have stored : ∀ (val : Value) (es' : Array MapEntry) (clock' : Nat), (Instr.mapUpdate t (.map (some b)) (.int .i64 x) val).run Try.prog w = .ok () (setBlock w b (.map es' clock')) → ∀ w2 : World, b < w2.heap.size → MapV (setBlock w2 b (.map es' clock')) b (n + 1) (updV f x val) ∧ w2.grownBy (setBlock w2 b (.map es' clock')) (some b) := fun val es' clock' hrun w2 hb2 => by
    obtain ⟨w', hr, hM, _⟩ := h.store ht hn x hx val
    rw [hrun] at hr
    have e : setBlock w b (.map es' clock') = w' := by injection hr
    subst e
    have hbl : b < w.heap.size := (Array.getElem?_eq_some_iff.1 hb).1
    refine ⟨hM.of_block ?_, rfl, rfl, rfl, by simp [setBlock], fun i _ hi => heap_setBlock_other' w2 b i _ (fun e => hi (by rw [e]))⟩
    simp [setBlock, Array.getElem?_setIfInBounds, hb2, hbl]
  have grow : ∀ (es' : Array MapEntry) (clock' : Nat), w.grownBy (setBlock w b (.map es' clock')) (some b) := fun es' clock' =>
    ⟨rfl, rfl, rfl, by simp [setBlock], fun i _ hi => heap_setBlock_other' w b i _ (fun e => hi (by rw [e]))⟩
  have hbl : b < w.heap.size := (Array.getElem?_eq_some_iff.1 hb).1
  have same : ∀ (o : Obj), (setBlock w b o).heap[b]? = some o := fun o => by simp [setBlock, hbl]
  rcases K.find w hkey es.toList F.keys with ⟨h1, h2⟩ | ⟨j, e0, h1, h2, h3⟩
  · refine ⟨z, clock, setBlock w b (.map (es.push ⟨.int .i64 x, z, clock⟩) (clock + 1)), ?_, grow _ _, fun w2 val hw2 => ⟨setBlock w2 b (.map (es.push ⟨.int .i64 x, val, clock⟩) (clock + 1)), ?_, ?_⟩⟩
    · simp [Instr.mapEntry, run_underlying ht, MapKept.run_getObj_map hb, K.check w false hkey, h1, hz, MapKept.run_setObj_map _ hb, Result.andThen, setBlock, goInt]
    · rw [same] at hw2
      have hidx : (es.push ⟨.int .i64 x, z, clock⟩).findIdx? (fun e => ((e.born : Nat) : Int) == ((clock : Nat) : Int)) = some es.size := by
        rw [Go.WideElems.findIdx_arr]
        have := Go.WideElems.findIdx_born (l := (es.push ⟨.int .i64 x, z, clock⟩).toList) (j := es.size) (e0 := ⟨.int .i64 x, z, clock⟩) (by
          simp only [Array.toList_push, List.map_append, List.map_cons, List.map_nil]
          refine List.nodup_append.2 ⟨s2, by simp, fun a ha c hc e1 => ?_⟩
          simp only [List.mem_singleton] at hc
          obtain ⟨x, hx, rfl⟩ := List.mem_map.1 ha
          have := s1 x hx
          omega) (by simp)
        exact this
      have hmod : (es.push ⟨.int .i64 x, z, clock⟩).modify es.size (fun e => { e with val := val }) = es.push ⟨.int .i64 x, val, clock⟩ := by
        apply Array.ext'
        rw [Array.toList_modify, Array.toList_push, Array.toList_push, ← Array.length_toList, Go.WideElems.modify_last]
      simp [Instr.entryStore, MapKept.run_getObj_map hw2, asInt, asIntOf, hidx, hmod, MapKept.run_setObj_map _ hw2, Result.andThen, setBlock]
    · rw [same] at hw2
      exact stored val _ _ (by simp [Instr.mapUpdate, run_underlying ht, MapKept.run_getObj_map hb, K.check w false hkey, h1, MapKept.run_setObj_map _ hb, Result.andThen, setBlock]) w2 (Array.getElem?_eq_some_iff.1 hw2).1
  · have hj : es[j]? = some e0 := by simpa using h2
    have hsame : es.modify j (fun e => { e with key := .int .i64 x }) = es := by
      apply Array.ext'
      rw [Array.toList_modify, modify_eq_set _ _ _ _ h2]
      have : ({ e0 with key := .int .i64 x } : MapEntry) = e0 := by rw [← h3]
      rw [this]
      exact Go.WideElems.set_self _ _ _ h2
    refine ⟨e0.val, e0.born, setBlock w b (.map es clock), ?_, grow _ _, fun w2 val hw2 => ⟨setBlock w2 b (.map (es.modify j (fun e' => { e' with key := .int .i64 x, val := val })) clock), ?_, ?_⟩⟩
    · simp [Instr.mapEntry, run_underlying ht, MapKept.run_getObj_map hb, K.check w false hkey, h1, hj, h3, K.stays w hkey, hsame, MapKept.run_setObj_map _ hb, Result.andThen, setBlock, goInt]
    · rw [same] at hw2
      have hidx : es.findIdx? (fun e => ((e.born : Nat) : Int) == ((e0.born : Nat) : Int)) = some j := by
        rw [Go.WideElems.findIdx_arr]
        exact Go.WideElems.findIdx_born s2 h2
      have hmod : es.modify j (fun e => { e with val := val }) = es.modify j (fun e' => { e' with key := .int .i64 x, val := val }) := by
        apply Array.ext'
        rw [Array.toList_modify, Array.toList_modify, modify_eq_set _ _ _ _ h2, modify_eq_set _ _ _ _ h2, ← h3]
      simp [Instr.entryStore, MapKept.run_getObj_map hw2, asInt, asIntOf, hidx, hmod, MapKept.run_setObj_map _ hw2, Result.andThen, setBlock]
    · rw [same] at hw2
      exact stored val _ _ (by simp [Instr.mapUpdate, run_underlying ht, MapKept.run_getObj_map hb, K.check w false hkey, h1, hj, h3, K.stays w hkey, MapKept.run_setObj_map _ hb, Result.andThen, setBlock]) w2 (Array.getElem?_eq_some_iff.1 hw2).1
/-- .. as a step of a walk -/
theorem mapV_put {ops : Array Oper} {rest : List Oper} {o : Oper} {a : Act} {Q : Exit → Act → World → Prop} {w : World} (hg : o.guard = none) (t e : TypeId) (m x v : Operand) (hop : o.op = Op.mapUpdate t m x v) (ht : Try.prog.underlying t = some (.map 3 e))
    (b n : Nat) (f : Int → Option Value) (hm : a.eval m = .map (some b)) (H : MapV w b n f) (hn : n < maxLen) (xk : Int) (val : Value) (hx : a.eval x = .int .i64 xk) (hv : a.eval v = val) (wk : (Lit.int .i64 xk).wf = true)
    (hK : ∀ w', MapV w' b (n + 1) (updV f xk val) → w.grownBy w' (some b) → wpList Try.prog ops Q rest (a.put o.dst undef) w') : wpList Try.prog ops Q (o :: rest) a w := by
  refine wpList_plain hg fun K' hK' => ?_
  obtain ⟨w', hrun, h1, h2⟩ := H.store ht hn xk wk val
  unfold Oper.wp
  simp [execOp, hop, hm, hx, hv, hrun, Result.andThen]
  exact hK' _ _ (hK w' h1 h2.grown)
end Go.Proofs.Ytfppfdejjifhdaa.PAll
