import Derived.Test.YtfkejflmhidnaaaGreatQHpF
import Derived.Maps.OwnSet
import Derived.Maps.OwnOps
set_option linter.all false
namespace Go.Proofs.YtfkejflmhidnaaaGreat.PAll
open RowKit YtfkejflmhidnaaaGreatW.PrintWords YtfkejflmhidnaaaGreatW.PrintLast YtfkejflmhidnaaaGreatW.PrintMore
open Hp hiding Good
structure HierP where
 rank : List Int
 at' : List Int
 up : List (List S75)
 down : List (List S75)
structure HierRep (w : World) (hb n : Nat) (h : HierP) : Prop where
 blk : ∃ rA rc wv aA ac fv uA uc dA dc, w.heap[hb]? = some (.cells #[.slice rA n rc, wv, .slice aA n ac, fv, .slice uA n uc, .slice dA n dc] 67 (0, 0)) ∧ Kd.C (Kd.int .i64) w rA n h.rank ∧ Kd.C (Kd.int .i64) w aA n h.at' ∧ Kd.C (Kd.slice 75 k75) w uA n h.up ∧ Kd.C (Kd.slice 75 k75) w dA n h.down
 small : n ≤ 900
 ups : ∀ l ∈ h.up, l.length ≤ 100000000
 downs : ∀ l ∈ h.down, l.length ≤ 100000000
theorem HierRep.below {w w1 : World} {hb n : Nat} {h : HierP} (H : HierRep w hb n h) (g : Below w.heap.size w w1) : HierRep w1 hb n h := by
 obtain ⟨⟨rA, rc, wv, aA, ac, fv, uA, uc, dA, dc, hblk, h1, h2, h3, h4⟩, hs⟩ := H
 exact ⟨⟨rA, rc, wv, aA, ac, fv, uA, uc, dA, dc, (g.block hb (blk_lt hblk)).trans hblk, Kd.C_below h1 g, Kd.C_below h2 g, Kd.C_below h3 g, Kd.C_below h4 g⟩, hs, by assumption, by assumption⟩
theorem HierRep.rlen {w : World} {hb n : Nat} {h : HierP} (H : HierRep w hb n h) : h.rank.length = n ∧ h.at'.length = n ∧ h.up.length = n ∧ h.down.length = n := by
 obtain ⟨⟨rA, rc, wv, aA, ac, fv, uA, uc, dA, dc, hblk, h1, h2, h3, h4⟩, hs⟩ := H
 exact ⟨h1.1, h2.1, h3.1, h4.1⟩
theorem n_walk (w : World) (hb n : Nat) (h : HierP) (H : HierRep w hb n h) : Calls Tryz.prog 46 #[.pointer (some ⟨hb, 0, none⟩)] w fun r w' => r = .returned (.int .i64 n) ∧ w = w' := by
 obtain ⟨⟨rA, rc, wv, aA, ac, fv, uA, uc, dA, dc, hblk, h1, h2, h3, h4⟩, hs⟩ := H
 have c2 : w.cell? ⟨hb, 2, none⟩ = some (.slice aA n ac) := (blk_cell hblk 2).trans rfl
 clear hblk h1 h2 h3 h4
 go_enter Tryz.func46, Tryz.ntmps46
 go_wp2
 go_ret
 exact ⟨rfl, rfl⟩
theorem rank_walk (w : World) (hb n : Nat) (h : HierP) (H : HierRep w hb n h) (v : Nat) (hv : v < n) : Calls Tryz.prog 138 #[.pointer (some ⟨hb, 0, none⟩), .int .i64 v] w fun r w' => r = .returned (.int .i64 (rd h.rank v)) ∧ w = w' := by
 have HN := Lib.hid (n_walk w hb n h H)
 obtain ⟨⟨rA, rc, wv, aA, ac, fv, uA, uc, dA, dc, hblk, h1, h2, h3, h4⟩, hs⟩ := H
 have c2 : w.cell? ⟨hb, 0, none⟩ = some (.slice rA n rc) := (blk_cell hblk 0).trans rfl
 obtain ⟨ad, rfl, hc⟩ := Kd.at_int h1 v (by omega) (by omega)
 have hc' : w.cell? (ad.add v) = some (.int .i64 (rd h.rank v)) := hc
 have d0 : decide ((v : Int) < 0) = false := by simp
 have d1 : decide ((v : Int) ≥ (n : Int)) = false := by simp; omega
 have d2 : decide (n ≤ v) = false := by simp; omega
 clear hblk h1 h2 h3 h4 hc
 go_enter Tryz.func138, Tryz.ntmps138
 go_wp2_with (first | (go_at_call 46; refine HN.out.mono ?_; rintro e w' ⟨rfl, rfl⟩))
 go_ret
 exact ⟨rfl, rfl⟩
theorem rank_no (w : World) (hb n : Nat) (h : HierP) (H : HierRep w hb n h) (v : Int) (hv : v < 0 ∨ n ≤ v) : Calls Tryz.prog 138 #[.pointer (some ⟨hb, 0, none⟩), .int .i64 v] w fun r w' => r = .returned (.int .i64 (-1)) ∧ w = w' := by
 have HN := Lib.hid (n_walk w hb n h H)
 clear H
 by_cases h0 : v < 0
 ·have d0 : decide (v < 0) = true := by simpa using h0
  clear hv
  go_enter Tryz.func138, Tryz.ntmps138
  go_wp2_with (first | (go_at_call 46; refine HN.out.mono ?_; rintro e w' ⟨rfl, rfl⟩))
  go_ret
  exact ⟨rfl, rfl⟩
 ·have d0 : decide (v < 0) = false := by simpa using h0
  have d1 : decide (v ≥ (n : Int)) = true := by simp; omega
  clear hv
  go_enter Tryz.func138, Tryz.ntmps138
  go_wp2_with (first | (go_at_call 46; refine HN.out.mono ?_; rintro e w' ⟨rfl, rfl⟩))
  go_ret
  exact ⟨rfl, rfl⟩
theorem at_walk (w : World) (hb n : Nat) (h : HierP) (H : HierRep w hb n h) (v : Nat) (hv : v < n) : Calls Tryz.prog 96 #[.pointer (some ⟨hb, 0, none⟩), .int .i64 v] w fun r w' => r = .returned (.int .i64 (rd h.at' v)) ∧ w = w' := by
 have HN := Lib.hid (n_walk w hb n h H)
 obtain ⟨⟨rA, rc, wv, aA, ac, fv, uA, uc, dA, dc, hblk, h1, h2, h3, h4⟩, hs⟩ := H
 have c2 : w.cell? ⟨hb, 2, none⟩ = some (.slice aA n ac) := (blk_cell hblk 2).trans rfl
 obtain ⟨ad, rfl, hc⟩ := Kd.at_int h2 v (by omega) (by omega)
 have hc' : w.cell? (ad.add v) = some (.int .i64 (rd h.at' v)) := hc
 have d0 : decide ((v : Int) < 0) = false := by simp
 have d1 : decide ((v : Int) ≥ (n : Int)) = false := by simp; omega
 have d2 : decide (n ≤ v) = false := by simp; omega
 clear hblk h1 h2 h3 h4 hc
 go_enter Tryz.func96, Tryz.ntmps96
 go_wp2_with (first | (go_at_call 46; refine HN.out.mono ?_; rintro e w' ⟨rfl, rfl⟩))
 go_ret
 exact ⟨rfl, rfl⟩
def edges (l : List (List S75)) (v : Nat) : List S75 := l.getD v []
theorem up_walk (w : World) (hb n : Nat) (h : HierP) (H : HierRep w hb n h) (hr : ∀ v, v < n → 0 ≤ rd h.rank v) (v : Nat) (hv : v < n) :
  Calls Tryz.prog 120 #[.pointer (some ⟨hb, 0, none⟩), .int .i64 v] w fun r w' => ∃ vr, r = .returned vr ∧ Kd.R k75 75 w' w.heap.size (fun _ => True) vr (edges h.up v) ∧ Below w.heap.size w w' := by
 have HR := Lib.hid (rank_walk w hb n h H v hv)
 have hul := H.ups
 have hlen := H.rlen
 obtain ⟨⟨rA, rc, wv, aA, ac, fv, uA, uc, dA, dc, hblk, h1, h2, h3, h4⟩, hs⟩ := H
 have c3 : w.cell? ⟨hb, 4, none⟩ = some (.slice uA n uc) := (blk_cell hblk 4).trans rfl
 obtain ⟨ad, cs, rfl, _, ⟨A, c, hcs, hlc, hrow⟩, hc0⟩ := Kd.C_get h3 [] (v : Int) (by omega) (by omega)
 have hc' : w.cell? (ad.add v) = some (.slice A (h.up.getD v []).length c) := by
  have := hc0 0 (.slice A (h.up.getD v []).length c) (by rw [hcs]; rfl)
  simpa [Kd.slice] using this
 have hlc' : (h.up.getD v []).length ≤ c := hlc
 have hrow' : Kd.C k75 w A (h.up.getD v []).length (h.up.getD v []) := hrow
 have hl : (h.up.getD v []).length ≤ 100000000 := hul _ (by
  have : h.up.getD v [] = h.up[v] := by simp [List.getD, hlen.2.2.1, hv]
  rw [this]; exact List.getElem_mem _)
 have e : edges h.up v = h.up.getD v [] := rfl
 rw [e]
 generalize h.up.getD v [] = l at *
 obtain ⟨m, hm⟩ : ∃ m, l.length = m := ⟨_, rfl⟩
 rw [hm] at hc' hrow' hlc' hl
 have hd : decide (rd h.rank (v : Int) < 0) = false := by have := hr v hv; simp; omega
 have HROW := Lib.hid hrow'
 have HB := Lib.hid (Below.refl w.heap.size w)
 have d1 : (v : Int) < (n : Int) := by omega
 have d0 : (0 : Int) ≤ (v : Int) := by omega
 clear hblk h1 h2 h3 h4 hc0 hcs hrow hrow' hlc hul hlen hm e hr
 go_enter Tryz.func120, Tryz.ntmps120
 go_wp2_with (first | (go_at_call 138; refine HR.out.mono ?_; rintro e w' ⟨rfl, rfl⟩) | (at_builtin; refine Kd.R_append_rows k75 (w0 := w) w.heap.size rfl (.const (.slice none 0 0)) (.tmp 15) 72 75 (.agg #[(.int .i64 0), (.int .i64 0), (.int .i64 0)]) 24 rfl Tryz.underlying72 info75 rfl (by decide) (by omega) (.slice none 0 0) ([] : List (S75)) l A m c (fun _ => True) (fun _ => False) rfl rfl (Kd.R_nil _ _ _ _ _) HROW.out (fun x cs hx => by obtain rfl := k75_open hx; exact k75_mkM _ _ _ _) (fun _ h => h.elim) (fun _ _ => trivial) HB.out (Nat.le_refl _) (by simp; omega) ?_; intro v1 w1 hR1 hB1 _ _))
 go_ret
 exact ⟨v1, rfl, by simpa using hR1, hB1⟩
theorem down_walk (w : World) (hb n : Nat) (h : HierP) (H : HierRep w hb n h) (hr : ∀ v, v < n → 0 ≤ rd h.rank v) (v : Nat) (hv : v < n) :
  Calls Tryz.prog 122 #[.pointer (some ⟨hb, 0, none⟩), .int .i64 v] w fun r w' => ∃ vr, r = .returned vr ∧ Kd.R k75 75 w' w.heap.size (fun _ => True) vr (edges h.down v) ∧ Below w.heap.size w w' := by
 have HR := Lib.hid (rank_walk w hb n h H v hv)
 have hul := H.downs
 have hlen := H.rlen
 obtain ⟨⟨rA, rc, wv, aA, ac, fv, uA, uc, dA, dc, hblk, h1, h2, h3, h4⟩, hs⟩ := H
 have c3 : w.cell? ⟨hb, 5, none⟩ = some (.slice dA n dc) := (blk_cell hblk 5).trans rfl
 obtain ⟨ad, cs, rfl, _, ⟨A, c, hcs, hlc, hrow⟩, hc0⟩ := Kd.C_get h4 [] (v : Int) (by omega) (by omega)
 have hc' : w.cell? (ad.add v) = some (.slice A (h.down.getD v []).length c) := by
  have := hc0 0 (.slice A (h.down.getD v []).length c) (by rw [hcs]; rfl)
  simpa [Kd.slice] using this
 have hlc' : (h.down.getD v []).length ≤ c := hlc
 have hrow' : Kd.C k75 w A (h.down.getD v []).length (h.down.getD v []) := hrow
 have hl : (h.down.getD v []).length ≤ 100000000 := hul _ (by
  have : h.down.getD v [] = h.down[v] := by simp [List.getD, hlen.2.2.2, hv]
  rw [this]; exact List.getElem_mem _)
 have e : edges h.down v = h.down.getD v [] := rfl
 rw [e]
 generalize h.down.getD v [] = l at *
 obtain ⟨m, hm⟩ : ∃ m, l.length = m := ⟨_, rfl⟩
 rw [hm] at hc' hrow' hlc' hl
 have hd : decide (rd h.rank (v : Int) < 0) = false := by have := hr v hv; simp; omega
 have HROW := Lib.hid hrow'
 have HB := Lib.hid (Below.refl w.heap.size w)
 have d1 : (v : Int) < (n : Int) := by omega
 have d0 : (0 : Int) ≤ (v : Int) := by omega
 clear hblk h1 h2 h3 h4 hc0 hcs hrow hrow' hlc hul hlen hm e hr
 go_enter Tryz.func122, Tryz.ntmps122
 go_wp2_with (first | (go_at_call 138; refine HR.out.mono ?_; rintro e w' ⟨rfl, rfl⟩) | (at_builtin; refine Kd.R_append_rows k75 (w0 := w) w.heap.size rfl (.const (.slice none 0 0)) (.tmp 15) 72 75 (.agg #[(.int .i64 0), (.int .i64 0), (.int .i64 0)]) 24 rfl Tryz.underlying72 info75 rfl (by decide) (by omega) (.slice none 0 0) ([] : List (S75)) l A m c (fun _ => True) (fun _ => False) rfl rfl (Kd.R_nil _ _ _ _ _) HROW.out (fun x cs hx => by obtain rfl := k75_open hx; exact k75_mkM _ _ _ _) (fun _ h => h.elim) (fun _ _ => trivial) HB.out (Nat.le_refl _) (by simp; omega) ?_; intro v1 w1 hR1 hB1 _ _))
 go_ret
 exact ⟨v1, rfl, by simpa using hR1, hB1⟩
def MapI (w : World) (b n : Nat) (f : Int → Option Int) : Prop :=
 ∃ D : DataW Unit, w.ownsMap Tryz.prog 3 (plainElem Tryz.prog 3) b n D ∧ Maps.IsMap D ∧
  ∀ x : Int, (Maps.has D (.int .i64 x) = (f x).isSome) ∧ ∀ z, D.atKey (.int .i64 x) z = match f x with
   | some y => .lit (.int .i64 y)
   | none => z
def upd (f : Int → Option Int) (x v : Int) : Int → Option Int := fun y => if y = x then some v else f y
theorem zero3 (w : World) : (zeroValue 3).run Tryz.prog w = .ok (.int .i64 0) w := by kernel_rfl
theorem key3 : Maps.Keyed Tryz.prog 3 := Maps.int_keyed Tryz.underlying3
theorem MapI.made (w : World) : MapI (w.alloc (.map #[] 0)) w.heap.size 0 (fun _ => none) :=
 ⟨.map [], World.ownsMap_made w _ _ _, Maps.isMap_empty, fun x => ⟨rfl, fun z => rfl⟩⟩
theorem MapI.lt {w : World} {b n : Nat} {f : Int → Option Int} (h : MapI w b n f) : b < w.heap.size := by
 obtain ⟨D, h, _⟩ := h
 exact h.lt
theorem MapI.only {w w' : World} {b n : Nat} {f : Int → Option Int} {S : Nat → Prop} (h : MapI w b n f) (g : Only w w' S) (hs : ¬ S b) : MapI w' b n f := by
 obtain ⟨D, ⟨es, clock, h1, h2⟩, h3⟩ := h
 exact ⟨D, ⟨es, clock, (g.block b (Array.getElem?_eq_some_iff.1 h1).1 hs).trans h1, h2⟩, h3⟩
section
variable {ops : Array Oper} {rest : List Oper} {o : Oper} {a : Act} {Q : Exit → Act → World → Prop} {w : World}
theorem mapI_put (hg : o.guard = none) (m x v : Operand) (hop : o.op = Op.mapUpdate 166 m x v) (b n : Nat) (f : Int → Option Int) (hm : a.eval m = .map (some b)) (H : MapI w b n f) (hn : n < maxLen) (xk xv : Int)
  (hx : a.eval x = .int .i64 xk) (hv : a.eval v = .int .i64 xv) (wk : (Lit.int .i64 xk).wf = true) (wv : (Lit.int .i64 xv).wf = true)
  (hK : ∀ w', MapI w' b (n + 1) (upd f xk xv) → w.grownBy w' (some b) → wpList Tryz.prog ops Q rest (a.put o.dst undef) w') : wpList Tryz.prog ops Q (o :: rest) a w := by
 obtain ⟨D, h1, h2, h3⟩ := H
 refine wpList_mapUpdate_own w hg m x v 166 hop 3 3 key3 Tryz.underlying166 _ b n D hm h1 hn _ _ _ hx hv (Maps.keyOf_int_mk Tryz.underlying3 wk) _ [] (plainElem_int Tryz.underlying3 wv) ?_
 intro w' h4 h5
 refine hK w' ⟨_, h4, h2.put _ _, fun y => ?_⟩ h5
 have hkl : WideAt.IsKeyLit (Lit.int .i64 xk) := trivial
 by_cases e : y = xk
 ·subst e
  refine ⟨?_, fun z => ?_⟩
  ·rw [Maps.has_put_same h2 hkl]; simp [upd]
  ·rw [Maps.atKey_put_same h2 hkl]; simp [upd]
 ·have hne : (Lit.int .i64 y) ≠ (Lit.int .i64 xk) := fun f => by injection f with _ f; exact e f
  refine ⟨?_, fun z => ?_⟩
  ·rw [Maps.has_put_other hne, (h3 y).1]; simp [upd, e]
  ·rw [Maps.atKey_put_other hne, (h3 y).2]; simp [upd, e]
theorem mapI_look (hg : o.guard = none) (m x : Operand) (hop : o.op = Op.lookup 166 m x true) (b n : Nat) (f : Int → Option Int) (hm : a.eval m = .map (some b)) (H : MapI w b n f) (xk : Int)
  (hx : a.eval x = .int .i64 xk) (wk : (Lit.int .i64 xk).wf = true)
  (hK : wpList Tryz.prog ops Q rest (a.put o.dst (.tuple #[.int .i64 ((f xk).getD 0), .bool (f xk).isSome])) w) : wpList Tryz.prog ops Q (o :: rest) a w := by
 obtain ⟨D, h1, h2, h3⟩ := H
 refine wpList_lookup_own_ok_int w hg m x 166 hop 3 3 .i64 key3 Tryz.underlying166 Tryz.underlying3 (zero3 w) b n D hm h1 _ _ hx (Maps.keyOf_int_mk Tryz.underlying3 wk) ?_
 intro c hc _
 rw [(h3 xk).1]
 rw [(h3 xk).2] at hc
 cases hf : f xk with
 | none =>
  rw [hf] at hc hK
  simp only at hc
  injection hc with hc
  injection hc with _ hc
  subst hc
  exact hK
 | some y =>
  rw [hf] at hc hK
  simp only at hc
  injection hc with hc
  injection hc with _ hc
  subst hc
  exact hK
theorem mapI_none (hg : o.guard = none) (m x : Operand) (hop : o.op = Op.lookup 166 m x true) (b n : Nat) (f : Int → Option Int) (hm : a.eval m = .map (some b)) (H : MapI w b n f) (xk : Int)
  (hx : a.eval x = .int .i64 xk) (wk : (Lit.int .i64 xk).wf = true) (hf : f xk = none)
  (hK : wpList Tryz.prog ops Q rest (a.put o.dst (.tuple #[.int .i64 0, .bool false])) w) : wpList Tryz.prog ops Q (o :: rest) a w :=
 mapI_look hg m x hop b n f hm H xk hx wk (by rw [hf]; exact hK)
theorem mapI_some (hg : o.guard = none) (m x : Operand) (hop : o.op = Op.lookup 166 m x true) (b n : Nat) (f : Int → Option Int) (hm : a.eval m = .map (some b)) (H : MapI w b n f) (xk d : Int)
  (hx : a.eval x = .int .i64 xk) (wk : (Lit.int .i64 xk).wf = true) (hf : f xk = some d)
  (hK : wpList Tryz.prog ops Q rest (a.put o.dst (.tuple #[.int .i64 d, .bool true])) w) : wpList Tryz.prog ops Q (o :: rest) a w :=
 mapI_look hg m x hop b n f hm H xk hx wk (by rw [hf]; exact hK)
end
end Go.Proofs.YtfkejflmhidnaaaGreat.PAll
namespace Go.Proofs.YtfkejflmhidnaaaGreat.PAll
open RowKit YtfkejflmhidnaaaGreatW.PrintWords YtfkejflmhidnaaaGreatW.PrintLast YtfkejflmhidnaaaGreatW.PrintMore
open Hp hiding Good
def lessB (q : Q) (v x : Int) : Bool := match key q v with
 | none => true
 | some k => decide (x < k)
def fresh (out : Int → Option Int) (d : Int) (e : S75) (q : Q) : Bool := (out e.f0).isNone && lessB q e.f0 (d + e.f1)
def relax (out : Int → Option Int) (d : Int) : List S75 → Q → Q
 | [], q => q
 | e :: l, q => relax out d l (if fresh out d e q = true then put q e.f0 (d + e.f1) else q)
def climbGo (rank : List Int) (top : Int) (up : List (List S75)) : Nat → Q → (Int → Option Int) → (Int → Option Int)
 | 0, _, out => out
 | f + 1, q, out => if q.l = [] then out else
   if rd rank (nth q.l 0).id ≥ top then climbGo rank top up f (drop q (nth q.l 0).id) (upd out (nth q.l 0).id (nth q.l 0).key)
   else climbGo rank top up f (relax (upd out (nth q.l 0).id (nth q.l 0).key) (nth q.l 0).key (edges up (nth q.l 0).id.toNat) (drop q (nth q.l 0).id)) (upd out (nth q.l 0).id (nth q.l 0).key)
def climbF (n : Nat) (rank : List Int) (top : Int) (up : List (List S75)) (v : Nat) : Int → Option Int :=
 climbGo rank top up (n + 1) (put ⟨[], List.replicate n 0⟩ v 0) (fun _ => none)
def left (n : Nat) (out : Int → Option Int) : Nat := (List.range n).countP fun (v : Nat) => (out (v : Int)).isNone
theorem left_upd {n : Nat} {out : Int → Option Int} {x : Nat} (y : Int) (hx : x < n) (h : out (x : Int) = none) : left n (upd out x y) < left n out := by
 unfold left
 induction n with
 | zero => omega
 | succ n ih =>
  rw [List.range_succ, List.countP_append, List.countP_append, List.countP_singleton, List.countP_singleton]
  have mono : ∀ n, (List.range n).countP (fun (v : Nat) => (upd out x y (v : Int)).isNone) ≤ (List.range n).countP (fun (v : Nat) => (out (v : Int)).isNone) := fun n => by
   refine List.countP_mono_left (fun v _ hv => ?_)
   simp only [upd] at hv
   by_cases e : ((v : Nat) : Int) = (x : Int)
   ·rw [if_pos e] at hv; simp at hv
   ·rw [if_neg e] at hv; exact hv
  by_cases e : x = n
  ·subst e
   have := mono x
   rw [h]
   simp only [upd, if_true]
   simp
   simp only [upd] at this
   omega
  ·have := ih (by omega)
   have hne : ((n : Nat) : Int) ≠ (x : Int) := by omega
   simp only [upd, if_neg hne] at this ⊢
   omega
theorem left_none (n : Nat) : left n (fun _ => none) = n := by simp [left]
structure CInv (n : Nat) (b : Int) (q : Q) (out : Int → Option Int) : Prop where
 ok : Ok n q
 keys : ∀ x k : Int, 0 ≤ x → x < n → key q x = some k → out x = none ∧ 0 ≤ k ∧ k ≤ b
 outs : ∀ x y : Int, out x = some y → 0 ≤ x ∧ x < n ∧ 0 ≤ y ∧ y ≤ b
theorem CInv.first {n : Nat} {b : Int} {q : Q} {out : Int → Option Int} (h : CInv n b q out) (hq : 0 < q.l.length) :
  0 ≤ (nth q.l 0).id ∧ (nth q.l 0).id < n ∧ out (nth q.l 0).id = none ∧ 0 ≤ (nth q.l 0).key ∧ (nth q.l 0).key ≤ b ∧ pl q.place (nth q.l 0).id ≠ 0 := by
 have h1 := h.ok.good.ids 0 hq
 have h2 := h.keys _ _ h1.1 h1.2.1 (h.ok.good.key_at hq)
 exact ⟨h1.1, h1.2.1, h2.1, h2.2.1, h2.2.2, by omega⟩
theorem CInv.pop {n : Nat} {b : Int} {q : Q} {out : Int → Option Int} (h : CInv n b q out) (hq : 0 < q.l.length) :
  CInv n b (drop q (nth q.l 0).id) (upd out (nth q.l 0).id (nth q.l 0).key) := by
 obtain ⟨h0, h1, h2, h3, h4, h5⟩ := h.first hq
 obtain ⟨d1, _, d2⟩ := drop_ok h.ok h0 h1 h5
 refine ⟨d1, fun x k x0 x1 e => ?_, fun x y e => ?_⟩
 ·rw [d2 x x0 x1] at e
  by_cases hx : x = (nth q.l 0).id
  ·rw [if_pos hx] at e; cases e
  ·rw [if_neg hx] at e
   have := h.keys x k x0 x1 e
   refine ⟨?_, this.2⟩
   simp only [upd, if_neg hx]
   exact this.1
 ·simp only [upd] at e
  by_cases hx : x = (nth q.l 0).id
  ·rw [if_pos hx] at e
   cases e
   subst hx
   exact ⟨h0, h1, h3, h4⟩
  ·rw [if_neg hx] at e
   exact h.outs x y e
theorem CInv.mono {n : Nat} {b b' : Int} {q : Q} {out : Int → Option Int} (h : CInv n b q out) (hb : b ≤ b') : CInv n b' q out :=
 ⟨h.ok, fun x k x0 x1 e => ⟨(h.keys x k x0 x1 e).1, (h.keys x k x0 x1 e).2.1, by have := (h.keys x k x0 x1 e).2.2; omega⟩, fun x y e => ⟨(h.outs x y e).1, (h.outs x y e).2.1, (h.outs x y e).2.2.1, by have := (h.outs x y e).2.2.2; omega⟩⟩
theorem CInv.putd {n : Nat} {b : Int} {q : Q} {out : Int → Option Int} (h : CInv n b q out) {v k : Int} (h0 : 0 ≤ v) (h1 : v < n) (ho : out v = none) (k0 : 0 ≤ k) (k1 : k ≤ b) : CInv n b (put q v k) out := by
 obtain ⟨d1, d2⟩ := put_ok k h.ok h0 h1
 refine ⟨d1, fun x y x0 x1 e => ?_, h.outs⟩
 rw [d2 x x0 x1] at e
 by_cases hx : x = v
 ·rw [if_pos hx] at e
  cases e
  subst hx
  exact ⟨ho, k0, k1⟩
 ·rw [if_neg hx] at e
  exact h.keys x y x0 x1 e
def EdgesOk (n : Nat) (wm : Int) (l : List S75) : Prop := ∀ e ∈ l, 0 ≤ e.f0 ∧ e.f0 < n ∧ 0 ≤ e.f1 ∧ e.f1 ≤ wm
theorem CInv.stepd {n : Nat} {b wm d : Int} {q : Q} {out : Int → Option Int} {e : S75} (h : CInv n (b + wm) q out) (he : 0 ≤ e.f0 ∧ e.f0 < n ∧ 0 ≤ e.f1 ∧ e.f1 ≤ wm) (d0 : 0 ≤ d) (d1 : d ≤ b) :
  CInv n (b + wm) (if fresh out d e q = true then put q e.f0 (d + e.f1) else q) out := by
 by_cases hf : fresh out d e q = true
 ·rw [if_pos hf]
  unfold fresh at hf
  rw [Bool.and_eq_true] at hf
  have ho : out e.f0 = none := by
   cases ho : out e.f0 with
   | none => rfl
   | some y => rw [ho] at hf; simp at hf
  exact h.putd he.1 he.2.1 ho (by omega) (by omega)
 ·rw [if_neg hf]; exact h
theorem CInv.relaxd {n : Nat} {b wm d : Int} {out : Int → Option Int} (d0 : 0 ≤ d) (d1 : d ≤ b) : ∀ (l : List S75) (q : Q), EdgesOk n wm l → CInv n (b + wm) q out → CInv n (b + wm) (relax out d l q) out
 | [], q, _, h => h
 | e :: l, q, hl, h => CInv.relaxd d0 d1 l _ (fun x hx => hl x (by simp [hx])) (h.stepd (hl e (by simp)) d0 d1)
theorem CInv.start (n v : Nat) (hv : v < n) : CInv n 0 (Hp.put ⟨[], List.replicate n 0⟩ v 0) (fun _ => none) := by
 have h0 : CInv n 0 ⟨[], List.replicate n 0⟩ (fun _ => none) := ⟨empty_ok n, (fun x k _ _ e => by rw [empty_key] at e; cases e), (fun x y e => by cases e)⟩
 exact h0.putd (by omega) (by omega) rfl (by omega) (by omega)
structure HOk (n : Nat) (wm : Int) (h : HierP) : Prop where
 rank : ∀ v : Nat, v < n → 0 ≤ rd h.rank v
 up : ∀ v : Nat, v < n → EdgesOk n wm (edges h.up v)
 down : ∀ v : Nat, v < n → EdgesOk n wm (edges h.down v)
 wm0 : 0 ≤ wm
 wm1 : wm ≤ 1125899906842624
structure Climb (w wr : World) (hb mb qb n m : Nat) (h : HierP) (lv pv : Value) (b : Int) (q : Q) (out : Int → Option Int) : Prop where
 hier : HierRep w hb n h
 below : Below w.heap.size w wr
 map : MapI wr mb m out
 rep : HRep wr (mb + 1) qb n lv pv q
 inv : CInv n b q out
 mb : w.heap.size ≤ mb
theorem Climb.hierAt {w wr : World} {hb mb qb n m : Nat} {h : HierP} {lv pv : Value} {b : Int} {q : Q} {out : Int → Option Int} (C : Climb w wr hb mb qb n m h lv pv b q out) : HierRep wr hb n h := C.hier.below C.below
theorem Climb.still {w wr w1 : World} {hb mb qb n m : Nat} {h : HierP} {lv pv : Value} {b : Int} {q : Q} {out : Int → Option Int} (C : Climb w wr hb mb qb n m h lv pv b q out) (g : Only wr w1 (fun _ => False)) : Climb w w1 hb mb qb n m h lv pv b q out :=
 ⟨C.hier, C.below.trans (g.below C.below.size (fun _ f => f.elim)), C.map.only g (fun f => f), C.rep.only g (fun _ _ f => f), C.inv, C.mb⟩
theorem Climb.mono {w wr : World} {hb mb qb n m : Nat} {h : HierP} {lv pv : Value} {b b' : Int} {q : Q} {out : Int → Option Int} (C : Climb w wr hb mb qb n m h lv pv b q out) (hb' : b ≤ b') : Climb w wr hb mb qb n m h lv pv b' q out :=
 ⟨C.hier, C.below, C.map, C.rep, C.inv.mono hb', C.mb⟩
theorem Climb.popped {w wr w1 w2 : World} {hb mb qb n m : Nat} {h : HierP} {lv lv' pv : Value} {b : Int} {q : Q} {out : Int → Option Int} (C : Climb w wr hb mb qb n m h lv pv b q out) (hq : 0 < q.l.length)
  (hR : HRep w1 (mb + 1) qb n lv' pv (drop q (nth q.l 0).id)) (hO : Only wr w1 (HS qb lv pv)) (hM : MapI w2 mb (m + 1) (upd out (nth q.l 0).id (nth q.l 0).key)) (hg : w1.grownBy w2 (some mb)) :
  Climb w w2 hb mb qb n (m + 1) h lv' pv b (drop q (nth q.l 0).id) (upd out (nth q.l 0).id (nth q.l 0).key) := by
 have g1 := Only.of_grown hg
 have hin := C.rep.hs
 have hmb := C.mb
 have hlt := C.map.lt
 have b1 : Below w.heap.size w w1 := C.below.trans (hO.below C.below.size (fun k hk => by have := hin k hk; omega))
 refine ⟨C.hier, b1.trans (g1.below b1.size (fun k hk => by cases hk; exact hmb)), hM, hR.only g1 (fun k hk e => ?_), C.inv.pop hq, hmb⟩
 have := hR.hs k hk
 cases e
 omega
theorem Climb.mapOnly {w wr w1 : World} {hb mb qb n m : Nat} {h : HierP} {lv pv : Value} {b : Int} {q : Q} {out : Int → Option Int} (C : Climb w wr hb mb qb n m h lv pv b q out) (hO : Only wr w1 (HS qb lv pv)) : MapI w1 mb m out :=
 C.map.only hO (fun f => by have := C.rep.hs mb f; omega)
theorem Climb.setd {w wr w1 : World} {hb mb qb n m : Nat} {h : HierP} {lv lv' pv : Value} {b : Int} {q q' : Q} {out : Int → Option Int} (C : Climb w wr hb mb qb n m h lv pv b q out)
  (hR : HRep w1 (mb + 1) qb n lv' pv q') (hO : Only wr w1 (HS qb lv pv)) (hI : CInv n b q' out) : Climb w w1 hb mb qb n m h lv' pv b q' out :=
 ⟨C.hier, C.below.trans (hO.below C.below.size (fun k hk => by have := C.rep.hs k hk; have := C.mb; omega)), C.mapOnly hO, hR, hI, C.mb⟩
theorem wf64 {x : Int} (h0 : 0 ≤ x) (h1 : x ≤ 9223372036854775807) : (Lit.int .i64 x).wf = true := by
 have e1 : IntKind.i64.min = -9223372036854775808 := by decide +kernel
 have e2 : IntKind.i64.max = 9223372036854775807 := by decide +kernel
 unfold Lit.wf
 simp only [e1, e2, Bool.and_eq_true, decide_eq_true_eq]
 omega
def Edges (w : World) (base : Nat) (A : Option Addr) (c : Nat) (l : List S75) : Prop := Kd.R k75 75 w base (fun k => (Value.slice A l.length c).ownBlock = some k) (.slice A l.length c) l
theorem Edges.of {w : World} {base : Nat} {A : Option Addr} {c : Nat} {l : List S75} (h : Kd.R k75 75 w base (fun _ => True) (.slice A l.length c) l) : Edges w base A c l :=
 Kd.R_flat (fun hm => by obtain rfl := k75_openM hm; exact k75_mkM _ _ _ _) h (fun k hk _ => hk)
theorem Edges.only {w w1 : World} {S : Nat → Prop} {base : Nat} {A : Option Addr} {c : Nat} {l : List S75} (h : Edges w base A c l) (g : Only w w1 S) (hs : ∀ k, S k → (Value.slice A l.length c).ownBlock ≠ some k) : Edges w1 base A c l :=
 Kd.R_step h (fun k hk hlt => g.block k hlt (fun f => hs k f hk))
theorem Edges.lt {w : World} {base : Nat} {A : Option Addr} {c : Nat} {l : List S75} (h : Edges w base A c l) : ∀ k, (Value.slice A l.length c).ownBlock = some k → base ≤ k ∧ k < w.heap.size := fun k hk => by
 obtain ⟨inner, ho⟩ := Kd.R_own h
 exact ho.lt k hk
theorem Edges.at {w : World} {base : Nat} {A : Option Addr} {c : Nat} {l : List S75} (h : Edges w base A c l) (i : Nat) (hi : i < l.length) :
  ∃ ad, A = some ad ∧ w.cell? (ad.add (i * 3)) = some (.int .i64 (rd_T75 l i).f0) ∧ w.cell? ⟨(ad.add (i * 3)).block, (ad.add (i * 3)).off + 1, none⟩ = some (.int .i64 (rd_T75 l i).f1) ∧ w.cell? ⟨(ad.add (i * 3)).block, (ad.add (i * 3)).off + 2, none⟩ = some (.int .i64 (rd_T75 l i).f2) := by
 have h1 := (Kd.R_reads' h).2.2
 exact at_T75 h1 (i : Int) (by omega) (by omega)
theorem drop_T70 (l : List S75) (i : Nat) (h : i < l.length) : l.drop i = rd_T75 l (i : Int) :: l.drop (i + 1) ∧ rd_T75 l (i : Int) ∈ l := by
 have e : rd_T75 l (i : Int) = l[i] := by simp [rd_T75, List.getD, h]
 rw [e]
 exact ⟨List.drop_eq_getElem_cons h, List.getElem_mem _⟩
theorem edges_mem (l : List (List S75)) (v : Nat) (h : v < l.length) : edges l v ∈ l := by
 have : edges l v = l[v] := by simp [edges, List.getD, h]
 rw [this]; exact List.getElem_mem _
theorem fresh_done {out : Int → Option Int} {d y : Int} {e : S75} {q : Q} (h : out e.f0 = some y) : fresh out d e q = false := by simp [fresh, h]
theorem fresh_new {out : Int → Option Int} {d : Int} {e : S75} {q : Q} (h : out e.f0 = none) (hk : key q e.f0 = none) : fresh out d e q = true := by simp [fresh, h, lessB, hk]
theorem fresh_key {out : Int → Option Int} {d k : Int} {e : S75} {q : Q} (h : out e.f0 = none) (hk : key q e.f0 = some k) : fresh out d e q = decide (d + e.f1 < k) := by simp [fresh, h, lessB, hk]
set_option maxRecDepth 100000 in
set_option maxHeartbeats 4000000 in
theorem climb_up (w : World) (hb n : Nat) (h : HierP) (wm : Int) (H : HierRep w hb n h) (hok : HOk n wm h) (v : Nat) (hv : v < n) (top : Int) :
  Calls Tryz.prog 119 #[.pointer (some ⟨hb, 0, none⟩), .int .i64 v, .int .i64 top, .func (.func 120) #[] #[]] w fun r w' => ∃ mb m, r = .returned (.map (some mb)) ∧ MapI w' mb m (climbF n h.rank top h.up v) ∧ w.heap.size ≤ mb ∧ Below w.heap.size w w' := by
 have hn9 := H.small
 have hb1 : Below w.heap.size w (w.alloc (.map #[] 0)) := (Below.refl _ _).alloc (Nat.le_refl _) _
 have HR := Lib.hid (rank_walk _ hb n h (H.below hb1) v hv)
 have HN := Lib.hid (n_walk _ hb n h (H.below hb1))
 have HH := Lib.hid H
 have hr0 : decide (rd h.rank (v : Int) < 0) = false := by have := hok.rank v hv; simp; omega
 have HOK := Lib.hid hok
 have HB1 := Lib.hid hb1
 clear H hok hb1
 have hmm := @run_makeMap Tryz.prog
 go_enter Tryz.func119, Tryz.ntmps119
 go_wp2_with fail
 go_step3
 go_wp2_with (first | (go_at_call 138; refine HR.out.mono ?_; rintro e w' ⟨rfl, rfl⟩) | (go_at_call 46; refine HN.out.mono ?_; rintro e w' ⟨rfl, rfl⟩))
 refine (new_walk _ n (by omega)).mono ?_
 rintro e w1 ⟨qb, pv, rfl, hq1, hR1, hB1⟩
 rw [World.size_alloc] at hq1 hR1 hB1
 have HR1 := Lib.hid hR1
 have HB2 : Hid (Below w.heap.size w w1) := Lib.hid (HB1.out.trans (hB1.mono (by omega)))
 have HM1 : Hid (MapI w1 w.heap.size 0 (fun _ => none)) := Lib.hid ((MapI.made w).only (Only.of_belowB hB1) (by omega))
 clear hR1 hB1 HR HN HB1
 go_wp2_with fail
 refine (set_walk _ _ _ _ _ _ _ HR1.out (empty_ok n) v 0 (by omega) (by omega) (by simp)).mono ?_
 rintro e w2 ⟨rfl, lv, hR2, hO2, hS2⟩
 have hsz1 := hO2.size
 have hin := HR1.out.hs
 have HC : Hid (Climb w w2 hb w.heap.size qb n 0 h lv pv 0 (put ⟨[], List.replicate n 0⟩ v 0) (fun _ => none)) := Lib.hid (by
  have hb2 : Below w.heap.size w w2 := HB2.out.trans (hO2.below HB2.out.size (fun k hk => by have := hin k hk; omega))
  exact ⟨HH.out, hb2, HM1.out.only hO2 (fun f => by have := hin _ f; omega), hR2, CInv.start n v hv, Nat.le_refl _⟩)
 clear hR2 hO2 hS2 hin HM1 HR1 HB2 hq1 hsz1
 have hfin : Hid (climbGo h.rank top h.up (n + 1) (put ⟨[], List.replicate n 0⟩ v 0) (fun _ => none) = climbF n h.rank top h.up v) := Lib.hid rfl
 have HCF : Hid (∃ F, climbF n h.rank top h.up v = F) := Lib.hid ⟨_, rfl⟩
 go_wp2_with fail
 go_step3
 go_wp2_with fail
 have hwm := HOK.out.wm0
 have hwm1 := HOK.out.wm1
 go_loopg [] (n + 1) (fun g wr => ∃ (m k : Nat) (lv : Value) (q : Q) (out : Int → Option Int), g + k = n + 1 ∧ m = k ∧ Hid (left n out < g) ∧ Hid (Climb w wr hb w.heap.size qb n m h lv pv ((k : Int) * wm) q out) ∧ Hid (climbGo h.rank top h.up g q out = climbF n h.rank top h.up v))
 case atStart => exact ⟨0, 0, lv, _, _, by omega, rfl, Lib.hid (by rw [left_none]; omega), by simpa using HC, hfin⟩
 case round =>
  obtain ⟨m, k, lv1, q, out, hgk, rfl, HLF, HC1, HE⟩ := hrel
  clear HC hfin
  obtain ⟨g, rfl⟩ : ∃ g, gk = g + 1 := ⟨gk - 1, by have := HLF.out; omega⟩
  by_cases hq : q.l = []
  ·have HQ := Lib.hid hq
   clear hq
   go_wp2_with (first | (go_at_call 141; refine (pop_none _ _ _ _ _ _ _ HC1.out.rep HQ.out).mono ?_; rintro e w' ⟨rfl, rfl⟩))
   (try rw [Exit.noGoto_ret])
   go_ret
   refine ⟨_, m, rfl, ?_, Nat.le_refl _, HC1.out.below⟩
   have := HE.out
   rw [climbGo, if_pos HQ.out] at this
   rw [← this]
   exact HC1.out.map
  ·have hq0 : 0 < q.l.length := by
    cases hl : q.l with
    | nil => exact absurd hl hq
    | cons _ _ => simp
   obtain ⟨x0, x1, x2, x3, x4, x5⟩ := HC1.out.inv.first hq0
   obtain ⟨a, ha⟩ := Int.eq_ofNat_of_zero_le x0
   have han : a < n := by omega
   have HPOP := Lib.hid (pop_some _ _ _ _ _ _ _ HC1.out.rep HC1.out.inv.ok hq0)
   have HX : Hid (nth q.l 0 = ⟨a, (nth q.l 0).key⟩) := Lib.hid (by rw [← ha])
   have HL2 : Hid (left n (upd out a (nth q.l 0).key) < left n out) := Lib.hid (left_upd _ han (by rw [← ha]; exact x2))
   have HQ0 := Lib.hid hq0
   have hkb : (m : Int) * wm ≤ 1125899906842624 * 1000 := by
    have : (m : Int) ≤ 1000 := by omega
    calc (m : Int) * wm ≤ 1000 * wm := Int.mul_le_mul_of_nonneg_right this hwm
     _ ≤ _ := by omega
   have HPOPD := Lib.hid (fun lv' w1 w2 => HC1.out.popped (lv' := lv') (w1 := w1) (w2 := w2) hq0)
   rw [HX.out] at HPOP HPOPD
   have HEG := HE.out
   rw [climbGo, if_neg hq, HX.out] at HEG
   have hbm : (m : Int) * wm + wm = ((m + 1 : Nat) : Int) * wm := by rw [Int.natCast_add, Int.add_mul]; simp
   generalize hd : (nth q.l 0).key = d at *
   have HD := Lib.hid hd
   simp only at HPOP HPOPD HEG
   have HEH := Lib.hid HEG
   have HBM := Lib.hid hbm
   clear hd hq ha x0 x1 x2 x5 hq0 HEG hbm
   go_wp2_with (first | (go_at_call 141; refine HPOP.out.mono ?_; rintro e w1 ⟨rfl, lv2, hR2, hO2, _⟩; have HR2 := Lib.hid hR2; have HO2 := Lib.hid hO2; have HM2 := Lib.hid (HC1.out.mapOnly hO2); clear hR2 hO2) | (at_mapUpdate; refine mapI_put rfl (.tmp 40) (.tmp 41) (.tmp 42) rfl w.heap.size m out rfl HM2.out (by simp only [maxLen]; omega) a d rfl rfl (wf64 (by omega) (by omega)) (wf64 (by omega) (by omega)) ?_; intro w2 hM hg))
   have HC2 := Lib.hid (HPOPD.out lv2 w1 w2 HR2.out HO2.out hM hg)
   clear hM hg HM2 HO2 HR2 HPOP HPOPD HC1 HE
   by_cases ht : rd h.rank (a : Int) ≥ top
   ·have HT := Lib.hid ht
    have hd1 : decide (rd h.rank (a : Int) ≥ top) = true := by simpa using ht
    have hd2 : decide (top ≤ rd h.rank (a : Int)) = true := by simpa using ht
    clear ht
    go_wp2_with (first | (go_at_call 138; refine (rank_walk _ hb n h HC2.out.hierAt a han).mono ?_; rintro e w' ⟨rfl, rfl⟩))
    go_roundg g
    case measure => omega
    case rel =>
     refine ⟨m + 1, m + 1, lv2, _, _, by omega, rfl, Lib.hid (by have := HL2.out; have := HLF.out; omega), Lib.hid (HC2.out.mono (by rw [← HBM.out]; omega)), Lib.hid ?_⟩
     have := HEH.out
     rw [if_pos HT.out] at this
     exact this
   ·have HT := Lib.hid ht
    have hd1 : decide (rd h.rank (a : Int) ≥ top) = false := by simpa using ht
    have hd2 : decide (top ≤ rd h.rank (a : Int)) = false := by simpa using ht
    clear ht
    go_wp2_with (first | (go_at_call 138; refine (rank_walk _ hb n h HC2.out.hierAt a han).mono ?_; rintro e w' ⟨rfl, rfl⟩))
    refine (up_walk _ hb n h HC2.out.hierAt (fun u hu => HOK.out.rank u hu) a han).mono ?_
    rintro e w3 ⟨vr, rfl, hR3, hB3⟩
    have HEO := Lib.hid (HOK.out.up a han)
    have HC3 := Lib.hid ((HC2.out.mono (b' := (m : Int) * wm + wm) (by omega)).still (Only.of_below hB3 _))
    have HQS : Hid (∀ k, HS qb lv2 pv k → k < w2.heap.size) := Lib.hid (fun k hk => (HC2.out.rep.hs k hk).2)
    have hmb2 : w.heap.size < w2.heap.size := HC2.out.map.lt
    have e0 : edges h.up ((a : Int)).toNat = edges h.up a := rfl
    have HEI := HEH.out
    rw [if_neg (by have := HT.out; omega), e0] at HEI
    obtain ⟨l, hl⟩ : ∃ l, edges h.up a = l := ⟨_, rfl⟩
    rw [hl] at hR3 HEO HEI
    obtain ⟨A, c, rfl, hlc, _⟩ := Kd.R_reads hR3
    have HED := Lib.hid (Edges.of hR3)
    have HE2 := Lib.hid HEI
    obtain ⟨len, hlen⟩ : ∃ len, l.length = len := ⟨_, rfl⟩
    have HLEN := Lib.hid hlen
    rw [hlen] at hlc
    have hlen2 : len ≤ 100000000 := by rw [← hlen, ← hl]; exact HC2.out.hier.ups _ (edges_mem _ _ (by have := HC2.out.hier.rlen; omega))
    have d4 : d ≤ (m : Int) * wm := x4
    obtain ⟨base, hbase⟩ : ∃ base, w2.heap.size = base := ⟨_, rfl⟩
    rw [hbase] at HED HQS hmb2
    rw [hlen]
    clear hR3 hB3 hl HEI hlen HC2 HEH e0 hbase
    go_wp2_with fail
    go_loopg [53] len (fun z v53 wr => ∃ (i : Nat) (lv3 : Value) (q3 : Q), v53 = .int .i64 i ∧ z + i = len ∧ Hid (Climb w wr hb w.heap.size qb n (m + 1) h lv3 pv ((m : Int) * wm + wm) q3 (upd out a d)) ∧ Hid (Edges wr base A c l) ∧
     Hid (relax (upd out a d) d (l.drop i) q3 = relax (upd out a d) d l (drop q a)) ∧ Hid (∀ k, HS qb lv3 pv k → (Value.slice A l.length c).ownBlock ≠ some k))
    case atStart => exact ⟨0, lv2, drop q a, rfl, by omega, HC3, HED, Lib.hid rfl, Lib.hid (fun k hk f => by have := HQS.out k hk; have := HED.out.lt k f; omega)⟩
    case round =>
     obtain ⟨i, lv3, q3, rfl, hzi, HC4, HED4, HRX, HNE⟩ := hrel
     clear HC3 HED
     by_cases hi : i < len
     ·obtain ⟨hdr, hmem⟩ := drop_T70 l i (by have := HLEN.out; omega)
      obtain ⟨ad, rfl, r0, r1, r2⟩ := HED4.out.at i (by have := HLEN.out; omega)
      have heo := HEO.out _ hmem
      have HDR := Lib.hid hdr
      generalize rd_T75 l (i : Int) = e at *
      obtain ⟨vv, ww, aa⟩ := e
      simp only at r0 r1 r2 heo
      obtain ⟨vn, rfl⟩ := Int.eq_ofNat_of_zero_le heo.1
      have hi0 : (0 : Int) ≤ (i : Int) := Int.natCast_nonneg _
      have hi1 : (i : Int) < (len : Int) := by omega
      clear hdr hmem
      go_upto_region 13 with (fail)
      have HC5 := Lib.hid (HC4.out.still ((Only.refl wr (fun _ => False)).alloc (.cells #[.int .i64 vn, .int .i64 ww, .int .i64 aa] 75)))
      have HED5 := Lib.hid (HED4.out.only ((Only.refl wr (fun _ => False)).alloc (.cells #[.int .i64 vn, .int .i64 ww, .int .i64 aa] 75)) (fun _ f => f.elim))
      have HBX : Hid ((wr.alloc (.cells #[.int .i64 vn, .int .i64 ww, .int .i64 aa] 75)).heap[wr.heap.size]? = some (.cells #[.int .i64 vn, .int .i64 ww, .int .i64 aa] 75 (0, 0))) := Lib.hid (blk_new wr _)
      have b0 := (blk_cell HBX.out 0).trans rfl
      go_cut [16, 17] (fun v16 v17 wc => ∃ (kk : Int) (kb : Bool), v16 = .int .i64 kk ∧ v17 = .bool kb ∧ Hid (key q3 vn = if kb = true then some kk else none) ∧ Hid (Climb w wc hb w.heap.size qb n (m + 1) h lv3 pv ((m : Int) * wm + wm) q3 (upd out a d)) ∧ Hid (Edges wc base (some ad) c l) ∧ Hid (wc.heap[wr.heap.size]? = some (.cells #[.int .i64 vn, .int .i64 ww, .int .i64 aa] 75 (0, 0))))
      case first =>
       cases hk : key q3 (vn : Int) with
       | none =>
        have HK := Lib.hid hk
        clear hk
        go_wp2_with (first | (go_at_call 142; refine (key_none _ _ _ _ _ _ _ HC5.out.rep vn heo.1 heo.2.1 HK.out).mono ?_; rintro e w' ⟨rfl, rfl⟩))
        go_meet
        exact ⟨0, false, rfl, rfl, Lib.hid (by rw [if_neg (by decide)]; exact HK.out), HC5, HED5, HBX⟩
       | some kk =>
        have HK := Lib.hid hk
        clear hk
        go_wp2_with (first | (go_at_call 142; refine (key_some _ _ _ _ _ _ _ HC5.out.rep HC5.out.inv.ok vn kk heo.1 heo.2.1 HK.out).mono ?_; rintro e w' ⟨rfl, ⟨⟨jj, rfl⟩⟩⟩))
        go_meet
        exact ⟨kk, true, rfl, rfl, Lib.hid (by rw [if_pos rfl]; exact HK.out), Lib.hid (HC5.out.still ((Only.refl _ _).drewN jj)), Lib.hid (HED5.out.only (S := fun _ => False) ((Only.refl _ _).drewN jj) (fun _ f => f.elim)), HBX⟩
      case rest =>
       obtain ⟨kk, kb, rfl, rfl, HK, HC6, HED6, HBX6⟩ := hcut
       clear HC5 HED5 HBX b0 r0 r1 r2 HC4 HED4
       have b0 := (blk_cell HBX6.out 0).trans rfl
       have b1 := (blk_cell HBX6.out 1).trans rfl
       have b2 := blk_lt HBX6.out
       have hkv : kb = true → 0 ≤ kk ∧ kk ≤ (m : Int) * wm + wm := fun e => by
        have := HK.out
        rw [if_pos e] at this
        exact (HC6.out.inv.keys _ _ heo.1 heo.2.1 this).2
       cases ho : upd out a d vn with
       | some y =>
        have HO := Lib.hid ho
        have ho1 : ((upd out a d vn).getD 0) = y := by rw [ho]; rfl
        have ho2 : (upd out a d vn).isSome = true := by rw [ho]; rfl
        clear ho hkv
        go_wp2_with (first | (at_lookup; refine mapI_look rfl (.tmp 65) (.tmp 67) rfl w.heap.size (m + 1) (upd out a d) rfl HC6.out.map vn rfl (wf64 (by omega) (by omega)) ?_))
        go_roundg (len - (i + 1))
        case measure => omega
        case rel =>
         refine ⟨i + 1, lv3, q3, by go_num, by omega, HC6, HED6, Lib.hid ?_, HNE⟩
         rw [← HRX.out, HDR.out, relax, fresh_done HO.out, if_neg (by decide)]
       | none =>
        have HO := Lib.hid ho
        have ho1 : ((upd out a d vn).getD 0) = 0 := by rw [ho]; rfl
        have ho2 : (upd out a d vn).isSome = false := by rw [ho]; rfl
        have HLQ : Hid (q3.l.length + 1 ≤ 1000) := Lib.hid (by have := HC6.out.inv.ok.good.len_le; omega)
        clear ho
        cases kb with
        | false =>
         go_wp2_with (first | (at_lookup; refine mapI_look rfl (.tmp 65) (.tmp 67) rfl w.heap.size (m + 1) (upd out a d) rfl HC6.out.map vn rfl (wf64 (by omega) (by omega)) ?_) | (go_at_call 140; refine (set_walk _ _ _ _ _ _ _ HC6.out.rep HC6.out.inv.ok vn (d + ww) heo.1 heo.2.1 HLQ.out).mono ?_; rintro e w7 ⟨rfl, lv4, hR7, hO7, hS7⟩; have HC7 := Lib.hid (HC6.out.setd hR7 hO7 (HC6.out.inv.putd heo.1 heo.2.1 HO.out (by omega) (by omega))); have HED7 := Lib.hid (HED6.out.only hO7 (fun k hk => HNE.out k hk)); have HNE7 := Lib.hid (fun k (hk : HS qb lv4 pv k) (f : (Value.slice (some ad) l.length c).ownBlock = some k) => HNE.out k (hS7 k (HED6.out.lt k f).2 hk) f); clear hR7 hO7 hS7))
         go_roundg (len - (i + 1))
         case measure => omega
         case rel =>
          refine ⟨i + 1, lv4, put q3 vn (d + ww), by go_num, by omega, HC7, HED7, Lib.hid ?_, HNE7⟩
          rw [← HRX.out, HDR.out, relax, fresh_new HO.out (by rw [HK.out, if_neg (by decide)]), if_pos rfl]
        | true =>
         have hkv2 := hkv rfl
         clear hkv
         by_cases hlt : d + ww < kk
         ·have HLT := Lib.hid hlt
          have e1 : decide (d + ww < kk) = true := by simpa using hlt
          clear hlt
          go_wp2_with (first | (at_lookup; refine mapI_look rfl (.tmp 65) (.tmp 67) rfl w.heap.size (m + 1) (upd out a d) rfl HC6.out.map vn rfl (wf64 (by omega) (by omega)) ?_) | (go_at_call 140; refine (set_walk _ _ _ _ _ _ _ HC6.out.rep HC6.out.inv.ok vn (d + ww) heo.1 heo.2.1 HLQ.out).mono ?_; rintro e w7 ⟨rfl, lv4, hR7, hO7, hS7⟩; have HC7 := Lib.hid (HC6.out.setd hR7 hO7 (HC6.out.inv.putd heo.1 heo.2.1 HO.out (by omega) (by omega))); have HED7 := Lib.hid (HED6.out.only hO7 (fun k hk => HNE.out k hk)); have HNE7 := Lib.hid (fun k (hk : HS qb lv4 pv k) (f : (Value.slice (some ad) l.length c).ownBlock = some k) => HNE.out k (hS7 k (HED6.out.lt k f).2 hk) f); clear hR7 hO7 hS7))
          go_roundg (len - (i + 1))
          case measure => omega
          case rel =>
           refine ⟨i + 1, lv4, put q3 vn (d + ww), by go_num, by omega, HC7, HED7, Lib.hid ?_, HNE7⟩
           rw [← HRX.out, HDR.out, relax, fresh_key HO.out (k := kk) (by rw [HK.out]; simp), if_pos (by simpa using HLT.out)]
         ·have HLT := Lib.hid hlt
          have e1 : decide (d + ww < kk) = false := by simpa using hlt
          clear hlt
          go_wp2_with (first | (at_lookup; refine mapI_look rfl (.tmp 65) (.tmp 67) rfl w.heap.size (m + 1) (upd out a d) rfl HC6.out.map vn rfl (wf64 (by omega) (by omega)) ?_) | (go_at_call 140; refine (set_walk _ _ _ _ _ _ _ HC6.out.rep HC6.out.inv.ok vn (d + ww) heo.1 heo.2.1 HLQ.out).mono ?_; rintro e w7 ⟨rfl, lv4, hR7, hO7, hS7⟩; have HC7 := Lib.hid (HC6.out.setd hR7 hO7 (HC6.out.inv.putd heo.1 heo.2.1 HO.out (by omega) (by omega))); have HED7 := Lib.hid (HED6.out.only hO7 (fun k hk => HNE.out k hk)); have HNE7 := Lib.hid (fun k (hk : HS qb lv4 pv k) (f : (Value.slice (some ad) l.length c).ownBlock = some k) => HNE.out k (hS7 k (HED6.out.lt k f).2 hk) f); clear hR7 hO7 hS7))
          go_roundg (len - (i + 1))
          case measure => omega
          case rel =>
           refine ⟨i + 1, lv3, q3, by go_num, by omega, HC6, HED6, Lib.hid ?_, HNE⟩
           rw [← HRX.out, HDR.out, relax, fresh_key HO.out (k := kk) (by rw [HK.out]; simp), if_neg (by simpa using HLT.out)]
     ·have HIL : Hid (l.length ≤ i) := Lib.hid (by have := HLEN.out; omega)
      go_wp2_with fail
      go_roundg g
      case measure => omega
      case rel =>
       refine ⟨m + 1, m + 1, lv3, q3, upd out a d, by omega, rfl, Lib.hid (by have := HL2.out; have := HLF.out; omega), Lib.hid (by rw [← HBM.out]; exact HC4.out), Lib.hid ?_⟩
       have h1 := HRX.out
       rw [List.drop_of_length_le HIL.out] at h1
       have h2 := HE2.out
       rw [← h1] at h2
       exact h2
set_option maxRecDepth 100000 in
set_option maxHeartbeats 4000000 in
theorem climb_down (w : World) (hb n : Nat) (h : HierP) (wm : Int) (H : HierRep w hb n h) (hok : HOk n wm h) (v : Nat) (hv : v < n) (top : Int) :
  Calls Tryz.prog 119 #[.pointer (some ⟨hb, 0, none⟩), .int .i64 v, .int .i64 top, .func (.func 122) #[] #[]] w fun r w' => ∃ mb m, r = .returned (.map (some mb)) ∧ MapI w' mb m (climbF n h.rank top h.down v) ∧ w.heap.size ≤ mb ∧ Below w.heap.size w w' := by
 have hn9 := H.small
 have hb1 : Below w.heap.size w (w.alloc (.map #[] 0)) := (Below.refl _ _).alloc (Nat.le_refl _) _
 have HR := Lib.hid (rank_walk _ hb n h (H.below hb1) v hv)
 have HN := Lib.hid (n_walk _ hb n h (H.below hb1))
 have HH := Lib.hid H
 have hr0 : decide (rd h.rank (v : Int) < 0) = false := by have := hok.rank v hv; simp; omega
 have HOK := Lib.hid hok
 have HB1 := Lib.hid hb1
 clear H hok hb1
 have hmm := @run_makeMap Tryz.prog
 go_enter Tryz.func119, Tryz.ntmps119
 go_wp2_with fail
 go_step3
 go_wp2_with (first | (go_at_call 138; refine HR.out.mono ?_; rintro e w' ⟨rfl, rfl⟩) | (go_at_call 46; refine HN.out.mono ?_; rintro e w' ⟨rfl, rfl⟩))
 refine (new_walk _ n (by omega)).mono ?_
 rintro e w1 ⟨qb, pv, rfl, hq1, hR1, hB1⟩
 rw [World.size_alloc] at hq1 hR1 hB1
 have HR1 := Lib.hid hR1
 have HB2 : Hid (Below w.heap.size w w1) := Lib.hid (HB1.out.trans (hB1.mono (by omega)))
 have HM1 : Hid (MapI w1 w.heap.size 0 (fun _ => none)) := Lib.hid ((MapI.made w).only (Only.of_belowB hB1) (by omega))
 clear hR1 hB1 HR HN HB1
 go_wp2_with fail
 refine (set_walk _ _ _ _ _ _ _ HR1.out (empty_ok n) v 0 (by omega) (by omega) (by simp)).mono ?_
 rintro e w2 ⟨rfl, lv, hR2, hO2, hS2⟩
 have hsz1 := hO2.size
 have hin := HR1.out.hs
 have HC : Hid (Climb w w2 hb w.heap.size qb n 0 h lv pv 0 (put ⟨[], List.replicate n 0⟩ v 0) (fun _ => none)) := Lib.hid (by
  have hb2 : Below w.heap.size w w2 := HB2.out.trans (hO2.below HB2.out.size (fun k hk => by have := hin k hk; omega))
  exact ⟨HH.out, hb2, HM1.out.only hO2 (fun f => by have := hin _ f; omega), hR2, CInv.start n v hv, Nat.le_refl _⟩)
 clear hR2 hO2 hS2 hin HM1 HR1 HB2 hq1 hsz1
 have hfin : Hid (climbGo h.rank top h.down (n + 1) (put ⟨[], List.replicate n 0⟩ v 0) (fun _ => none) = climbF n h.rank top h.down v) := Lib.hid rfl
 have HCF : Hid (∃ F, climbF n h.rank top h.down v = F) := Lib.hid ⟨_, rfl⟩
 go_wp2_with fail
 go_step3
 go_wp2_with fail
 have hwm := HOK.out.wm0
 have hwm1 := HOK.out.wm1
 go_loopg [] (n + 1) (fun g wr => ∃ (m k : Nat) (lv : Value) (q : Q) (out : Int → Option Int), g + k = n + 1 ∧ m = k ∧ Hid (left n out < g) ∧ Hid (Climb w wr hb w.heap.size qb n m h lv pv ((k : Int) * wm) q out) ∧ Hid (climbGo h.rank top h.down g q out = climbF n h.rank top h.down v))
 case atStart => exact ⟨0, 0, lv, _, _, by omega, rfl, Lib.hid (by rw [left_none]; omega), by simpa using HC, hfin⟩
 case round =>
  obtain ⟨m, k, lv1, q, out, hgk, rfl, HLF, HC1, HE⟩ := hrel
  clear HC hfin
  obtain ⟨g, rfl⟩ : ∃ g, gk = g + 1 := ⟨gk - 1, by have := HLF.out; omega⟩
  by_cases hq : q.l = []
  ·have HQ := Lib.hid hq
   clear hq
   go_wp2_with (first | (go_at_call 141; refine (pop_none _ _ _ _ _ _ _ HC1.out.rep HQ.out).mono ?_; rintro e w' ⟨rfl, rfl⟩))
   (try rw [Exit.noGoto_ret])
   go_ret
   refine ⟨_, m, rfl, ?_, Nat.le_refl _, HC1.out.below⟩
   have := HE.out
   rw [climbGo, if_pos HQ.out] at this
   rw [← this]
   exact HC1.out.map
  ·have hq0 : 0 < q.l.length := by
    cases hl : q.l with
    | nil => exact absurd hl hq
    | cons _ _ => simp
   obtain ⟨x0, x1, x2, x3, x4, x5⟩ := HC1.out.inv.first hq0
   obtain ⟨a, ha⟩ := Int.eq_ofNat_of_zero_le x0
   have han : a < n := by omega
   have HPOP := Lib.hid (pop_some _ _ _ _ _ _ _ HC1.out.rep HC1.out.inv.ok hq0)
   have HX : Hid (nth q.l 0 = ⟨a, (nth q.l 0).key⟩) := Lib.hid (by rw [← ha])
   have HL2 : Hid (left n (upd out a (nth q.l 0).key) < left n out) := Lib.hid (left_upd _ han (by rw [← ha]; exact x2))
   have HQ0 := Lib.hid hq0
   have hkb : (m : Int) * wm ≤ 1125899906842624 * 1000 := by
    have : (m : Int) ≤ 1000 := by omega
    calc (m : Int) * wm ≤ 1000 * wm := Int.mul_le_mul_of_nonneg_right this hwm
     _ ≤ _ := by omega
   have HPOPD := Lib.hid (fun lv' w1 w2 => HC1.out.popped (lv' := lv') (w1 := w1) (w2 := w2) hq0)
   rw [HX.out] at HPOP HPOPD
   have HEG := HE.out
   rw [climbGo, if_neg hq, HX.out] at HEG
   have hbm : (m : Int) * wm + wm = ((m + 1 : Nat) : Int) * wm := by rw [Int.natCast_add, Int.add_mul]; simp
   generalize hd : (nth q.l 0).key = d at *
   have HD := Lib.hid hd
   simp only at HPOP HPOPD HEG
   have HEH := Lib.hid HEG
   have HBM := Lib.hid hbm
   clear hd hq ha x0 x1 x2 x5 hq0 HEG hbm
   go_wp2_with (first | (go_at_call 141; refine HPOP.out.mono ?_; rintro e w1 ⟨rfl, lv2, hR2, hO2, _⟩; have HR2 := Lib.hid hR2; have HO2 := Lib.hid hO2; have HM2 := Lib.hid (HC1.out.mapOnly hO2); clear hR2 hO2) | (at_mapUpdate; refine mapI_put rfl (.tmp 40) (.tmp 41) (.tmp 42) rfl w.heap.size m out rfl HM2.out (by simp only [maxLen]; omega) a d rfl rfl (wf64 (by omega) (by omega)) (wf64 (by omega) (by omega)) ?_; intro w2 hM hg))
   have HC2 := Lib.hid (HPOPD.out lv2 w1 w2 HR2.out HO2.out hM hg)
   clear hM hg HM2 HO2 HR2 HPOP HPOPD HC1 HE
   by_cases ht : rd h.rank (a : Int) ≥ top
   ·have HT := Lib.hid ht
    have hd1 : decide (rd h.rank (a : Int) ≥ top) = true := by simpa using ht
    have hd2 : decide (top ≤ rd h.rank (a : Int)) = true := by simpa using ht
    clear ht
    go_wp2_with (first | (go_at_call 138; refine (rank_walk _ hb n h HC2.out.hierAt a han).mono ?_; rintro e w' ⟨rfl, rfl⟩))
    go_roundg g
    case measure => omega
    case rel =>
     refine ⟨m + 1, m + 1, lv2, _, _, by omega, rfl, Lib.hid (by have := HL2.out; have := HLF.out; omega), Lib.hid (HC2.out.mono (by rw [← HBM.out]; omega)), Lib.hid ?_⟩
     have := HEH.out
     rw [if_pos HT.out] at this
     exact this
   ·have HT := Lib.hid ht
    have hd1 : decide (rd h.rank (a : Int) ≥ top) = false := by simpa using ht
    have hd2 : decide (top ≤ rd h.rank (a : Int)) = false := by simpa using ht
    clear ht
    go_wp2_with (first | (go_at_call 138; refine (rank_walk _ hb n h HC2.out.hierAt a han).mono ?_; rintro e w' ⟨rfl, rfl⟩))
    refine (down_walk _ hb n h HC2.out.hierAt (fun u hu => HOK.out.rank u hu) a han).mono ?_
    rintro e w3 ⟨vr, rfl, hR3, hB3⟩
    have HEO := Lib.hid (HOK.out.down a han)
    have HC3 := Lib.hid ((HC2.out.mono (b' := (m : Int) * wm + wm) (by omega)).still (Only.of_below hB3 _))
    have HQS : Hid (∀ k, HS qb lv2 pv k → k < w2.heap.size) := Lib.hid (fun k hk => (HC2.out.rep.hs k hk).2)
    have hmb2 : w.heap.size < w2.heap.size := HC2.out.map.lt
    have e0 : edges h.down ((a : Int)).toNat = edges h.down a := rfl
    have HEI := HEH.out
    rw [if_neg (by have := HT.out; omega), e0] at HEI
    obtain ⟨l, hl⟩ : ∃ l, edges h.down a = l := ⟨_, rfl⟩
    rw [hl] at hR3 HEO HEI
    obtain ⟨A, c, rfl, hlc, _⟩ := Kd.R_reads hR3
    have HED := Lib.hid (Edges.of hR3)
    have HE2 := Lib.hid HEI
    obtain ⟨len, hlen⟩ : ∃ len, l.length = len := ⟨_, rfl⟩
    have HLEN := Lib.hid hlen
    rw [hlen] at hlc
    have hlen2 : len ≤ 100000000 := by rw [← hlen, ← hl]; exact HC2.out.hier.downs _ (edges_mem _ _ (by have := HC2.out.hier.rlen; omega))
    have d4 : d ≤ (m : Int) * wm := x4
    obtain ⟨base, hbase⟩ : ∃ base, w2.heap.size = base := ⟨_, rfl⟩
    rw [hbase] at HED HQS hmb2
    rw [hlen]
    clear hR3 hB3 hl HEI hlen HC2 HEH e0 hbase
    go_wp2_with fail
    go_loopg [53] len (fun z v53 wr => ∃ (i : Nat) (lv3 : Value) (q3 : Q), v53 = .int .i64 i ∧ z + i = len ∧ Hid (Climb w wr hb w.heap.size qb n (m + 1) h lv3 pv ((m : Int) * wm + wm) q3 (upd out a d)) ∧ Hid (Edges wr base A c l) ∧
     Hid (relax (upd out a d) d (l.drop i) q3 = relax (upd out a d) d l (drop q a)) ∧ Hid (∀ k, HS qb lv3 pv k → (Value.slice A l.length c).ownBlock ≠ some k))
    case atStart => exact ⟨0, lv2, drop q a, rfl, by omega, HC3, HED, Lib.hid rfl, Lib.hid (fun k hk f => by have := HQS.out k hk; have := HED.out.lt k f; omega)⟩
    case round =>
     obtain ⟨i, lv3, q3, rfl, hzi, HC4, HED4, HRX, HNE⟩ := hrel
     clear HC3 HED
     by_cases hi : i < len
     ·obtain ⟨hdr, hmem⟩ := drop_T70 l i (by have := HLEN.out; omega)
      obtain ⟨ad, rfl, r0, r1, r2⟩ := HED4.out.at i (by have := HLEN.out; omega)
      have heo := HEO.out _ hmem
      have HDR := Lib.hid hdr
      generalize rd_T75 l (i : Int) = e at *
      obtain ⟨vv, ww, aa⟩ := e
      simp only at r0 r1 r2 heo
      obtain ⟨vn, rfl⟩ := Int.eq_ofNat_of_zero_le heo.1
      have hi0 : (0 : Int) ≤ (i : Int) := Int.natCast_nonneg _
      have hi1 : (i : Int) < (len : Int) := by omega
      clear hdr hmem
      go_upto_region 13 with (fail)
      have HC5 := Lib.hid (HC4.out.still ((Only.refl wr (fun _ => False)).alloc (.cells #[.int .i64 vn, .int .i64 ww, .int .i64 aa] 75)))
      have HED5 := Lib.hid (HED4.out.only ((Only.refl wr (fun _ => False)).alloc (.cells #[.int .i64 vn, .int .i64 ww, .int .i64 aa] 75)) (fun _ f => f.elim))
      have HBX : Hid ((wr.alloc (.cells #[.int .i64 vn, .int .i64 ww, .int .i64 aa] 75)).heap[wr.heap.size]? = some (.cells #[.int .i64 vn, .int .i64 ww, .int .i64 aa] 75 (0, 0))) := Lib.hid (blk_new wr _)
      have b0 := (blk_cell HBX.out 0).trans rfl
      go_cut [16, 17] (fun v16 v17 wc => ∃ (kk : Int) (kb : Bool), v16 = .int .i64 kk ∧ v17 = .bool kb ∧ Hid (key q3 vn = if kb = true then some kk else none) ∧ Hid (Climb w wc hb w.heap.size qb n (m + 1) h lv3 pv ((m : Int) * wm + wm) q3 (upd out a d)) ∧ Hid (Edges wc base (some ad) c l) ∧ Hid (wc.heap[wr.heap.size]? = some (.cells #[.int .i64 vn, .int .i64 ww, .int .i64 aa] 75 (0, 0))))
      case first =>
       cases hk : key q3 (vn : Int) with
       | none =>
        have HK := Lib.hid hk
        clear hk
        go_wp2_with (first | (go_at_call 142; refine (key_none _ _ _ _ _ _ _ HC5.out.rep vn heo.1 heo.2.1 HK.out).mono ?_; rintro e w' ⟨rfl, rfl⟩))
        go_meet
        exact ⟨0, false, rfl, rfl, Lib.hid (by rw [if_neg (by decide)]; exact HK.out), HC5, HED5, HBX⟩
       | some kk =>
        have HK := Lib.hid hk
        clear hk
        go_wp2_with (first | (go_at_call 142; refine (key_some _ _ _ _ _ _ _ HC5.out.rep HC5.out.inv.ok vn kk heo.1 heo.2.1 HK.out).mono ?_; rintro e w' ⟨rfl, ⟨⟨jj, rfl⟩⟩⟩))
        go_meet
        exact ⟨kk, true, rfl, rfl, Lib.hid (by rw [if_pos rfl]; exact HK.out), Lib.hid (HC5.out.still ((Only.refl _ _).drewN jj)), Lib.hid (HED5.out.only (S := fun _ => False) ((Only.refl _ _).drewN jj) (fun _ f => f.elim)), HBX⟩
      case rest =>
       obtain ⟨kk, kb, rfl, rfl, HK, HC6, HED6, HBX6⟩ := hcut
       clear HC5 HED5 HBX b0 r0 r1 r2 HC4 HED4
       have b0 := (blk_cell HBX6.out 0).trans rfl
       have b1 := (blk_cell HBX6.out 1).trans rfl
       have b2 := blk_lt HBX6.out
       have hkv : kb = true → 0 ≤ kk ∧ kk ≤ (m : Int) * wm + wm := fun e => by
        have := HK.out
        rw [if_pos e] at this
        exact (HC6.out.inv.keys _ _ heo.1 heo.2.1 this).2
       cases ho : upd out a d vn with
       | some y =>
        have HO := Lib.hid ho
        have ho1 : ((upd out a d vn).getD 0) = y := by rw [ho]; rfl
        have ho2 : (upd out a d vn).isSome = true := by rw [ho]; rfl
        clear ho hkv
        go_wp2_with (first | (at_lookup; refine mapI_look rfl (.tmp 65) (.tmp 67) rfl w.heap.size (m + 1) (upd out a d) rfl HC6.out.map vn rfl (wf64 (by omega) (by omega)) ?_))
        go_roundg (len - (i + 1))
        case measure => omega
        case rel =>
         refine ⟨i + 1, lv3, q3, by go_num, by omega, HC6, HED6, Lib.hid ?_, HNE⟩
         rw [← HRX.out, HDR.out, relax, fresh_done HO.out, if_neg (by decide)]
       | none =>
        have HO := Lib.hid ho
        have ho1 : ((upd out a d vn).getD 0) = 0 := by rw [ho]; rfl
        have ho2 : (upd out a d vn).isSome = false := by rw [ho]; rfl
        have HLQ : Hid (q3.l.length + 1 ≤ 1000) := Lib.hid (by have := HC6.out.inv.ok.good.len_le; omega)
        clear ho
        cases kb with
        | false =>
         go_wp2_with (first | (at_lookup; refine mapI_look rfl (.tmp 65) (.tmp 67) rfl w.heap.size (m + 1) (upd out a d) rfl HC6.out.map vn rfl (wf64 (by omega) (by omega)) ?_) | (go_at_call 140; refine (set_walk _ _ _ _ _ _ _ HC6.out.rep HC6.out.inv.ok vn (d + ww) heo.1 heo.2.1 HLQ.out).mono ?_; rintro e w7 ⟨rfl, lv4, hR7, hO7, hS7⟩; have HC7 := Lib.hid (HC6.out.setd hR7 hO7 (HC6.out.inv.putd heo.1 heo.2.1 HO.out (by omega) (by omega))); have HED7 := Lib.hid (HED6.out.only hO7 (fun k hk => HNE.out k hk)); have HNE7 := Lib.hid (fun k (hk : HS qb lv4 pv k) (f : (Value.slice (some ad) l.length c).ownBlock = some k) => HNE.out k (hS7 k (HED6.out.lt k f).2 hk) f); clear hR7 hO7 hS7))
         go_roundg (len - (i + 1))
         case measure => omega
         case rel =>
          refine ⟨i + 1, lv4, put q3 vn (d + ww), by go_num, by omega, HC7, HED7, Lib.hid ?_, HNE7⟩
          rw [← HRX.out, HDR.out, relax, fresh_new HO.out (by rw [HK.out, if_neg (by decide)]), if_pos rfl]
        | true =>
         have hkv2 := hkv rfl
         clear hkv
         by_cases hlt : d + ww < kk
         ·have HLT := Lib.hid hlt
          have e1 : decide (d + ww < kk) = true := by simpa using hlt
          clear hlt
          go_wp2_with (first | (at_lookup; refine mapI_look rfl (.tmp 65) (.tmp 67) rfl w.heap.size (m + 1) (upd out a d) rfl HC6.out.map vn rfl (wf64 (by omega) (by omega)) ?_) | (go_at_call 140; refine (set_walk _ _ _ _ _ _ _ HC6.out.rep HC6.out.inv.ok vn (d + ww) heo.1 heo.2.1 HLQ.out).mono ?_; rintro e w7 ⟨rfl, lv4, hR7, hO7, hS7⟩; have HC7 := Lib.hid (HC6.out.setd hR7 hO7 (HC6.out.inv.putd heo.1 heo.2.1 HO.out (by omega) (by omega))); have HED7 := Lib.hid (HED6.out.only hO7 (fun k hk => HNE.out k hk)); have HNE7 := Lib.hid (fun k (hk : HS qb lv4 pv k) (f : (Value.slice (some ad) l.length c).ownBlock = some k) => HNE.out k (hS7 k (HED6.out.lt k f).2 hk) f); clear hR7 hO7 hS7))
          go_roundg (len - (i + 1))
          case measure => omega
          case rel =>
           refine ⟨i + 1, lv4, put q3 vn (d + ww), by go_num, by omega, HC7, HED7, Lib.hid ?_, HNE7⟩
           rw [← HRX.out, HDR.out, relax, fresh_key HO.out (k := kk) (by rw [HK.out]; simp), if_pos (by simpa using HLT.out)]
         ·have HLT := Lib.hid hlt
          have e1 : decide (d + ww < kk) = false := by simpa using hlt
          clear hlt
          go_wp2_with (first | (at_lookup; refine mapI_look rfl (.tmp 65) (.tmp 67) rfl w.heap.size (m + 1) (upd out a d) rfl HC6.out.map vn rfl (wf64 (by omega) (by omega)) ?_) | (go_at_call 140; refine (set_walk _ _ _ _ _ _ _ HC6.out.rep HC6.out.inv.ok vn (d + ww) heo.1 heo.2.1 HLQ.out).mono ?_; rintro e w7 ⟨rfl, lv4, hR7, hO7, hS7⟩; have HC7 := Lib.hid (HC6.out.setd hR7 hO7 (HC6.out.inv.putd heo.1 heo.2.1 HO.out (by omega) (by omega))); have HED7 := Lib.hid (HED6.out.only hO7 (fun k hk => HNE.out k hk)); have HNE7 := Lib.hid (fun k (hk : HS qb lv4 pv k) (f : (Value.slice (some ad) l.length c).ownBlock = some k) => HNE.out k (hS7 k (HED6.out.lt k f).2 hk) f); clear hR7 hO7 hS7))
          go_roundg (len - (i + 1))
          case measure => omega
          case rel =>
           refine ⟨i + 1, lv3, q3, by go_num, by omega, HC6, HED6, Lib.hid ?_, HNE⟩
           rw [← HRX.out, HDR.out, relax, fresh_key HO.out (k := kk) (by rw [HK.out]; simp), if_neg (by simpa using HLT.out)]
     ·have HIL : Hid (l.length ≤ i) := Lib.hid (by have := HLEN.out; omega)
      go_wp2_with fail
      go_roundg g
      case measure => omega
      case rel =>
       refine ⟨m + 1, m + 1, lv3, q3, upd out a d, by omega, rfl, Lib.hid (by have := HL2.out; have := HLF.out; omega), Lib.hid (by rw [← HBM.out]; exact HC4.out), Lib.hid ?_⟩
       have h1 := HRX.out
       rw [List.drop_of_length_le HIL.out] at h1
       have h2 := HE2.out
       rw [← h1] at h2
       exact h2
end Go.Proofs.YtfkejflmhidnaaaGreat.PAll
