import Derived.Test.YtfppfdejjifhdaaQPtA
import Derived.RangeFuncBox
import Derived.Maps.RangeWalk
namespace Go.Proofs.Ytfppfdejjifhdaa.PAll
open Go.RowKit Go.Proofs.YtfppfdejjifhdaaW.PrintWords Go.Proofs.YtfppfdejjifhdaaW.PrintLast Go.Proofs.YtfppfdejjifhdaaW.PrintMore
open Hp hiding Good
set_option linter.unusedVariables false
set_option linter.unusedSimpArgs false

/-! ### Near's own closure: is a place to be put in? -/
def mayB (q : Q) (dn : Int → Option Int) (wo most x d : Int) : Bool := decide (x ≠ wo) && wants q dn most x d
/-- Near's boxes: the heap's, the map's, the place that is left out, the length -/
structure NBox (W : World) (g hb db : Nat) (wo most : Int) : Prop where
  wo : Boxed W g 3 (.int .i64 wo)
  most : Boxed W (g + 1) 3 (.int .i64 most)
  h : Boxed W (g + 3) 72 (.pointer (some ⟨hb, 0, none⟩))
  d : Boxed W (g + 5) 47 (.map (some db))
set_option maxRecDepth 100000 in
set_option maxHeartbeats 4000000 in
theorem may1_walk (W : World) (ch cd cw cm hb db base n m : Nat) (lv pv : Value) (q : Q) (dn : Int → Option Int) (wo most : Int) (b1 : Boxed W cw 3 (.int .i64 wo)) (b2 : Boxed W cm 3 (.int .i64 most)) (b3 : Boxed W ch 72 (.pointer (some ⟨hb, 0, none⟩))) (b4 : Boxed W cd 47 (.map (some db)))
    (HR : HRep W base hb n lv pv q) (hok : Ok n q) (HM : MapI W db m dn) (hn : n ≤ 1000) (x d : Int) (x0 : 0 ≤ x) (x1 : x < n) :
    Calls Try.prog 29 #[.int .i64 x, .int .i64 d, .pointer (some ⟨ch, 0, none⟩), .pointer (some ⟨cd, 0, none⟩), .pointer (some ⟨cw, 0, none⟩), .pointer (some ⟨cm, 0, none⟩)] W fun r w' => r = .returned (.bool (mayB q dn wo most x d)) ∧ Drawn0 W w' := by
  have hwx : (Lit.int .i64 x).wf = true := wf64 (by omega) (by omega)
  have k0 := b1.cell
  have k1 := b2.cell
  have k2 := b3.cell
  have k3 := b4.cell
  have HMM := Lib.hid HM
  have HK : Hid (∃ (kk : Int) (kb : Bool), (Calls Try.prog 30 #[.pointer (some ⟨hb, 0, none⟩), .int .i64 x] W fun r w' => r = .returned (.tuple #[.int .i64 kk, .bool kb]) ∧ Drawn0 W w') ∧ lessB q x d = (!kb || decide (d < kk))) := Lib.hid (by
    cases hk : key q x with
    | none => exact ⟨0, false, (key_none W base hb n lv pv q HR x x0 x1 hk).mono (fun e w' ⟨h1, h2⟩ => ⟨h1, by subst h2; exact Drawn0.refl _⟩), by unfold lessB; rw [hk]; rfl⟩
    | some k => exact ⟨k, true, key_some W base hb n lv pv q HR hok x k x0 x1 hk, by unfold lessB; rw [hk]; simp⟩)
  obtain ⟨kk, kb, hcall, hless⟩ := HK.out
  have HC := Lib.hid hcall
  have hres : mayB q dn wo most x d = (decide (x ≠ wo) && (decide (d ≤ most) && (dn x).isNone && (!kb || decide (d < kk)))) := by unfold mayB wants; rw [hless]
  rw [hres]
  clear HR HM hcall hless hres HK b1 b2 b3 b4
  cases hd : dn x with
  | some z =>
    have e : (decide (x ≠ wo) && (decide (d ≤ most) && (some z).isNone && (!kb || decide (d < kk)))) = false := by simp
    rw [e]
    have HD := Lib.hid hd
    clear hd e
    by_cases hw : x = wo
    · have e0 : (x != wo) = false := by simpa using hw
      clear hw
      go_enter Try.func29, Try.ntmps29
      go_wp2_with (first | (go_at_call 30; with_reducible refine HC.out.mono ?_; rintro e w' ⟨rfl, ⟨⟨jj, rfl⟩⟩⟩) | (at_lookup; refine mapI_some rfl (.tmp 20) (.tmp 21) rfl db m dn rfl (HMM.out.only ((Only.refl W (fun _ => False)).drewN jj) (fun f => f)) x z rfl hwx HD.out ?_))
      go_ret
      exact ⟨rfl, by repeat (first | exact Drawn0.refl _ | apply Drawn0.step)⟩
    · have e0 : (x != wo) = true := by simpa using hw
      clear hw
      go_enter Try.func29, Try.ntmps29
      go_wp2_with (first | (go_at_call 30; with_reducible refine HC.out.mono ?_; rintro e w' ⟨rfl, ⟨⟨jj, rfl⟩⟩⟩) | (at_lookup; refine mapI_some rfl (.tmp 20) (.tmp 21) rfl db m dn rfl (HMM.out.only ((Only.refl W (fun _ => False)).drewN jj) (fun f => f)) x z rfl hwx HD.out ?_))
      go_ret
      exact ⟨rfl, by repeat (first | exact Drawn0.refl _ | apply Drawn0.step)⟩
  | none =>
    have HD := Lib.hid hd
    clear hd
    simp only [Option.isNone_none, Bool.and_true]
    by_cases hw : x = wo
    · have e0 : (x != wo) = false := by simpa using hw
      have e : decide (x ≠ wo) = false := by simpa using hw
      rw [e, Bool.false_and]
      clear hw e
      go_enter Try.func29, Try.ntmps29
      go_wp2_with (first | (go_at_call 30; with_reducible refine HC.out.mono ?_; rintro e w' ⟨rfl, ⟨⟨jj, rfl⟩⟩⟩) | (at_lookup; refine mapI_none rfl (.tmp 20) (.tmp 21) rfl db m dn rfl (HMM.out.only ((Only.refl W (fun _ => False)).drewN jj) (fun f => f)) x rfl hwx HD.out ?_))
      go_ret
      exact ⟨rfl, by repeat (first | exact Drawn0.refl _ | apply Drawn0.step)⟩
    · have e0 : (x != wo) = true := by simpa using hw
      have e : decide (x ≠ wo) = true := by simpa using hw
      rw [e, Bool.true_and]
      clear hw e
      by_cases hm : d ≤ most
      · have e1 : decide (d ≤ most) = true := by simpa using hm
        rw [e1, Bool.true_and]
        clear hm
        cases kb with
        | false =>
          go_enter Try.func29, Try.ntmps29
          go_wp2_with (first | (go_at_call 30; with_reducible refine HC.out.mono ?_; rintro e w' ⟨rfl, ⟨⟨jj, rfl⟩⟩⟩) | (at_lookup; refine mapI_none rfl (.tmp 20) (.tmp 21) rfl db m dn rfl (HMM.out.only ((Only.refl W (fun _ => False)).drewN jj) (fun f => f)) x rfl hwx HD.out ?_))
          go_ret
          exact ⟨rfl, by repeat (first | exact Drawn0.refl _ | apply Drawn0.step)⟩
        | true =>
          go_enter Try.func29, Try.ntmps29
          go_wp2_with (first | (go_at_call 30; with_reducible refine HC.out.mono ?_; rintro e w' ⟨rfl, ⟨⟨jj, rfl⟩⟩⟩) | (at_lookup; refine mapI_none rfl (.tmp 20) (.tmp 21) rfl db m dn rfl (HMM.out.only ((Only.refl W (fun _ => False)).drewN jj) (fun f => f)) x rfl hwx HD.out ?_))
          go_ret
          exact ⟨by simp, by repeat (first | exact Drawn0.refl _ | apply Drawn0.step)⟩
      · have e1 : decide (d ≤ most) = false := by simpa using hm
        rw [e1, Bool.false_and]
        clear hm
        go_enter Try.func29, Try.ntmps29
        go_wp2_with (first | (go_at_call 30; with_reducible refine HC.out.mono ?_; rintro e w' ⟨rfl, ⟨⟨jj, rfl⟩⟩⟩) | (at_lookup; refine mapI_none rfl (.tmp 20) (.tmp 21) rfl db m dn rfl (HMM.out.only ((Only.refl W (fun _ => False)).drewN jj) (fun f => f)) x rfl hwx HD.out ?_))
        go_ret
        exact ⟨rfl, by repeat (first | exact Drawn0.refl _ | apply Drawn0.step)⟩
end Go.Proofs.Ytfppfdejjifhdaa.PAll

namespace Go.Proofs.Ytfppfdejjifhdaa.PAll
open Go.RowKit Go.Proofs.YtfppfdejjifhdaaW.PrintWords Go.Proofs.YtfppfdejjifhdaaW.PrintLast Go.Proofs.YtfppfdejjifhdaaW.PrintMore
open Hp hiding Good
set_option linter.unusedVariables false
set_option linter.unusedSimpArgs false

/-! ### Near: what holds in memory while it searches -/
theorem HRep.typed {w : World} {B hb n : Nat} {lv pv : Value} {q : Q} (h : HRep w B hb n lv pv q) (k : Nat) (hk : HS hb lv pv k) : ∃ cs t, w.heap[k]? = some (.cells cs t (0, 0)) ∧ (t = 88 ∨ t = 90 ∨ t = 3) := by
  rcases hk with rfl | hk | hk
  · exact ⟨_, _, h.blk, .inl rfl⟩
  · obtain ⟨cs, e⟩ := own_typed h.l k hk
    exact ⟨_, _, e, .inr (.inl rfl)⟩
  · obtain ⟨cs, e⟩ := own_typed h.p k hk
    exact ⟨_, _, e, .inr (.inr rfl)⟩
structure NearR (w W : World) (gh gd hb db base n m : Nat) (wo most : Int) (lv pv : Value) (q : Q) (dn : Int → Option Int) : Prop where
  rep : HRep W base hb n lv pv q
  map : MapI W db m dn
  b0 : Boxed W w.heap.size 3 (.int .i64 wo)
  b1 : Boxed W (w.heap.size + 1) 3 (.int .i64 most)
  b2 : Boxed W gh 72 (.pointer (some ⟨hb, 0, none⟩))
  b3 : Boxed W gd 47 (.map (some db))
  below : Below w.heap.size w W
  base0 : w.heap.size + 2 ≤ base
  db0 : w.heap.size ≤ db
variable {w W W' : World} {gh gd hb db base n m : Nat} {wo most : Int} {lv lv' pv : Value} {q q' : Q} {dn : Int → Option Int}
theorem NearR.apart (h : NearR w W gh gd hb db base n m wo most lv pv q dn) : (∀ k, HS hb lv pv k → base ≤ k) ∧ ¬ HS hb lv pv gh ∧ ¬ HS hb lv pv gd ∧ ¬ HS hb lv pv db := by
  refine ⟨fun k hk => (h.rep.hs k hk).1, fun hk => ?_, fun hk => ?_, fun hk => ?_⟩
  · obtain ⟨cs, t, e, ht⟩ := h.rep.typed _ hk
    have e2 : W.heap[gh]? = _ := h.b2
    rw [e] at e2
    injection e2 with e2
    injection e2 with _ e2
    subst e2
    revert ht
    decide
  · obtain ⟨cs, t, e, ht⟩ := h.rep.typed _ hk
    have e2 : W.heap[gd]? = _ := h.b3
    rw [e] at e2
    injection e2 with e2
    injection e2 with _ e2
    subst e2
    revert ht
    decide
  · obtain ⟨cs, t, e, ht⟩ := h.rep.typed _ hk
    obtain ⟨es, clock, e2⟩ := h.map.ismap
    rw [e] at e2
    cases e2
/-- the heap has turned -/
theorem NearR.heap (h : NearR w W gh gd hb db base n m wo most lv pv q dn) (h' : HRep W' base hb n lv' pv q') (g : Only W W' (HS hb lv pv)) : NearR w W' gh gd hb db base n m wo most lv' pv q' dn := by
  obtain ⟨a1, a2, a3, a4⟩ := h.apart
  have a0 := h.base0
  refine ⟨h', h.map.only g a4, (g.block _ h.b0.lt (fun f => by have := a1 _ f; omega)).trans h.b0, (g.block _ h.b1.lt (fun f => by have := a1 _ f; omega)).trans h.b1, (g.block _ h.b2.lt a2).trans h.b2, (g.block _ h.b3.lt a3).trans h.b3,
    h.below.trans (g.below h.below.size (fun k hk => by have := a1 k hk; omega)), a0, h.db0⟩
/-- the iterator has turned -/
theorem NearR.turn {r : Nat} (h : NearR w W gh gd hb db base n m wo most lv pv q dn) (g : W.grownBy W' (some r)) (r0 : w.heap.size ≤ r) (hr : ∃ a b c d, W.heap[r]? = some (.mapIter a b c d)) : NearR w W' gh gd hb db base n m wo most lv pv q dn := by
  obtain ⟨ra, rb, rc, rd', er⟩ := hr
  have nc : ∀ k cs t, W.heap[k]? = some (.cells cs t (0, 0)) → some k ≠ some r := fun k cs t e f => by
    cases f
    rw [er] at e; cases e
  have nm : some db ≠ some r := fun f => by
    cases f
    obtain ⟨es, c, e⟩ := h.map.ismap
    rw [er] at e; cases e
  have o : Only W W' (fun k => some k = some r) := Only.of_grown g
  refine ⟨h.rep.only o (fun k hk f => ?_), h.map.only o nm, h.b0.kept g (nc _ _ _ h.b0), h.b1.kept g (nc _ _ _ h.b1), h.b2.kept g (nc _ _ _ h.b2), h.b3.kept g (nc _ _ _ h.b3), ?_, h.base0, h.db0⟩
  · obtain ⟨cs, t, e, _⟩ := h.rep.typed k hk
    exact nc k cs t e f
  · exact h.below.trans (o.below h.below.size (fun k hk => by cases hk; exact r0))
/-- a place is done -/
theorem NearR.put {m' : Nat} {dn' : Int → Option Int} (h : NearR w W gh gd hb db base n m wo most lv pv q dn) (hM : MapI W' db m' dn') (g : W.grownBy W' (some db)) : NearR w W' gh gd hb db base n m' wo most lv pv q dn' := by
  obtain ⟨a1, a2, a3, a4⟩ := h.apart
  have o : Only W W' (fun k => some k = some db) := Only.of_grown g
  obtain ⟨es, c, em⟩ := h.map.ismap
  have nc : ∀ k cs t, W.heap[k]? = some (.cells cs t (0, 0)) → some k ≠ some db := fun k cs t e f => by
    cases f
    rw [em] at e; cases e
  exact ⟨h.rep.only o (fun k hk f => a4 (by cases f; exact hk)), hM, h.b0.kept g (nc _ _ _ h.b0), h.b1.kept g (nc _ _ _ h.b1), h.b2.kept g (nc _ _ _ h.b2), h.b3.kept g (nc _ _ _ h.b3), h.below.trans (o.below h.below.size (fun k hk => by cases hk; exact h.db0)), h.base0, h.db0⟩
theorem NearR.still (h : NearR w W gh gd hb db base n m wo most lv pv q dn) (g : Below W.heap.size W W') : NearR w W' gh gd hb db base n m wo most lv pv q dn :=
  ⟨h.rep.only (Only.of_below g (fun _ => False)) (fun _ _ f => f), h.map.only (Only.of_below g (fun _ => False)) (fun f => f), (g.block _ h.b0.lt).trans h.b0, (g.block _ h.b1.lt).trans h.b1, (g.block _ h.b2.lt).trans h.b2, (g.block _ h.b3.lt).trans h.b3, h.below.trans (g.mono h.below.size), h.base0, h.db0⟩

/-! ### the walk over the ways of a place -/
theorem ranges_only {b r K : Nat} {D : DataW Value} {left : Lit → Bool} {cnt : Nat} {S : Nat → Prop} (h : W.ranges Try.prog 3 anyElem b r K D left cnt) (g : Only W W' S) (hb' : ¬ S b) (hr' : ¬ S r) : W'.ranges Try.prog 3 anyElem b r K D left cnt := by
  obtain ⟨es, clock, since, seen, c0, h1, h2, h3, h4, h5, h6⟩ := h
  exact ⟨es, clock, since, seen, c0, (g.block b (Array.getElem?_eq_some_iff.1 h1).1 hb').trans h1, h2, h3, h4, (g.block r (Array.getElem?_eq_some_iff.1 h5).1 hr').trans h5, h6⟩
theorem ranges_iter {b r K : Nat} {D : DataW Value} {left : Lit → Bool} {cnt : Nat} (h : W.ranges Try.prog 3 anyElem b r K D left cnt) : (∃ a b c d, W.heap[r]? = some (.mapIter a b c d)) ∧ ∃ es c, W.heap[b]? = some (.map es c) := by
  obtain ⟨es, clock, since, seen, c0, h1, h2, h3, h4, h5, h6⟩ := h
  exact ⟨⟨_, _, _, _, h5⟩, ⟨_, _, h1⟩⟩
/-- the heap does not touch what is walked over -/
theorem ranges_heap {b r K : Nat} {D : DataW Value} {left : Lit → Bool} {cnt : Nat} (h : W.ranges Try.prog 3 anyElem b r K D left cnt) (hR : HRep W base hb n lv pv q) (g : Only W W' (HS hb lv pv)) : W'.ranges Try.prog 3 anyElem b r K D left cnt := by
  obtain ⟨⟨_, _, _, _, e1⟩, _, _, e2⟩ := ranges_iter h
  refine ranges_only h g (fun hk => ?_) (fun hk => ?_)
  · obtain ⟨cs, t, e, _⟩ := hR.typed _ hk
    rw [e2] at e; cases e
  · obtain ⟨cs, t, e, _⟩ := hR.typed _ hk
    rw [e1] at e; cases e
/-- what is still to come, as the search tells it -/
def toCome (c : Int) (left : Lit → Bool) : Int → Int → Prop := fun a b => a = c ∧ left (.int .i64 b) = true
/-- what a walk over a map by numbers yields -/
structure DF (D : DataW Value) (f : Int → Option Value) : Prop where
  has : ∀ x : Int, Maps.has D (.int .i64 x) = (f x).isSome
  at' : ∀ x z, D.atKey (.int .i64 x) z = match f x with
      | some y => .held y
      | none => z
theorem sameKey_int (a b : Int) : (Lit.int .i64 a).sameKey (.int .i64 b) = decide (a = b) := by
  simp [Lit.sameKey]
theorem next_way {D : DataW Value} {f : Int → Option WayP} {left : Lit → Bool} {x : Int} {c : Value} {kl : Lit} {y' : DataW Value × List MemPlace} (hD : DF D (waysV f)) (hkey : keyOf Try.prog 3 (.int .i64 x) = some kl) (hl : left kl = true) (hlh : ∀ z, left z = true → Maps.has D z = true) (hR : anyElem c = some y')
    (hat : ∀ zd, D.atKey kl zd = y'.1) : kl = .int .i64 x ∧ (Lit.int .i64 x).wf = true ∧ ∃ yy, f x = some yy ∧ c = wayV yy := by
  obtain ⟨x', e1, rfl, hw⟩ := Maps.keyOf_int_inv Try.underlying3 hkey
  cases e1
  refine ⟨rfl, hw, ?_⟩
  have h1 := hlh _ hl
  rw [hD.has, waysV_is] at h1
  obtain ⟨yy, hy⟩ := Option.isSome_iff_exists.1 h1
  refine ⟨yy, hy, ?_⟩
  have h2 := hat .nil
  rw [hD.at'] at h2
  unfold anyElem at hR
  simp only [Option.some.injEq] at hR
  subst hR
  simp [waysV, hy] at h2
  exact h2.symm
/-- one way of the place that was taken out last -/
theorem NI.entry {n : Nat} {wm : Int} {F : Int → Int → Option WayP} {u wo most a d : Int} {left : Lit → Bool} {q : Q} {dn : Int → Option Int} (hF : LOk n wm F) (hd : dn a = some d) (hmx : ∀ x d', dn x = some d' → d' ≤ d) (h : NI n (edgeL F wo) u wo most (toCome a left) q dn) {x : Int} {yy : WayP} (hx : F a x = some yy) :
    NI n (edgeL F wo) u wo most (toCome a (fun z => left z && !z.sameKey (.int .i64 x))) (if mayB q dn wo most x (d + yy.w) = true then put q x (d + yy.w) else q) dn := by
  by_cases hw : x = wo
  · have e : mayB q dn wo most x (d + yy.w) = false := by unfold mayB; simp [hw]
    rw [e, if_neg (by decide)]
    refine h.weak (fun p b w ⟨hb, _⟩ ⟨h1, h2⟩ => ⟨h1, ?_⟩)
    show (left (.int .i64 b) && !(Lit.int .i64 b).sameKey (.int .i64 x)) = true
    rw [sameKey_int, h2, decide_eq_false (by omega)]
    rfl
  · have e : mayB q dn wo most x (d + yy.w) = wants q dn most x (d + yy.w) := by unfold mayB; simp [hw]
    rw [e]
    refine h.step (hF.eok wo) hd hmx (g := ⟨hw, yy, hx, rfl⟩) (fun p b ⟨h1, h2⟩ => ?_)
    by_cases hb : b = x
    · exact .inr ⟨h1, hb⟩
    · left
      refine ⟨h1, ?_⟩
      show (left (.int .i64 b) && !(Lit.int .i64 b).sameKey (.int .i64 x)) = true
      rw [sameKey_int, h2, decide_eq_false hb]
      rfl
/-- the answer to a question -/
def NPost (P : Prop) (r : Ending) : Prop := ∃ b, r = .returned (.bool b) ∧ (b = true ↔ P)
theorem NPost.yes {P : Prop} (h : P) : NPost P (.returned (.bool true)) := ⟨true, rfl, fun _ => h, fun _ => rfl⟩
theorem NPost.no {P : Prop} (h : ¬ P) : NPost P (.returned (.bool false)) := ⟨false, rfl, fun f => (by cases f), fun f => absurd f h⟩
/-- the search's state, whatever the length at most -/
def NRel (n : Nat) (E : Int → Int → Int → Prop) (u wo most : Int) (q : Q) (dn : Int → Option Int) : Prop := (0 ≤ most ∧ NI n E u wo most (fun _ _ => False) q dn) ∨ (most < 0 ∧ q.l = [])
theorem NRel.none {n : Nat} {E : Int → Int → Int → Prop} {u v wo most : Int} {q : Q} {dn : Int → Option Int} (hE : EOk n wo E) (h : NRel n E u wo most q dn) (u0 : 0 ≤ u) (u1 : u < n) (hq : q.l = []) (hv : dn v = none) : ¬ nearP E u v most := by
  rintro ⟨d, hd, hw⟩
  rcases h with ⟨h0, h⟩ | ⟨h0, _⟩
  · obtain ⟨d', e, _⟩ := h.done hE u0 u1 hq hw hd
    rw [hv] at e; cases e
  · have := hw.nonneg (fun a b w g => (hE.ends a b w g).2.2.2.2.2)
    omega
theorem NRel.some {n : Nat} {E : Int → Int → Int → Prop} {u wo most : Int} {q : Q} {dn : Int → Option Int} (h : NRel n E u wo most q dn) (hq : 0 < q.l.length) : 0 ≤ most ∧ NI n E u wo most (fun _ _ => False) q dn := by
  rcases h with h | ⟨_, h⟩
  · exact h
  · rw [h] at hq; simp at hq
end Go.Proofs.Ytfppfdejjifhdaa.PAll

namespace Go.Proofs.Ytfppfdejjifhdaa.PAll
open Go.RowKit Go.Proofs.YtfppfdejjifhdaaW.PrintWords Go.Proofs.YtfppfdejjifhdaaW.PrintLast Go.Proofs.YtfppfdejjifhdaaW.PrintMore
open Hp hiding Good
set_option linter.unusedVariables false
set_option linter.unusedSimpArgs false

set_option maxRecDepth 100000 in
set_option maxHeartbeats 8000000 in
/-- (*Left).Near -/
theorem near_walk (w : World) (lb n K : Nat) (F : Int → Int → Option WayP) (B : Nat → Nat) (H : LRep w lb n K F B) (hn : n ≤ 900) (wm : Int) (hF : LOk n wm F) (hwm : wm ≤ 1125899906842624) (u v : Nat) (hu : u < n) (hv : v < n) (wo most : Int) (huw : (u : Int) ≠ wo) (hvw : (v : Int) ≠ wo) (hm0 : -1000000 ≤ most) (hm1 : most ≤ 1000000) :
    Calls Try.prog 9 #[.pointer (some ⟨lb, 0, none⟩), .int .i64 u, .int .i64 v, .int .i64 wo, .int .i64 most] w fun r w' => NPost (nearP (edgeL F wo) u v most) r ∧ Below w.heap.size w w' := by
  have hwu : (Lit.int .i64 (u : Int)).wf = true := wf64 (by omega) (by omega)
  have hwv : (Lit.int .i64 (v : Int)).wf = true := wf64 (by omega) (by omega)
  have HE := Lib.hid (hF.eok wo)
  have HF := Lib.hid hF
  have HL := Lib.hid H
  have g1 : Below w.heap.size w ((w.alloc (.cells #[.int .i64 wo] 3)).alloc (.cells #[.int .i64 most] 3)) := ((Below.refl _ w).alloc (Nat.le_refl _) _).alloc (by simp) _
  have b0 : Boxed ((w.alloc (.cells #[.int .i64 wo] 3)).alloc (.cells #[.int .i64 most] 3)) w.heap.size 3 (.int .i64 wo) := (Boxed.new w 3 _).alloc _
  have b1 : Boxed ((w.alloc (.cells #[.int .i64 wo] 3)).alloc (.cells #[.int .i64 most] 3)) (w.heap.size + 1) 3 (.int .i64 most) := by
    have := Boxed.new (w.alloc (.cells #[.int .i64 wo] 3)) 3 (.int .i64 most)
    simpa only [World.size_alloc] using this
  have hs1 : ((w.alloc (.cells #[.int .i64 wo] 3)).alloc (.cells #[.int .i64 most] 3)).heap.size = w.heap.size + 2 := by simp
  have HL1 := Lib.hid (H.below g1)
  have HG1 := Lib.hid g1
  have HB0 := Lib.hid b0
  have HB1 := Lib.hid b1
  have HS1 := Lib.hid hs1
  have e0 : ((u : Int) == wo) = false := by simpa using huw
  have e1 : ((v : Int) == wo) = false := by simpa using hvw
  have d0 : decide (0 ≤ (u : Int) ∧ (u : Int) < n) = true := by simp; omega
  have d1 : decide (0 ≤ (v : Int) ∧ (v : Int) < n) = true := by simp; omega
  clear H hF g1 b0 b1 hs1
  have hmm := @run_makeMap Try.prog
  go_enter Try.func9, Try.ntmps9
  go_wp2_with fail
  go_step3
  generalize (w.alloc (.cells #[.int .i64 wo] 3)).alloc (.cells #[.int .i64 most] 3) = W1 at *
  have HU := Lib.hid (is_walk W1 lb n K F B HL1.out u hwu)
  have HV := Lib.hid (is_walk W1 lb n K F B HL1.out v hwv)
  rw [d0] at HU
  rw [d1] at HV
  have k0 := HB0.out.cell
  have k1 := HB1.out.cell
  obtain ⟨c0, c1, c2, c3, cl⟩ := HL1.out.cells
  clear d0 d1
  go_wp2_with (first | (go_at_call 27; first | (with_reducible refine HU.out.mono ?_; rintro e w' ⟨rfl, rfl⟩) | (with_reducible refine HV.out.mono ?_; rintro e w' ⟨rfl, rfl⟩)))
  refine (new_walk W1 n (by omega)).mono ?_
  rintro e W2 ⟨hb, pv, rfl, hq1, hR1, hG2⟩
  clear k0 k1 c0 c1 c2 c3 cl HU HV
  go_upto_region 6 with fail
  have HN4 : Hid (NearR w (((W2.alloc (Obj.cells #[Value.pointer (some { block := hb, off := 0 })] 72)).alloc (Obj.map #[] 0)).alloc (Obj.cells #[Value.map (some (W2.heap.size + 1))] 47)) W2.heap.size (W2.heap.size + 1 + 1) hb (W2.heap.size + 1) W1.heap.size n 0 wo most (.slice none 0 0) pv ⟨[], List.replicate n 0⟩ (fun _ => none)) := Lib.hid (by
    have hsz := hG2.size
    have hs1 := HS1.out
    have hB : Below W2.heap.size W2 (((W2.alloc (Obj.cells #[Value.pointer (some { block := hb, off := 0 })] 72)).alloc (Obj.map #[] 0)).alloc (Obj.cells #[Value.map (some (W2.heap.size + 1))] 47)) := (((Below.refl _ W2).alloc (Nat.le_refl _) _).alloc (by simp) _).alloc (by simp; omega) _
    refine ⟨hR1.only (Only.of_below hB (fun _ => False)) (fun _ _ f => f), ?_, (hB.block _ (by omega)).trans ((hG2.block _ HB0.out.lt).trans HB0.out), (hB.block _ (by omega)).trans ((hG2.block _ HB1.out.lt).trans HB1.out), ((Boxed.new W2 72 _).alloc _).alloc _, ?_, (HG1.out.trans (hG2.mono (by omega))).trans (hB.mono (by omega)), by omega, by omega⟩
    · have := MapI.made (W2.alloc (Obj.cells #[Value.pointer (some { block := hb, off := 0 })] 72))
      rw [World.size_alloc] at this
      exact this.only ((Only.refl _ (fun _ => False)).alloc _) (fun f => f)
    · have := Boxed.new ((W2.alloc (Obj.cells #[Value.pointer (some { block := hb, off := 0 })] 72)).alloc (Obj.map #[] 0)) 47 (Value.map (some (W2.heap.size + 1)))
      simpa only [World.size_alloc] using this)
  clear hR1 hG2 hq1
  generalize (((W2.alloc (Obj.cells #[Value.pointer (some { block := hb, off := 0 })] 72)).alloc (Obj.map #[] 0)).alloc (Obj.cells #[Value.map (some (W2.heap.size + 1))] 47)) = W4 at *
  generalize W2.heap.size = gh at *
  generalize hbase : W1.heap.size = base at *
  generalize hg : w.heap.size = g at *
  have HBE := Lib.hid hbase
  have HGE := Lib.hid hg
  clear hbase hg
  have hmay : mayB ⟨[], List.replicate n 0⟩ (fun _ => none) wo most u 0 = decide (0 ≤ most) := by
    unfold mayB wants lessB
    rw [empty_key]
    simp [huw]
  have HMAY := Lib.hid (may1_walk W4 gh (gh + 1 + 1) g (g + 1) hb (gh + 1) base n 0 (.slice none 0 0) pv ⟨[], List.replicate n 0⟩ (fun _ => none) wo most (by rw [← HGE.out]; exact HN4.out.b0) (by rw [← HGE.out]; exact HN4.out.b1) HN4.out.b2 HN4.out.b3 HN4.out.rep (empty_ok n) HN4.out.map (by omega) u 0 (by omega) (by omega))
  rw [hmay] at HMAY
  obtain ⟨mb, hmb⟩ : ∃ mb, decide (0 ≤ most) = mb := ⟨_, rfl⟩
  rw [hmb] at HMAY
  have HMB := Lib.hid hmb
  clear hmay hmb
  go_upto_if 48 with (go_at_call 29; refine HMAY.out.mono ?_; rintro e w5 ⟨rfl, ⟨⟨jj, rfl⟩⟩⟩)
  have HN5 : Hid (NearR w (W4.drewN jj) gh (gh + 1 + 1) hb (gh + 1) base n 0 wo most (.slice none 0 0) pv ⟨[], List.replicate n 0⟩ (fun _ => none)) := Lib.hid (HN4.out.still (Only.below ((Only.refl W4 (fun _ => False)).drewN jj) (Nat.le_refl _) (fun _ f => f.elim)))
  clear HN4 HMAY
  generalize W4.drewN jj = W5 at *
  go_cut [] from 49 to 51 (fun wc => ∃ (lv : Value) (q : Q), Hid (NearR w wc gh (gh + 1 + 1) hb (gh + 1) base n 0 wo most lv pv q (fun _ => none)) ∧ Hid (NRel n (edgeL F wo) u wo most q (fun _ => none)))
  case first =>
    have k2 := HN5.out.b2.cell
    cases mb with
    | false =>
      go_wp2_with fail
      go_meet
      exact ⟨_, _, HN5, Lib.hid (.inr ⟨by have := HMB.out; simp at this; omega, rfl⟩)⟩
    | true =>
      have hmo : 0 ≤ most := by have := HMB.out; simpa using this
      have HSET := Lib.hid (set_walk W5 base hb n (.slice none 0 0) pv ⟨[], List.replicate n 0⟩ HN5.out.rep (empty_ok n) u 0 (by omega) (by omega) (by simp))
      go_wp2_with (go_at_call 31; refine HSET.out.mono ?_; rintro e W6 ⟨rfl, lv6, hR6, hO6, _⟩)
      go_meet
      exact ⟨lv6, _, Lib.hid (HN5.out.heap hR6 hO6), Lib.hid (.inl ⟨hmo, NI.start (by omega) (by omega) huw hmo⟩)⟩
  case rest =>
    obtain ⟨lv0, q0, HN0, HR0⟩ := hcut
    clear HN5
    go_wp2_with fail
    go_step3
    go_wp2_with fail
    go_loopg [] (n + 1) (fun gk wr => ∃ (m : Nat) (lv : Value) (q : Q) (dn : Int → Option Int), gk + m = n + 1 ∧ Hid (left n dn < gk) ∧ Hid (dn v = none) ∧ Hid (NearR w wr gh (gh + 1 + 1) hb (gh + 1) base n m wo most lv pv q dn) ∧ Hid (NRel n (edgeL F wo) u wo most q dn))
    case atStart => exact ⟨0, lv0, q0, _, by omega, Lib.hid (by rw [left_none]; omega), Lib.hid rfl, HN0, HR0⟩
    case round =>
      obtain ⟨m, lv1, q, dn, hgk, HLF, HV0, HN1, HR1⟩ := hrel
      clear HN0 HR0
      obtain ⟨gz, rfl⟩ : ∃ gz, gk = gz + 1 := ⟨gk - 1, by have := HLF.out; omega⟩
      have k2 := HN1.out.b2.cell
      by_cases hq : q.l = []
      · have HP := Lib.hid (pop_none wr base hb n lv1 pv q HN1.out.rep hq)
        have HNO := Lib.hid (HR1.out.none (v := v) HE.out (by omega) (by omega) hq HV0.out)
        clear hq
        go_wp2_with (first | (go_at_call 32; refine HP.out.mono ?_; rintro e w' ⟨rfl, rfl⟩))
        (try rw [Exit.noGoto_ret])
        go_ret
        exact ⟨NPost.no HNO.out, HN1.out.below⟩
      · have hq0 : 0 < q.l.length := by
          cases hl : q.l with
          | nil => exact absurd hl hq
          | cons _ _ => simp
        obtain ⟨hmo, hNI⟩ := HR1.out.some hq0
        obtain ⟨x0, x1, hkk, hpl, _⟩ := hNI.first hq0
        obtain ⟨hdnx, hxwo, hk0, hk1, hwk⟩ := hNI.keys _ _ x0 x1 hkk
        have HPI := Lib.hid (hNI.pop HE.out hq0)
        have HP := Lib.hid (pop_some wr base hb n lv1 pv q HN1.out.rep hNI.ok hq0)
        have HLU := Lib.hid (fun (an : Nat) (e : (nth q.l 0).id = an) => left_upd (n := n) (out := dn) (x := an) (nth q.l 0).key (by omega) (by rw [← e]; exact hdnx))
        obtain ⟨a, ha⟩ := Int.eq_ofNat_of_zero_le x0
        have han : a < n := by omega
        have HWK := Lib.hid hwk
        have HX := Lib.hid hxwo
        have HL2 := Lib.hid (HLU.out a ha)
        rw [ha] at HWK HPI HP
        generalize (nth q.l 0).key = d at *
        clear hq hq0 hNI hkk hpl hdnx hxwo hwk x0 x1 ha HLU HR1
        by_cases hav : (a : Int) = (v : Int)
        · have e2 : ((a : Int) == (v : Int)) = true := by simpa using hav
          have HY : Hid (nearP (edgeL F wo) u v most) := Lib.hid ⟨d, hk1, by rw [← hav]; exact HWK.out⟩
          clear hav HWK HPI
          go_wp2_with (first | (go_at_call 32; refine HP.out.mono ?_; rintro e w7 ⟨rfl, lv2, hR2, hO2, _⟩))
          (try rw [Exit.noGoto_ret])
          go_ret
          exact ⟨NPost.yes HY.out, (HN1.out.heap hR2 hO2).below⟩
        · have e2 : ((a : Int) == (v : Int)) = false := by simpa using hav
          have e3 : decide (most < 0) = false := by simpa using hmo
          have hwa : (Lit.int .i64 (a : Int)).wf = true := wf64 (by omega) (by omega)
          have hwd : (Lit.int .i64 d).wf = true := wf64 (by omega) (by omega)
          have HAV := Lib.hid hav
          have hmax : m < maxLen := by simp only [maxLen]; omega
          clear hav HWK
          go_upto_region 12 with (first | (go_at_call 32; refine HP.out.mono ?_; rintro e w7 ⟨rfl, lv2, hR2, hO2, _⟩; have HN7 := Lib.hid (HN1.out.heap hR2 hO2); have k3 := HN7.out.b3.cell; clear hR2 hO2) | (at_mapUpdate; refine mapI_put rfl (.tmp 66) (.tmp 67) (.tmp 68) rfl (gh + 1) m dn rfl HN7.out.map hmax a d rfl rfl hwa hwd ?_; intro w8 hM hg8))
          have HN8 := Lib.hid (HN7.out.put hM hg8)
          have HL8 := Lib.hid (HL.out.below HN8.out.below)
          have HDV : Hid (upd dn a d v = none) := Lib.hid (by
            unfold upd
            rw [if_neg (fun e => HAV.out e.symm)]
            exact HV0.out)
          have HDA : Hid (upd dn a d a = some d) := Lib.hid (by unfold upd; rw [if_pos rfl])
          clear k2 k3 hM hg8 HN7 HN1 HV0 HP
          have k1 := HN8.out.b1.cell
          rw [HGE.out] at k1
          obtain ⟨c0, _, _, _, cl⟩ := HL8.out.cells
          have hl := HL8.out.out.look Try.underlying46 (zero51 w8) a hwa
          rw [rowsV_at han] at hl
          simp only [Option.getD_some] at hl
          obtain ⟨D, hown, _, hD⟩ := HL8.out.outs a han
          have HDF : Hid (DF D (waysV fun x => F a x)) := Lib.hid ⟨fun x => (hD x).1, fun x => (hD x).2⟩
          have HOW := Lib.hid hown
          clear hD hown
          generalize hbx : B (4 + 2 * a) = bx at *
          have HBX := Lib.hid hbx
          clear hbx
          go_wp2_with (at_range; refine wpList_range_own _ rfl _ 51 rfl 3 37 key3 Try.underlying51 anyElem bx K D rfl HOW.out ?_; intro w9 hrg0 hg0 hs0)
          go_frame
          have hB9 : Below w8.heap.size w8 w9 := (Only.of_grown hg0).below (Nat.le_refl _) (fun k hk => by cases hk)
          have HN9 := Lib.hid (HN8.out.still hB9)
          have HNI9 : Hid (NI n (edgeL F wo) u wo most (toCome a (Maps.has D)) (drop q a) (upd dn a d)) := Lib.hid (HPI.out.1.weak (fun p b ww ⟨_, yy, hy, _⟩ e => ⟨e, by
            subst e
            rw [HDF.out.has, waysV_is, hy]; rfl⟩))
          have HMX : Hid (∀ x d', upd dn a d x = some d' → d' ≤ d) := Lib.hid HPI.out.2
          have HRG0 := Lib.hid hrg0
          have hr0 : w.heap.size ≤ w8.heap.size := HN8.out.below.size
          rw [HGE.out] at hr0
          generalize w8.heap.size = r at *
          clear hrg0 hg0 hs0 hB9 k1 c0 cl hl HN8 HPI HOW HL8
          go_loopw [17] (fun _ wr2 => ∃ (left : Lit → Bool) (cnt : Nat) (lv3 : Value) (q3 : Q), Hid (wr2.ranges Try.prog 3 anyElem bx r K D left cnt) ∧ Hid (∀ z, left z = true → Maps.has D z = true) ∧ Hid (NearR w wr2 gh (gh + 1 + 1) hb (gh + 1) base n (m + 1) wo most lv3 pv q3 (upd dn a d)) ∧ Hid (NI n (edgeL F wo) u wo most (toCome a left) q3 (upd dn a d)))
            (fun _ wr2 => wr2.rangeLeft bx r)
          case atStart => exact ⟨_, _, lv2, _, HRG0, Lib.hid (fun z hz => hz), HN9, HNI9⟩
          case round =>
            obtain ⟨left, cnt, lv3, q3, HRG, HLH, HN3, HNI3⟩ := hrel
            clear HN9 HNI9 HRG0
            go_wp2_with (at_next; refine wpList_next_ranges _ rfl _ rfl 3 key3 anyElem (Value.int .i64) (fun c : Value => c) (fun key kl h => by obtain ⟨x, rfl, _⟩ := Maps.keyOf_int_inv Try.underlying3 h; exact ⟨x, rfl⟩) (fun v y h => ⟨v, rfl⟩) bx r K D left cnt rfl HRG.out ?_ ?_)
            · intro hc0 hl0
              have HFIN := Lib.hid (HNI3.out.weak (T' := fun _ _ => False) (fun p b ww _ ⟨_, e⟩ => by rw [hl0] at e; cases e))
              clear hl0
              go_wp2_with fail
              go_roundg gz
              case measure => omega
              case rel => exact ⟨m + 1, lv3, q3, _, by omega, Lib.hid (by have := HL2.out; have := HLF.out; omega), HDV, HN3, Lib.hid (.inl ⟨hmo, HFIN.out⟩)⟩
            · intro x c kl y1 y2 w1 cnt1 hkey hlk hRR hat hrg1 hlt hg1 hs1 hen
              obtain ⟨rfl, hwx, yy, hyy, rfl⟩ := next_way HDF.out hkey hlk HLH.out hRR hat
              obtain ⟨_, _, x0, x1, _, hy0, hy1⟩ := HF.out.ends a x yy hyy
              have HOK3 := Lib.hid HNI3.out.ok
              have HNE := Lib.hid (NI.entry (wo := wo) HF.out HDA.out HMX.out HNI3.out hyy)
              have HNR1 := Lib.hid (HN3.out.turn hg1 (by rw [HGE.out]; exact hr0) (ranges_iter HRG.out).1)
              have HLH1 : Hid (∀ z, (left z && !z.sameKey (.int .i64 x)) = true → Maps.has D z = true) := Lib.hid (fun z hz => HLH.out z (by rw [Bool.and_eq_true] at hz; exact hz.1))
              obtain ⟨yw, ym, ya⟩ := yy
              simp only [wayV] at hen
              simp only at hy0 hy1 HNE
              have HRG1 := Lib.hid (hrg1.alloc (.cells #[.int .i64 yw, .int .i64 ym, .int .i64 ya] 37))
              have HLT : Hid (cnt1 < cnt) := Lib.hid hlt
              have hB10 : Below w1.heap.size w1 (w1.alloc (.cells #[.int .i64 yw, .int .i64 ym, .int .i64 ya] 37)) := (Below.refl _ _).alloc (Nat.le_refl _) _
              have HNR2 := Lib.hid (HNR1.out.still hB10)
              have HZ := Lib.hid (blk_new w1 (.cells #[.int .i64 yw, .int .i64 ym, .int .i64 ya] 37))
              clear hkey hlk hRR hat hrg1 hlt hg1 hs1 hyy HNI3 HLH HN3 HNR1 hB10
              go_upto_region 16 with fail
              clear hen
              generalize w1.alloc (.cells #[.int .i64 yw, .int .i64 ym, .int .i64 ya] 37) = w2 at *
              generalize w1.heap.size = z at *
              have z0 := (blk_cell HZ.out 0).trans rfl
              have k1 := HNR2.out.b1.cell
              have k2 := HNR2.out.b2.cell
              rw [HGE.out] at k1
              have hws : IntKind.i64.wrap (most - d) = most - d := i64w (by omega) (by omega) (by omega)
              have HMAY := Lib.hid (may1_walk w2 gh (gh + 1 + 1) g (g + 1) hb (gh + 1) base n (m + 1) lv3 pv q3 (upd dn a d) wo most (by rw [← HGE.out]; exact HNR2.out.b0) (by rw [← HGE.out]; exact HNR2.out.b1) HNR2.out.b2 HNR2.out.b3 HNR2.out.rep HOK3.out HNR2.out.map (by omega) x (d + yw) x0 x1)
              by_cases hle : yw ≤ most - d
              · have e4 : decide (yw ≤ most - d) = true := by simpa using hle
                have hwd2 : IntKind.i64.wrap (d + yw) = d + yw := i64w (by omega) (by omega) (by omega)
                clear hle
                generalize hbb : mayB q3 (upd dn a d) wo most x (d + yw) = bb at *
                have HQ9 : q3.l.length + 1 ≤ 1000 := by have := HOK3.out.good.len_le; omega
                have HSET := Lib.hid (fun jj => set_walk (w2.drewN jj) base hb n lv3 pv q3 (HNR2.out.rep.only ((Only.refl w2 (fun _ => False)).drewN jj) (fun _ _ f => f)) HOK3.out x (d + yw) x0 x1 HQ9)
                have HST := Lib.hid (fun jj => HNR2.out.still (W' := w2.drewN jj) (Only.below ((Only.refl w2 (fun _ => False)).drewN jj) (Nat.le_refl _) (fun _ f => f.elim)))
                have HRJ := Lib.hid (fun jj => ranges_only (W' := w2.drewN jj) HRG1.out ((Only.refl w2 (fun _ => False)).drewN jj) (fun f => f) (fun f => f))
                clear hbb HQ9 HNR2 HOK3
                cases bb with
                | false =>
                  rw [if_neg (by decide)] at HNE
                  go_wp2_with (first | (go_at_call 29; refine HMAY.out.mono ?_; rintro e w3 ⟨rfl, ⟨⟨jj, rfl⟩⟩⟩))
                  go_roundw
                  case measure => rw [(HRJ.out jj).left_eq, HRG.out.left_eq]; exact HLT.out
                  case rel => exact ⟨_, cnt1, lv3, q3, Lib.hid (HRJ.out jj), HLH1, Lib.hid (HST.out jj), HNE⟩
                | true =>
                  rw [if_pos rfl] at HNE
                  go_wp2_with (first | (go_at_call 29; refine HMAY.out.mono ?_; rintro e w3 ⟨rfl, ⟨⟨jj, rfl⟩⟩⟩) | (go_at_call 31; refine (HSET.out jj).mono ?_; rintro e w4 ⟨rfl, lv4, hR4, hO4, _⟩))
                  have HRJ4 := Lib.hid (ranges_heap (HRJ.out jj) (HST.out jj).rep hO4)
                  have HN4' := Lib.hid ((HST.out jj).heap hR4 hO4)
                  clear hR4 hO4
                  go_roundw
                  case measure => rw [HRJ4.out.left_eq, HRG.out.left_eq]; exact HLT.out
                  case rel => exact ⟨_, cnt1, lv4, _, HRJ4, HLH1, HN4', HNE⟩
              · have e4 : decide (yw ≤ most - d) = false := by simpa using hle
                have hno : mayB q3 (upd dn a d) wo most x (d + yw) = false := by
                  unfold mayB wants
                  rw [decide_eq_false (show ¬ (d + yw ≤ most) by omega)]
                  simp
                rw [hno, if_neg (by decide)] at HNE
                clear hle hno HMAY HOK3
                go_wp2_with fail
                go_roundw
                case measure => rw [HRG1.out.left_eq, HRG.out.left_eq]; exact HLT.out
                case rel => exact ⟨_, cnt1, lv3, q3, HRG1, HLH1, HNR2, HNE⟩
end Go.Proofs.Ytfppfdejjifhdaa.PAll

namespace Go.Proofs.Ytfppfdejjifhdaa.PAll
open Go.RowKit Go.Proofs.YtfppfdejjifhdaaW.PrintWords Go.Proofs.YtfppfdejjifhdaaW.PrintLast Go.Proofs.YtfppfdejjifhdaaW.PrintMore
open Hp hiding Good
set_option linter.unusedVariables false
set_option linter.unusedSimpArgs false

set_option maxRecDepth 100000 in
set_option maxHeartbeats 8000000 in
/-- (*Left).Near -/
theorem near_wo_walk (w : World) (lb n K : Nat) (F : Int → Int → Option WayP) (B : Nat → Nat) (H : LRep w lb n K F B) (hn : n ≤ 900) (u v : Nat) (hu : u < n) (hv : v < n) (wo most : Int) (huw : (u : Int) = wo) (hm0 : -1000000 ≤ most) (hm1 : most ≤ 1000000) :
    Calls Try.prog 9 #[.pointer (some ⟨lb, 0, none⟩), .int .i64 u, .int .i64 v, .int .i64 wo, .int .i64 most] w fun r w' => r = .returned (.bool false) ∧ Below w.heap.size w w' := by
  have hwu : (Lit.int .i64 (u : Int)).wf = true := wf64 (by omega) (by omega)
  have hwv : (Lit.int .i64 (v : Int)).wf = true := wf64 (by omega) (by omega)
  have HL := Lib.hid H
  have g1 : Below w.heap.size w ((w.alloc (.cells #[.int .i64 wo] 3)).alloc (.cells #[.int .i64 most] 3)) := ((Below.refl _ w).alloc (Nat.le_refl _) _).alloc (by simp) _
  have b0 : Boxed ((w.alloc (.cells #[.int .i64 wo] 3)).alloc (.cells #[.int .i64 most] 3)) w.heap.size 3 (.int .i64 wo) := (Boxed.new w 3 _).alloc _
  have b1 : Boxed ((w.alloc (.cells #[.int .i64 wo] 3)).alloc (.cells #[.int .i64 most] 3)) (w.heap.size + 1) 3 (.int .i64 most) := by
    have := Boxed.new (w.alloc (.cells #[.int .i64 wo] 3)) 3 (.int .i64 most)
    simpa only [World.size_alloc] using this
  have hs1 : ((w.alloc (.cells #[.int .i64 wo] 3)).alloc (.cells #[.int .i64 most] 3)).heap.size = w.heap.size + 2 := by simp
  have HL1 := Lib.hid (H.below g1)
  have HG1 := Lib.hid g1
  have HB0 := Lib.hid b0
  have HB1 := Lib.hid b1
  have HS1 := Lib.hid hs1
  have e0 : ((u : Int) == wo) = true := by simpa using huw
  have d0 : decide (0 ≤ (u : Int) ∧ (u : Int) < n) = true := by simp; omega
  have d1 : decide (0 ≤ (v : Int) ∧ (v : Int) < n) = true := by simp; omega
  clear H g1 b0 b1 hs1
  have hmm := @run_makeMap Try.prog
  go_enter Try.func9, Try.ntmps9
  go_wp2_with fail
  go_step3
  generalize (w.alloc (.cells #[.int .i64 wo] 3)).alloc (.cells #[.int .i64 most] 3) = W1 at *
  have HU := Lib.hid (is_walk W1 lb n K F B HL1.out u hwu)
  have HV := Lib.hid (is_walk W1 lb n K F B HL1.out v hwv)
  rw [d0] at HU
  rw [d1] at HV
  have k0 := HB0.out.cell
  clear d0 d1 huw
  go_wp2_with (first | (go_at_call 27; first | (with_reducible refine HU.out.mono ?_; rintro e w' ⟨rfl, rfl⟩) | (with_reducible refine HV.out.mono ?_; rintro e w' ⟨rfl, rfl⟩)))
  (try rw [Exit.noGoto_ret])
  go_ret
  exact ⟨rfl, HG1.out⟩
end Go.Proofs.Ytfppfdejjifhdaa.PAll
