import Derived.Test.YtfkejflmhidnaaaGreatQRcP
import Derived.Test.YtfkejflmhidnaaaGreatQNeP
import Derived.Test.YtfkejflmhidnaaaGreatQMtP
import Derived.Test.YtfkejflmhidnaaaGreatQPrA
import Derived.Test.YtfkejflmhidnaaaGreatQZGcQ
set_option linter.all false
namespace Go.Proofs.YtfkejflmhidnaaaGreat.PAll
open RowKit YtfkejflmhidnaaaGreatW.PrintWords YtfkejflmhidnaaaGreatW.PrintLast YtfkejflmhidnaaaGreatW.PrintMore
open Hp hiding Good
def LeB (q : Q) (out : Int → Option Int) (z b : Int) : Prop := (∃ y, out z = some y ∧ y ≤ b) ∨ (∃ k, key q z = some k ∧ k ≤ b)
theorem LeB.relaxd {n : Nat} {b wm d : Int} {out : Int → Option Int} (d0 : 0 ≤ d) (d1 : d ≤ b) : ∀ (l : List S75) (q : Q), EdgesOk n wm l → CInv n (b + wm) q out →
  (∀ z c : Int, 0 ≤ z → z < n → LeB q out z c → LeB (relax out d l q) out z c) ∧ (∀ e ∈ l, (∀ y, out e.f0 = some y → y ≤ d) → LeB (relax out d l q) out e.f0 (d + e.f1)) ∧
   ((∀ z k : Int, 0 ≤ z → z < n → key q z = some k → d ≤ k) → ∀ z k : Int, 0 ≤ z → z < n → key (relax out d l q) z = some k → d ≤ k)
 | [], q, _, _ => ⟨fun _ _ _ _ h => h, fun e he => by simp at he, fun h => h⟩
 | e :: l, q, hl, hc => by
  have hq := hc.stepd (hl e (by simp)) d0 d1
  obtain ⟨h0, h1, h2, h3⟩ := hl e (by simp)
  obtain ⟨_, k2⟩ := put_ok (d + e.f1) hc.ok h0 h1
  obtain ⟨r1, r2, r3⟩ := LeB.relaxd d0 d1 l _ (fun x hx => hl x (by simp [hx])) hq
  by_cases hf : fresh out d e q = true
  ·rw [if_pos hf] at r1 r2 r3
   have hfr := hf
   unfold fresh at hfr
   rw [Bool.and_eq_true] at hfr
   show (∀ z c : Int, 0 ≤ z → z < n → LeB q out z c → LeB (relax out d l (if fresh out d e q = true then put q e.f0 (d + e.f1) else q)) out z c) ∧ (∀ e' ∈ e :: l, (∀ y, out e'.f0 = some y → y ≤ d) → LeB (relax out d l (if fresh out d e q = true then put q e.f0 (d + e.f1) else q)) out e'.f0 (d + e'.f1)) ∧ ((∀ z k : Int, 0 ≤ z → z < n → key q z = some k → d ≤ k) → ∀ z k : Int, 0 ≤ z → z < n → key (relax out d l (if fresh out d e q = true then put q e.f0 (d + e.f1) else q)) z = some k → d ≤ k)
   rw [if_pos hf]
   refine ⟨fun z c z0 z1 h => r1 z c z0 z1 ?_, fun e' he hy => ?_, fun hk => r3 (fun z k z0 z1 hkk => ?_)⟩
   ·rcases h with h | ⟨k, hk, hkc⟩
    ·exact .inl h
    ·by_cases hz : z = e.f0
     ·subst hz
      have := hfr.2
      unfold lessB at this
      rw [hk] at this
      simp only [decide_eq_true_eq] at this
      exact .inr ⟨d + e.f1, by rw [k2 _ h0 h1, if_pos rfl], by omega⟩
     ·exact .inr ⟨k, by rw [k2 z z0 z1, if_neg hz]; exact hk, hkc⟩
   ·rcases List.mem_cons.1 he with rfl | he
    ·exact r1 _ _ h0 h1 (.inr ⟨d + e'.f1, by rw [k2 _ h0 h1, if_pos rfl], Int.le_refl _⟩)
    ·exact r2 e' he hy
   ·rw [k2 z z0 z1] at hkk
    by_cases hz : z = e.f0
    ·rw [if_pos hz] at hkk; cases hkk; omega
    ·rw [if_neg hz] at hkk; exact hk z k z0 z1 hkk
  ·rw [if_neg hf] at r1 r2 r3
   show (∀ z c : Int, 0 ≤ z → z < n → LeB q out z c → LeB (relax out d l (if fresh out d e q = true then put q e.f0 (d + e.f1) else q)) out z c) ∧ (∀ e' ∈ e :: l, (∀ y, out e'.f0 = some y → y ≤ d) → LeB (relax out d l (if fresh out d e q = true then put q e.f0 (d + e.f1) else q)) out e'.f0 (d + e'.f1)) ∧ ((∀ z k : Int, 0 ≤ z → z < n → key q z = some k → d ≤ k) → ∀ z k : Int, 0 ≤ z → z < n → key (relax out d l (if fresh out d e q = true then put q e.f0 (d + e.f1) else q)) z = some k → d ≤ k)
   rw [if_neg hf]
   refine ⟨r1, fun e' he hy => ?_, r3⟩
   rcases List.mem_cons.1 he with rfl | he
   ·refine r1 _ _ h0 h1 ?_
    cases ho : out e'.f0 with
    | some y => exact .inl ⟨y, ho, by have := hy y ho; omega⟩
    | none =>
     cases hk : key q e'.f0 with
     | none => exact absurd (fresh_new ho hk) hf
     | some k =>
      refine .inr ⟨k, hk, ?_⟩
      unfold fresh lessB at hf
      rw [ho, hk] at hf
      simp at hf
      omega
   ·exact r2 e' he hy
theorem climbGo_least {n : Nat} {rank : List Int} {top wm : Int} {up : List (List S75)} (hup : ∀ v : Nat, v < n → EdgesOk n wm (edges up v)) (hw : 0 ≤ wm) :
  ∀ (f : Nat) (b : Int) (q : Q) (out : Int → Option Int), CInv n b q out → left n out < f → (∀ x y z k : Int, out x = some y → 0 ≤ z → z < n → key q z = some k → y ≤ k) → (∀ (x : Nat) (d : Int), x < n → out (x : Int) = some d → rd rank (x : Int) < top → ∀ e ∈ edges up x, LeB q out e.f0 (d + e.f1)) →
   (∀ z c : Int, 0 ≤ z → z < n → LeB q out z c → ∃ y, climbGo rank top up f q out z = some y ∧ y ≤ c) ∧
   (∀ (x : Nat) (d : Int), x < n → climbGo rank top up f q out (x : Int) = some d → rd rank (x : Int) < top → ∀ e ∈ edges up x, ∃ y, climbGo rank top up f q out e.f0 = some y ∧ y ≤ d + e.f1)
 | 0, b, q, out, h, hl, _, _ => by omega
 | f + 1, b, q, out, h, hlf, hm, hc => by
  unfold climbGo
  by_cases hq : q.l = []
  ·rw [if_pos hq]
   have hk : ∀ x : Int, 0 ≤ x → x < n → key q x = none := fun x x0 x1 => by
    cases hk : key q x with
    | none => rfl
    | some k =>
     obtain ⟨i, hi, _⟩ := h.ok.good.key_some x0 x1 hk
     rw [hq] at hi; simp at hi
   have done : ∀ z c : Int, 0 ≤ z → z < n → LeB q out z c → ∃ y, out z = some y ∧ y ≤ c := fun z c z0 z1 hs => by
    rcases hs with hs | ⟨k, hs, _⟩
    ·exact hs
    ·rw [hk z z0 z1] at hs; cases hs
   exact ⟨done, fun x d hx ho hr e he => done _ _ (hup x hx e he).1 (hup x hx e he).2.1 (hc x d hx ho hr e he)⟩
  ·rw [if_neg hq]
   have hl : 0 < q.l.length := List.length_pos_iff.2 hq
   obtain ⟨f0, f1, f2, f3, f4, f5⟩ := h.first hl
   have h2 := h.pop hl
   obtain ⟨_, _, d2⟩ := drop_ok h.ok f0 f1 f5
   have hkey := h.ok.good.key_at hl
   have hmin : ∀ z k : Int, 0 ≤ z → z < n → key q z = some k → (nth q.l 0).key ≤ k := fun z k z0 z1 hk => by
    obtain ⟨i, hi, e, _⟩ := h.ok.good.key_some z0 z1 hk
    have := h.ok.first i hi
    rw [e] at this
    unfold le at this
    simp only at this
    omega
   have hold : ∀ x y : Int, out x = some y → y ≤ (nth q.l 0).key := fun x y ho => hm x y _ _ ho f0 f1 hkey
   obtain ⟨u, hu⟩ : ∃ u : Nat, (nth q.l 0).id = u := ⟨(nth q.l 0).id.toNat, by omega⟩
   have hut : (nth q.l 0).id.toNat = u := by omega
   have hun : u < n := by omega
   have hlt : left n (upd out (nth q.l 0).id (nth q.l 0).key) < f := by
    have := left_upd (n := n) (out := out) (x := u) (nth q.l 0).key hun (by rw [← hu]; exact f2)
    rw [← hu] at this
    omega
   have hnew : ∀ x y : Int, upd out (nth q.l 0).id (nth q.l 0).key x = some y → y ≤ (nth q.l 0).key := fun x y ho => by
    simp only [upd] at ho
    by_cases hx : x = (nth q.l 0).id
    ·rw [if_pos hx] at ho; cases ho; exact Int.le_refl _
    ·rw [if_neg hx] at ho; exact hold x y ho
   have hge : ∀ z k : Int, 0 ≤ z → z < n → key (drop q (nth q.l 0).id) z = some k → (nth q.l 0).key ≤ k := fun z k z0 z1 hk => by
    rw [d2 z z0 z1] at hk
    by_cases hz : z = (nth q.l 0).id
    ·rw [if_pos hz] at hk; cases hk
    ·rw [if_neg hz] at hk; exact hmin z k z0 z1 hk
   have pop : ∀ z c : Int, 0 ≤ z → z < n → LeB q out z c → LeB (drop q (nth q.l 0).id) (upd out (nth q.l 0).id (nth q.l 0).key) z c := fun z c z0 z1 hs => by
    by_cases hz : z = (nth q.l 0).id
    ·left
     refine ⟨(nth q.l 0).key, by simp only [upd]; rw [if_pos hz], ?_⟩
     rcases hs with ⟨y, ho, hy⟩ | ⟨k, hk, hkc⟩
     ·rw [hz, f2] at ho; cases ho
     ·rw [hz, hkey] at hk; cases hk; exact hkc
    ·rcases hs with ⟨y, ho, hy⟩ | ⟨k, hk, hkc⟩
     ·exact .inl ⟨y, by simp only [upd]; rw [if_neg hz]; exact ho, hy⟩
     ·exact .inr ⟨k, by rw [d2 z z0 z1, if_neg hz]; exact hk, hkc⟩
   by_cases ht : rd rank (nth q.l 0).id ≥ top
   ·rw [if_pos ht]
    have ih := climbGo_least (rank := rank) (top := top) hup hw f (b + wm) _ _ (h2.mono (by omega)) hlt (fun x y z k ho z0 z1 hk => Int.le_trans (hnew x y ho) (hge z k z0 z1 hk)) (fun x d hx ho hr e he => by
     simp only [upd] at ho
     by_cases hx2 : (x : Int) = (nth q.l 0).id
     ·rw [hx2] at hr; omega
     ·rw [if_neg hx2] at ho
      exact pop _ _ (hup x hx e he).1 (hup x hx e he).2.1 (hc x d hx ho hr e he))
    exact ⟨fun z c z0 z1 hs => ih.1 z c z0 z1 (pop z c z0 z1 hs), ih.2⟩
   ·rw [if_neg ht]
    have hcr := CInv.relaxd (n := n) (wm := wm) f3 f4 (edges up (nth q.l 0).id.toNat) (drop q (nth q.l 0).id) (by rw [hut]; exact hup _ hun) (h2.mono (by omega))
    obtain ⟨r1, r2, r3⟩ := LeB.relaxd (n := n) (wm := wm) (out := upd out (nth q.l 0).id (nth q.l 0).key) f3 f4 (edges up (nth q.l 0).id.toNat) (drop q (nth q.l 0).id) (by rw [hut]; exact hup _ hun) (h2.mono (by omega))
    have ih := climbGo_least (rank := rank) (top := top) hup hw f (b + wm) _ _ hcr hlt (fun x y z k ho z0 z1 hk => Int.le_trans (hnew x y ho) (r3 hge z k z0 z1 hk)) (fun x d hx ho hr e he => by
     by_cases hx2 : (x : Int) = (nth q.l 0).id
     ·have : x = u := by omega
      subst this
      have hd : d = (nth q.l 0).key := by
       simp only [upd] at ho
       rw [if_pos hx2] at ho
       exact (Option.some.inj ho).symm
      rw [hut] at r2 ⊢
      rw [hd]
      exact r2 e he (fun y hy => hnew _ y hy)
     ·simp only [upd] at ho
      rw [if_neg hx2] at ho
      exact r1 _ _ (hup x hx e he).1 (hup x hx e he).2.1 (pop _ _ (hup x hx e he).1 (hup x hx e he).2.1 (hc x d hx ho hr e he)))
    exact ⟨fun z c z0 z1 hs => ih.1 z c z0 z1 (r1 z c z0 z1 (pop z c z0 z1 hs)), ih.2⟩
def EdgeS (n : Nat) (rank : List Int) (top : Int) (up : List (List S75)) (a b w : Int) : Prop := ∃ x : Nat, a = x ∧ x < n ∧ rd rank (x : Int) < top ∧ ∃ e ∈ edges up x, e.f0 = b ∧ e.f1 = w
theorem climb_least {n : Nat} {rank : List Int} {top wm : Int} {up : List (List S75)} (hup : ∀ v : Nat, v < n → EdgesOk n wm (edges up v)) (hw : 0 ≤ wm) (v : Nat) (hv : v < n) {x d : Int} (h : Wk (EdgeS n rank top up) v x d) : ∃ y, climbF n rank top up v x = some y ∧ y ≤ d := by
 have hz := CInv.start n v hv
 obtain ⟨_, k2⟩ := put_ok (id := (v : Int)) 0 (empty_ok n) (by omega) (by omega)
 obtain ⟨c1, c2⟩ := climbGo_least (rank := rank) (top := top) hup hw (n + 1) 0 _ _ hz (by rw [left_none]; omega) (fun x y z k ho => by cases ho) (fun x d _ ho => by cases ho)
 obtain ⟨k, h⟩ := h
 induction k generalizing x d with
 | zero =>
  obtain ⟨rfl, rfl⟩ := h
  exact c1 v 0 (by omega) (by omega) (.inr ⟨0, by rw [k2 v (by omega) (by omega), if_pos rfl], Int.le_refl _⟩)
 | succ k ih =>
  obtain ⟨b, e, w, h1, ⟨z, rfl, hz1, hz2, ed, hed, e0, e1⟩, rfl⟩ := h
  obtain ⟨y, hy, hye⟩ := ih h1
  obtain ⟨y', hy', hle⟩ := c2 z y hz1 hy hz2 ed hed
  rw [e0] at hy'
  exact ⟨y', hy', by omega⟩
theorem climb_real {n : Nat} {rank : List Int} {top wm : Int} {up : List (List S75)} (hup : ∀ v : Nat, v < n → EdgesOk n wm (edges up v)) (hw : 0 ≤ wm) (v : Nat) (hv : v < n) {x d : Int} (h : climbF n rank top up v x = some d) : Wk (EdgeS n rank top up) v x d :=
 climb_sound (P := fun x d => Wk (EdgeS n rank top up) v x d) hup hw (fun z e hz hp hr y hy => hp.snoc ⟨z, rfl, hz, hr, y, hy, rfl, rfl⟩) v hv (Wk.nil _ _) x d h
theorem BI.none {n : Nat} {E0 : Int → Int → Int → Prop} {t : TP} {rk : List Int} {H : List S71} (h : BI n E0 n t rk H) (z : Int) : isP t z = false := by
 cases hz : isP t z with
 | false => rfl
 | true =>
  exfalso
  have := placesP_mem.2 hz
  have h2 := h.cnt
  cases hp : placesP t with
  | nil => rw [hp] at this; simp at this
  | cons a l => rw [hp] at h2; simp at h2
theorem rd66_get {l : List S71} {i : Nat} (h : i < l.length) : rd_T71 l (i : Int) = l[i] := by simp [rd_T71, List.getD, h]
theorem BI.vh {n : Nat} {E0 : Int → Int → Int → Prop} {t : TP} {rk : List Int} {H : List S71} (h : BI n E0 n t rk H) (hn : n ≤ 12) : VH n rk H := by
 have hno := h.none
 have hnn := h.ok.nn
 have hlen : H.length ≤ 288 := by
  have := h.hlen
  have : 2 * n * n ≤ 2 * 12 * 12 := Nat.mul_le_mul (Nat.mul_le_mul (Nat.le_refl 2) hn) hn
  omega
 have hw := wmR_top hn
 refine ⟨by omega, by omega, h.rl, fun v hv => h.tak v hv (hno _), fun u v hu hv e => h.inj u v hu hv (hno _) (hno _) e, fun x hx => ?_, fun i j hi hj e0 e1 => ?_, fun x hx => ?_⟩
 ·obtain ⟨h1, h2, h3, e, o, g, _⟩ := h.hw x hx
  have := g.e0
  have := g.e1
  have := g.o0
  have := g.o1
  rcases g.are with ⟨k1, k2⟩ | ⟨k1, k2⟩ <;> (rw [k1, k2] at h3 ⊢; exact ⟨by omega, by omega, by omega, by omega, h3, h1, by omega⟩)
 ·have hp := List.pairwise_iff_getElem.1 h.uniq
  rw [rd66_get hi, rd66_get hj] at e0 e1
  rcases Nat.lt_trichotomy i j with h1 | h1 | h1
  ·exact absurd ⟨e0, e1⟩ (hp i j hi hj h1)
  ·exact h1
  ·exact absurd ⟨e0.symm, e1.symm⟩ (hp j i hj hi h1)
 ·obtain ⟨_, _, _, e, o, g, hr⟩ := h.hw x hx
  rcases hr with hr | ⟨hr, hlt⟩
  ·exact .inl hr
  ·have hot : rd rk e < rd rk o := by
    rcases g.ot with h1 | ⟨_, h1⟩
    ·rw [hno] at h1; cases h1
    ·exact h1
   obtain ⟨a, ha, b, hb, a0, a1, b0, b1, hs⟩ := hr.half
   obtain ⟨i, hi, ei⟩ := List.getElem_of_mem ha
   obtain ⟨j, hj, ej⟩ := List.getElem_of_mem hb
   refine .inr ⟨hr.mid, hr.arc, hr.m0, hr.m1, ?_, ?_, i, j, hi, hj, ?_⟩
   ·rcases g.are with ⟨k1, k2⟩ | ⟨k1, k2⟩ <;> rw [k1] <;> omega
   ·rcases g.are with ⟨k1, k2⟩ | ⟨k1, k2⟩ <;> rw [k2] <;> omega
   ·rw [rd66_get hi, rd66_get hj, ei, ej]
    exact ⟨a0, a1, b0, b1, hs⟩
theorem rowsP_pair (f : Int → Option Int) (P : Nat → Bool) : ∀ n : Nat, (rowsP n f P).Pairwise (fun a b => a.f0 < b.f0)
 | 0 => by simp [rowsP]
 | n + 1 => by
  have ih := rowsP_pair f P n
  by_cases h : (∃ d, f (n : Int) = some d) ∧ P n = true
  ·obtain ⟨⟨d, hd⟩, hp⟩ := h
   have e : rowsP (n + 1) f P = rowsP n f P ++ [⟨(n : Int), d⟩] := by
    unfold rowsP
    rw [List.range_succ, List.filterMap_append]
    simp [hd, hp]
   rw [e, List.pairwise_append]
   exact ⟨ih, by simp, fun a ha b hb => by
    obtain ⟨u, hu, e0, _⟩ := rowsP_mem ha
    simp only [List.mem_singleton] at hb
    rw [hb, e0]
    simp only
    omega⟩
  ·have e : rowsP (n + 1) f P = rowsP n f P := by
    unfold rowsP
    rw [List.range_succ, List.filterMap_append]
    cases hf : f (n : Int) with
    | none => simp [hf]
    | some d =>
     have : ¬ P n = true := fun hp => h ⟨⟨d, hf⟩, hp⟩
     simp [hf, this]
   rw [e]; exact ih
theorem rowsP_has {n : Nat} {f : Int → Option Int} {P : Nat → Bool} {v : Nat} {d : Int} (hv : v < n) (hf : f (v : Int) = some d) (hp : P v = true) : (⟨(v : Int), d⟩ : S37) ∈ rowsP n f P := by
 unfold rowsP
 exact List.mem_filterMap.2 ⟨v, List.mem_range.2 hv, by rw [hf]; simp [hp]⟩
theorem commonP_has : ∀ (a b : List S37) (x y : S37), a.Pairwise (fun p q => p.f0 < q.f0) → b.Pairwise (fun p q => p.f0 < q.f0) → x ∈ a → y ∈ b → x.f0 = y.f0 → (x, y) ∈ commonP a b
 | [], b, x, y, _, _, hx, _, _ => by simp at hx
 | p :: a, [], x, y, _, _, _, hy, _ => by simp at hy
 | p :: a, q :: b, x, y, ha, hb, hx, hy, e => by
  have ha' := List.pairwise_cons.1 ha
  have hb' := List.pairwise_cons.1 hb
  by_cases h1 : p.f0 < q.f0
  ·rw [commonP_lt h1]
   refine commonP_has a (q :: b) x y ha'.2 hb ?_ hy e
   rcases List.mem_cons.1 hx with rfl | hx
   ·exfalso
    rcases List.mem_cons.1 hy with rfl | hy
    ·omega
    ·have := hb'.1 y hy; omega
   ·exact hx
  ·by_cases h2 : p.f0 > q.f0
   ·rw [commonP_gt h2]
    refine commonP_has (p :: a) b x y ha hb'.2 hx ?_ e
    rcases List.mem_cons.1 hy with rfl | hy
    ·exfalso
     rcases List.mem_cons.1 hx with rfl | hx
     ·omega
     ·have := ha'.1 x hx; omega
    ·exact hy
   ·rw [commonP_eq (by omega)]
    rcases List.mem_cons.1 hx with rfl | hx
    ·rcases List.mem_cons.1 hy with rfl | hy
     ·simp
     ·exfalso; have := hb'.1 y hy; omega
    ·rcases List.mem_cons.1 hy with rfl | hy
     ·exfalso; have := ha'.1 x hx; omega
     ·exact List.mem_cons_of_mem _ (commonP_has a b x y ha'.2 hb'.2 hx hy e)
termination_by a b => a.length + b.length
theorem foldl_least {m : Int} (l : List (S37 × S37)) (hl : ∀ p ∈ l, 0 ≤ p.1.f0 ∧ 0 ≤ p.1.f1 ∧ 0 ≤ p.2.f1 ∧ p.1.f1 + p.2.f1 ≤ m) (hm : m ≤ 9223372036854775807) :
  ∀ s : Int × Int, (s = (-1, -1) ∨ 0 ≤ s.2) → (∀ p ∈ l, (l.foldl meetS s).1 ≤ p.1.f1 + p.2.f1) ∧ (s ≠ (-1, -1) → (l.foldl meetS s).1 ≤ s.1) ∧ (l.foldl meetS s = s ∨ ∃ p ∈ l, (l.foldl meetS s).1 = p.1.f1 + p.2.f1) := by
 induction l with
 | nil => intro s hs; exact ⟨fun p hp => by simp at hp, fun _ => Int.le_refl _, .inl rfl⟩
 | cons p l ih =>
  intro s hs
  obtain ⟨h0, h1, h2, h3⟩ := hl p (by simp)
  have hw : IntKind.i64.wrap (p.1.f1 + p.2.f1) = p.1.f1 + p.2.f1 := i64w rfl (by omega) (by omega)
  rw [List.foldl_cons]
  have hms : meetS s p = if s.2 = -1 ∨ p.1.f1 + p.2.f1 ≤ s.1 then (p.1.f1 + p.2.f1, p.1.f0) else s := by
   unfold meetS; rw [hw]
  by_cases hc : s.2 = -1 ∨ p.1.f1 + p.2.f1 ≤ s.1
  ·rw [hms, if_pos hc]
   obtain ⟨i1, i2, i3⟩ := ih (fun q hq => hl q (by simp [hq])) (p.1.f1 + p.2.f1, p.1.f0) (.inr h0)
   have hle := i2 (fun e => by have := congrArg Prod.snd e; simp only at this; omega)
   refine ⟨fun q hq => ?_, fun hne => ?_, .inr ?_⟩
   ·rcases List.mem_cons.1 hq with rfl | hq
    ·exact hle
    ·exact i1 q hq
   ·rcases hs with hs | hs
    ·exact absurd hs hne
    ·rcases hc with hc | hc
     ·omega
     ·simp only at hle; omega
   ·rcases i3 with i3 | ⟨q, hq, i3⟩
    ·exact ⟨p, by simp, by rw [i3]⟩
    ·exact ⟨q, by simp [hq], i3⟩
  ·rw [hms, if_neg hc]
   obtain ⟨i1, i2, i3⟩ := ih (fun q hq => hl q (by simp [hq])) s hs
   have hne : s ≠ (-1, -1) := fun e => hc (.inl (by rw [e]))
   refine ⟨fun q hq => ?_, i2, ?_⟩
   ·rcases List.mem_cons.1 hq with rfl | hq
    ·have := i2 hne; omega
    ·exact i1 q hq
   ·rcases i3 with i3 | ⟨q, hq, i3⟩
    ·exact .inl i3
    ·exact .inr ⟨q, by simp [hq], i3⟩
theorem above_in {n : Nat} {h : HierP} {v : Nat} (hv : v < n) (back : Bool) : aboveP n h v back = rowsP n (climbF n h.rank n (h.side back) v) (fun _ => true) := by
 unfold aboveP
 rw [if_pos ⟨by omega, by omega⟩, Int.toNat_natCast]
theorem prune_sub {n : Nat} {h : HierP} {back : Bool} {l : List S37} {p : S37} (hp : p ∈ pruneP n h back l) : p ∈ l := by
 unfold pruneP at hp
 exact (List.mem_filter.1 hp).1
def outP (n : Nat) (h : HierP) (v : Nat) (low : Int) (back : Bool) : List S37 := pruneP n h back (highP n h v low back)
end Go.Proofs.YtfkejflmhidnaaaGreat.PAll
