import Derived.Test.YtfkejflmhidnaaaGreatQRcP
import Derived.Test.YtfkejflmhidnaaaGreatQNeP
import Derived.Test.YtfkejflmhidnaaaGreatQMtP
import Derived.Test.YtfkejflmhidnaaaGreatQPrA
import Derived.Test.YtfkejflmhidnaaaGreatQZGcQ
set_option linter.all false
namespace Go.Proofs.YtfkejflmhidnaaaGreat.PAll
open RowKit YtfkejflmhidnaaaGreatW.PrintWords YtfkejflmhidnaaaGreatW.PrintLast YtfkejflmhidnaaaGreatW.PrintMore
open Hp hiding Good
def LeB (q : Q) (out : Int → Option Int) (z b : Int) : Prop := (∃ y, out z = some y ∧ y ≤ b) ∨ (∃ k, key q z = some k ∧ k ≤ b)
theorem LeB.relaxd {n : Nat} {b wm d : Int} {out : Int → Option Int} (d0 : 0 ≤ d) (d1 : d ≤ b) : ∀ (l : List S75) (q : Q), EdgesOk n wm l → CInv n (b + wm) q out →
  (∀ z c : Int, 0 ≤ z → z < n → LeB q out z c → LeB (relax out d l q) out z c) ∧ (∀ e ∈ l, (∀ y, out e.f0 = some y → y ≤ d) → LeB (relax out d l q) out e.f0 (d + e.f1)) ∧
   ((∀ z k : Int, 0 ≤ z → z < n → key q z = some k → d ≤ k) → ∀ z k : Int, 0 ≤ z → z < n → key (relax out d l q) z = some k → d ≤ k)
 | [], q, _, _ => ⟨fun _ _ _ _ h => h, fun e he => by simp at he, fun h => h⟩
 | e :: l, q, hl, hc => by
  have hq := hc.stepd (hl e (by simp)) d0 d1
  obtain ⟨h0, h1, h2, h3⟩ := hl e (by simp)
  obtain ⟨_, k2⟩ := put_ok (d + e.f1) hc.ok h0 h1
  obtain ⟨r1, r2, r3⟩ := LeB.relaxd d0 d1 l _ (fun x hx => hl x (by simp [hx])) hq
  by_cases hf : fresh out d e q = true
  ·rw [if_pos hf] at r1 r2 r3
   have hfr := hf
   unfold fresh at hfr
   rw [Bool.and_eq_true] at hfr
   show (∀ z c : Int, 0 ≤ z → z < n → LeB q out z c → LeB (relax out d l (if fresh out d e q = true then put q e.f0 (d + e.f1) else q)) out z c) ∧ (∀ e' ∈ e :: l, (∀ y, out e'.f0 = some y → y ≤ d) → LeB (relax out d l (if fresh out d e q = true then put q e.f0 (d + e.f1) else q)) out e'.f0 (d + e'.f1)) ∧ ((∀ z k : Int, 0 ≤ z → z < n → key q z = some k → d ≤ k) → ∀ z k : Int, 0 ≤ z → z < n → key (relax out d l (if fresh out d e q = true then put q e.f0 (d + e.f1) else q)) z = some k → d ≤ k)
   rw [if_pos hf]
   refine ⟨fun z c z0 z1 h => r1 z c z0 z1 ?_, fun e' he hy => ?_, fun hk => r3 (fun z k z0 z1 hkk => ?_)⟩
   ·rcases h with h | ⟨k, hk, hkc⟩
    ·exact .inl h
    ·by_cases hz : z = e.f0
     ·subst hz
      have := hfr.2
      unfold lessB at this
      rw [hk] at this
      simp only [decide_eq_true_eq] at this
      exact .inr ⟨d + e.f1, by rw [k2 _ h0 h1, if_pos rfl], by omega⟩
     ·exact .inr ⟨k, by rw [k2 z z0 z1, if_neg hz]; exact hk, hkc⟩
   ·rcases List.mem_cons.1 he with rfl | he
    ·exact r1 _ _ h0 h1 (.inr ⟨d + e'.f1, by rw [k2 _ h0 h1, if_pos rfl], Int.le_refl _⟩)
    ·exact r2 e' he hy
   ·rw [k2 z z0 z1] at hkk
    by_cases hz : z = e.f0
    ·rw [if_pos hz] at hkk; cases hkk; omega
    ·rw [if_neg hz] at hkk; exact hk z k z0 z1 hkk
  ·rw [if_neg hf] at r1 r2 r3
   show (∀ z c : Int, 0 ≤ z → z < n → LeB q out z c → LeB (relax out d l (if fresh out d e q = true then put q e.f0 (d + e.f1) else q)) out z c) ∧ (∀ e' ∈ e :: l, (∀ y, out e'.f0 = some y → y ≤ d) → LeB (relax out d l (if fresh out d e q = true then put q e.f0 (d + e.f1) else q)) out e'.f0 (d + e'.f1)) ∧ ((∀ z k : Int, 0 ≤ z → z < n → key q z = some k → d ≤ k) → ∀ z k : Int, 0 ≤ z → z < n → key (relax out d l (if fresh out d e q = true then put q e.f0 (d + e.f1) else q)) z = some k → d ≤ k)
   rw [if_neg hf]
   refine ⟨r1, fun e' he hy => ?_, r3⟩
   rcases List.mem_cons.1 he with rfl | he
   ·refine r1 _ _ h0 h1 ?_
    cases ho : out e'.f0 with
    | some y => exact .inl ⟨y, ho, by have := hy y ho; omega⟩
    | none =>
     cases hk : key q e'.f0 with
     | none => exact absurd (fresh_new ho hk) hf
     | some k =>
      refine .inr ⟨k, hk, ?_⟩
      unfold fresh lessB at hf
      rw [ho, hk] at hf
      simp at hf
      omega
   ·exact r2 e' he hy
theorem climbGo_least {n : Nat} {rank : List Int} {top wm : Int} {up : List (List S75)} (hup : ∀ v : Nat, v < n → EdgesOk n wm (edges up v)) (hw : 0 ≤ wm) :
  ∀ (f : Nat) (b : Int) (q : Q) (out : Int → Option Int), CInv n b q out → left n out < f → (∀ x y z k : Int, out x = some y → 0 ≤ z → z < n → key q z = some k → y ≤ k) → (∀ (x : Nat) (d : Int), x < n → out (x : Int) = some d → rd rank (x : Int) < top → ∀ e ∈ edges up x, LeB q out e.f0 (d + e.f1)) →
   (∀ z c : Int, 0 ≤ z → z < n → LeB q out z c → ∃ y, climbGo rank top up f q out z = some y ∧ y ≤ c) ∧
   (∀ (x : Nat) (d : Int), x < n → climbGo rank top up f q out (x : Int) = some d → rd rank (x : Int) < top → ∀ e ∈ edges up x, ∃ y, climbGo rank top up f q out e.f0 = some y ∧ y ≤ d + e.f1)
 | 0, b, q, out, h, hl, _, _ => by omega
 | f + 1, b, q, out, h, hlf, hm, hc => by
  unfold climbGo
  by_cases hq : q.l = []
  ·rw [if_pos hq]
   have hk : ∀ x : Int, 0 ≤ x → x < n → key q x = none := fun x x0 x1 => by
    cases hk : key q x with
    | none => rfl
    | some k =>
     obtain ⟨i, hi, _⟩ := h.ok.good.key_some x0 x1 hk
     rw [hq] at hi; simp at hi
   have done : ∀ z c : Int, 0 ≤ z → z < n → LeB q out z c → ∃ y, out z = some y ∧ y ≤ c := fun z c z0 z1 hs => by
    rcases hs with hs | ⟨k, hs, _⟩
    ·exact hs
    ·rw [hk z z0 z1] at hs; cases hs
   exact ⟨done, fun x d hx ho hr e he => done _ _ (hup x hx e he).1 (hup x hx e he).2.1 (hc x d hx ho hr e he)⟩
  ·rw [if_neg hq]
   have hl : 0 < q.l.length := List.length_pos_iff.2 hq
   obtain ⟨f0, f1, f2, f3, f4, f5⟩ := h.first hl
   have h2 := h.pop hl
   obtain ⟨_, _, d2⟩ := drop_ok h.ok f0 f1 f5
   have hkey := h.ok.good.key_at hl
   have hmin : ∀ z k : Int, 0 ≤ z → z < n → key q z = some k → (nth q.l 0).key ≤ k := fun z k z0 z1 hk => by
    obtain ⟨i, hi, e, _⟩ := h.ok.good.key_some z0 z1 hk
    have := h.ok.first i hi
    rw [e] at this
    unfold le at this
    simp only at this
    omega
   have hold : ∀ x y : Int, out x = some y → y ≤ (nth q.l 0).key := fun x y ho => hm x y _ _ ho f0 f1 hkey
   obtain ⟨u, hu⟩ : ∃ u : Nat, (nth q.l 0).id = u := ⟨(nth q.l 0).id.toNat, by omega⟩
   have hut : (nth q.l 0).id.toNat = u := by omega
   have hun : u < n := by omega
   have hlt : left n (upd out (nth q.l 0).id (nth q.l 0).key) < f := by
    have := left_upd (n := n) (out := out) (x := u) (nth q.l 0).key hun (by rw [← hu]; exact f2)
    rw [← hu] at this
    omega
   have hnew : ∀ x y : Int, upd out (nth q.l 0).id (nth q.l 0).key x = some y → y ≤ (nth q.l 0).key := fun x y ho => by
    simp only [upd] at ho
    by_cases hx : x = (nth q.l 0).id
    ·rw [if_pos hx] at ho; cases ho; exact Int.le_refl _
    ·rw [if_neg hx] at ho; exact hold x y ho
   have hge : ∀ z k : Int, 0 ≤ z → z < n → key (drop q (nth q.l 0).id) z = some k → (nth q.l 0).key ≤ k := fun z k z0 z1 hk => by
    rw [d2 z z0 z1] at hk
    by_cases hz : z = (nth q.l 0).id
    ·rw [if_pos hz] at hk; cases hk
    ·rw [if_neg hz] at hk; exact hmin z k z0 z1 hk
   have pop : ∀ z c : Int, 0 ≤ z → z < n → LeB q out z c → LeB (drop q (nth q.l 0).id) (upd out (nth q.l 0).id (nth q.l 0).key) z c := fun z c z0 z1 hs => by
    by_cases hz : z = (nth q.l 0).id
    ·left
     refine ⟨(nth q.l 0).key, by simp only [upd]; rw [if_pos hz], ?_⟩
     rcases hs with ⟨y, ho, hy⟩ | ⟨k, hk, hkc⟩
     ·rw [hz, f2] at ho; cases ho
     ·rw [hz, hkey] at hk; cases hk; exact hkc
    ·rcases hs with ⟨y, ho, hy⟩ | ⟨k, hk, hkc⟩
     ·exact .inl ⟨y, by simp only [upd]; rw [if_neg hz]; exact ho, hy⟩
     ·exact .inr ⟨k, by rw [d2 z z0 z1, if_neg hz]; exact hk, hkc⟩
   by_cases ht : rd rank (nth q.l 0).id ≥ top
   ·rw [if_pos ht]
    have ih := climbGo_least (rank := rank) (top := top) hup hw f (b + wm) _ _ (h2.mono (by omega)) hlt (fun x y z k ho z0 z1 hk => Int.le_trans (hnew x y ho) (hge z k z0 z1 hk)) (fun x d hx ho hr e he => by
     simp only [upd] at ho
     by_cases hx2 : (x : Int) = (nth q.l 0).id
     ·rw [hx2] at hr; omega
     ·rw [if_neg hx2] at ho
      exact pop _ _ (hup x hx e he).1 (hup x hx e he).2.1 (hc x d hx ho hr e he))
    exact ⟨fun z c z0 z1 hs => ih.1 z c z0 z1 (pop z c z0 z1 hs), ih.2⟩
   ·rw [if_neg ht]
    have hcr := CInv.relaxd (n := n) (wm := wm) f3 f4 (edges up (nth q.l 0).id.toNat) (drop q (nth q.l 0).id) (by rw [hut]; exact hup _ hun) (h2.mono (by omega))
    obtain ⟨r1, r2, r3⟩ := LeB.relaxd (n := n) (wm := wm) (out := upd out (nth q.l 0).id (nth q.l 0).key) f3 f4 (edges up (nth q.l 0).id.toNat) (drop q (nth q.l 0).id) (by rw [hut]; exact hup _ hun) (h2.mono (by omega))
    have ih := climbGo_least (rank := rank) (top := top) hup hw f (b + wm) _ _ hcr hlt (fun x y z k ho z0 z1 hk => Int.le_trans (hnew x y ho) (r3 hge z k z0 z1 hk)) (fun x d hx ho hr e he => by
     by_cases hx2 : (x : Int) = (nth q.l 0).id
     ·have : x = u := by omega
      subst this
      have hd : d = (nth q.l 0).key := by
       simp only [upd] at ho
       rw [if_pos hx2] at ho
       exact (Option.some.inj ho).symm
      rw [hut] at r2 ⊢
      rw [hd]
      exact r2 e he (fun y hy => hnew _ y hy)
     ·simp only [upd] at ho
      rw [if_neg hx2] at ho
      exact r1 _ _ (hup x hx e he).1 (hup x hx e he).2.1 (pop _ _ (hup x hx e he).1 (hup x hx e he).2.1 (hc x d hx ho hr e he)))
    exact ⟨fun z c z0 z1 hs => ih.1 z c z0 z1 (r1 z c z0 z1 (pop z c z0 z1 hs)), ih.2⟩
def EdgeS (n : Nat) (rank : List Int) (top : Int) (up : List (List S75)) (a b w : Int) : Prop := ∃ x : Nat, a = x ∧ x < n ∧ rd rank (x : Int) < top ∧ ∃ e ∈ edges up x, e.f0 = b ∧ e.f1 = w
theorem climb_least {n : Nat} {rank : List Int} {top wm : Int} {up : List (List S75)} (hup : ∀ v : Nat, v < n → EdgesOk n wm (edges up v)) (hw : 0 ≤ wm) (v : Nat) (hv : v < n) {x d : Int} (h : Wk (EdgeS n rank top up) v x d) : ∃ y, climbF n rank top up v x = some y ∧ y ≤ d := by
 have hz := CInv.start n v hv
 obtain ⟨_, k2⟩ := put_ok (id := (v : Int)) 0 (empty_ok n) (by omega) (by omega)
 obtain ⟨c1, c2⟩ := climbGo_least (rank := rank) (top := top) hup hw (n + 1) 0 _ _ hz (by rw [left_none]; omega) (fun x y z k ho => by cases ho) (fun x d _ ho => by cases ho)
 obtain ⟨k, h⟩ := h
 induction k generalizing x d with
 | zero =>
  obtain ⟨rfl, rfl⟩ := h
  exact c1 v 0 (by omega) (by omega) (.inr ⟨0, by rw [k2 v (by omega) (by omega), if_pos rfl], Int.le_refl _⟩)
 | succ k ih =>
  obtain ⟨b, e, w, h1, ⟨z, rfl, hz1, hz2, ed, hed, e0, e1⟩, rfl⟩ := h
  obtain ⟨y, hy, hye⟩ := ih h1
  obtain ⟨y', hy', hle⟩ := c2 z y hz1 hy hz2 ed hed
  rw [e0] at hy'
  exact ⟨y', hy', by omega⟩
theorem BI.none {n : Nat} {E0 : Int → Int → Int → Prop} {t : TP} {rk : List Int} {H : List S71} (h : BI n E0 n t rk H) (z : Int) : isP t z = false := by
 cases hz : isP t z with
 | false => rfl
 | true =>
  exfalso
  have := placesP_mem.2 hz
  have h2 := h.cnt
  cases hp : placesP t with
  | nil => rw [hp] at this; simp at this
  | cons a l => rw [hp] at h2; simp at h2
theorem rd66_get {l : List S71} {i : Nat} (h : i < l.length) : rd_T71 l (i : Int) = l[i] := by simp [rd_T71, List.getD, h]
theorem BI.vh {n : Nat} {E0 : Int → Int → Int → Prop} {t : TP} {rk : List Int} {H : List S71} (h : BI n E0 n t rk H) (hn : n ≤ 12) : VH n rk H := by
 have hno := h.none
 have hnn := h.ok.nn
 have hlen : H.length ≤ 288 := by
  have := h.hlen
  have : 2 * n * n ≤ 2 * 12 * 12 := Nat.mul_le_mul (Nat.mul_le_mul (Nat.le_refl 2) hn) hn
  omega
 have hw := wmR_top hn
 refine ⟨by omega, by omega, h.rl, fun v hv => h.tak v hv (hno _), fun u v hu hv e => h.inj u v hu hv (hno _) (hno _) e, fun x hx => ?_, fun i j hi hj e0 e1 => ?_, fun x hx => ?_⟩
 ·obtain ⟨h1, h2, h3, e, o, g, _⟩ := h.hw x hx
  have := g.e0
  have := g.e1
  have := g.o0
  have := g.o1
  rcases g.are with ⟨k1, k2⟩ | ⟨k1, k2⟩ <;> (rw [k1, k2] at h3 ⊢; exact ⟨by omega, by omega, by omega, by omega, h3, h1, by omega⟩)
 ·have hp := List.pairwise_iff_getElem.1 h.uniq
  rw [rd66_get hi, rd66_get hj] at e0 e1
  rcases Nat.lt_trichotomy i j with h1 | h1 | h1
  ·exact absurd ⟨e0, e1⟩ (hp i j hi hj h1)
  ·exact h1
  ·exact absurd ⟨e0.symm, e1.symm⟩ (hp j i hj hi h1)
 ·obtain ⟨_, _, _, e, o, g, hr⟩ := h.hw x hx
  rcases hr with hr | ⟨hr, hlt⟩
  ·exact .inl hr
  ·have hot : rd rk e < rd rk o := by
    rcases g.ot with h1 | ⟨_, h1⟩
    ·rw [hno] at h1; cases h1
    ·exact h1
   obtain ⟨a, ha, b, hb, a0, a1, b0, b1, hs⟩ := hr.half
   obtain ⟨i, hi, ei⟩ := List.getElem_of_mem ha
   obtain ⟨j, hj, ej⟩ := List.getElem_of_mem hb
   refine .inr ⟨hr.mid, hr.arc, hr.m0, hr.m1, ?_, ?_, i, j, hi, hj, ?_⟩
   ·rcases g.are with ⟨k1, k2⟩ | ⟨k1, k2⟩ <;> rw [k1] <;> omega
   ·rcases g.are with ⟨k1, k2⟩ | ⟨k1, k2⟩ <;> rw [k2] <;> omega
   ·rw [rd66_get hi, rd66_get hj, ei, ej]
    exact ⟨a0, a1, b0, b1, hs⟩
theorem climb_true {n : Nat} {rank : List Int} {ways : List S71} (V : VH n rank ways) (x : List Int) (E0 : Int → Int → Int → Prop) (hs : ∀ y ∈ ways, Wk E0 y.f0 y.f1 y.f2.f0) (v : Nat) (hv : v < n) (top : Int) (back : Bool) (u d : Int)
  (h : climbF n rank top ((⟨rank, x, buildB rank ways n ways.length true, buildB rank ways n ways.length false⟩ : HierP).side back) v u = some d) : if back = true then Wk E0 u v d else Wk E0 v u d := by
 have hok := hok_new V x
 cases back with
 | false =>
  simp only [Bool.false_eq_true, if_false]
  refine climb_sound (P := fun u d => Wk E0 v u d) (hok.sides false) hok.wm0 (fun z e hz hp _ y hy => ?_) v hv (Wk.nil _ _) u d h
  obtain ⟨i, hi, _, e1, hr⟩ := buildB_mem rank ways n y ways.length true z hy
  rcases hr with ⟨_, _, h2, h3⟩ | ⟨hb, _⟩
  ·have hw := hs _ (rd66_mem ways i hi)
   have h0 := (V.ends _ (rd66_mem ways i hi)).1
   rw [e1, h3]
   rw [show (rd_T71 ways (i : Int)).f0 = z by omega] at hw
   exact hp.append hw
  ·cases hb
 | true =>
  simp only [if_true]
  refine climb_sound (P := fun u d => Wk E0 u v d) (hok.sides true) hok.wm0 (fun z e hz hp _ y hy => ?_) v hv (Wk.nil _ _) u d h
  obtain ⟨i, hi, _, e1, hr⟩ := buildB_mem rank ways n y ways.length false z hy
  rcases hr with ⟨hb, _⟩ | ⟨_, _, h2, h3⟩
  ·cases hb
  ·have hw := hs _ (rd66_mem ways i hi)
   have h0 := (V.ends _ (rd66_mem ways i hi)).2.2.1
   rw [e1, h3]
   rw [show (rd_T71 ways (i : Int)).f1 = z by omega] at hw
   have := hw.append hp
   rwa [Int.add_comm] at this
theorem rowsP_pair (f : Int → Option Int) (P : Nat → Bool) : ∀ n : Nat, (rowsP n f P).Pairwise (fun a b => a.f0 < b.f0)
 | 0 => by simp [rowsP]
 | n + 1 => by
  have ih := rowsP_pair f P n
  by_cases h : (∃ d, f (n : Int) = some d) ∧ P n = true
  ·obtain ⟨⟨d, hd⟩, hp⟩ := h
   have e : rowsP (n + 1) f P = rowsP n f P ++ [⟨(n : Int), d⟩] := by
    unfold rowsP
    rw [List.range_succ, List.filterMap_append]
    simp [hd, hp]
   rw [e, List.pairwise_append]
   exact ⟨ih, by simp, fun a ha b hb => by
    obtain ⟨u, hu, e0, _⟩ := rowsP_mem ha
    simp only [List.mem_singleton] at hb
    rw [hb, e0]
    simp only
    omega⟩
  ·have e : rowsP (n + 1) f P = rowsP n f P := by
    unfold rowsP
    rw [List.range_succ, List.filterMap_append]
    cases hf : f (n : Int) with
    | none => simp [hf]
    | some d =>
     have : ¬ P n = true := fun hp => h ⟨⟨d, hf⟩, hp⟩
     simp [hf, this]
   rw [e]; exact ih
theorem rowsP_has {n : Nat} {f : Int → Option Int} {P : Nat → Bool} {v : Nat} {d : Int} (hv : v < n) (hf : f (v : Int) = some d) (hp : P v = true) : (⟨(v : Int), d⟩ : S37) ∈ rowsP n f P := by
 unfold rowsP
 exact List.mem_filterMap.2 ⟨v, List.mem_range.2 hv, by rw [hf]; simp [hp]⟩
theorem commonP_has : ∀ (a b : List S37) (x y : S37), a.Pairwise (fun p q => p.f0 < q.f0) → b.Pairwise (fun p q => p.f0 < q.f0) → x ∈ a → y ∈ b → x.f0 = y.f0 → (x, y) ∈ commonP a b
 | [], b, x, y, _, _, hx, _, _ => by simp at hx
 | p :: a, [], x, y, _, _, _, hy, _ => by simp at hy
 | p :: a, q :: b, x, y, ha, hb, hx, hy, e => by
  have ha' := List.pairwise_cons.1 ha
  have hb' := List.pairwise_cons.1 hb
  by_cases h1 : p.f0 < q.f0
  ·rw [commonP_lt h1]
   refine commonP_has a (q :: b) x y ha'.2 hb ?_ hy e
   rcases List.mem_cons.1 hx with rfl | hx
   ·exfalso
    rcases List.mem_cons.1 hy with rfl | hy
    ·omega
    ·have := hb'.1 y hy; omega
   ·exact hx
  ·by_cases h2 : p.f0 > q.f0
   ·rw [commonP_gt h2]
    refine commonP_has (p :: a) b x y ha hb'.2 hx ?_ e
    rcases List.mem_cons.1 hy with rfl | hy
    ·exfalso
     rcases List.mem_cons.1 hx with rfl | hx
     ·omega
     ·have := ha'.1 x hx; omega
    ·exact hy
   ·rw [commonP_eq (by omega)]
    rcases List.mem_cons.1 hx with rfl | hx
    ·rcases List.mem_cons.1 hy with rfl | hy
     ·simp
     ·exfalso; have := hb'.1 y hy; omega
    ·rcases List.mem_cons.1 hy with rfl | hy
     ·exfalso; have := ha'.1 x hx; omega
     ·exact List.mem_cons_of_mem _ (commonP_has a b x y ha'.2 hb'.2 hx hy e)
termination_by a b => a.length + b.length
theorem foldl_least {m : Int} (l : List (S37 × S37)) (hl : ∀ p ∈ l, 0 ≤ p.1.f0 ∧ 0 ≤ p.1.f1 ∧ 0 ≤ p.2.f1 ∧ p.1.f1 + p.2.f1 ≤ m) (hm : m ≤ 9223372036854775807) :
  ∀ s : Int × Int, (s = (-1, -1) ∨ 0 ≤ s.2) → (∀ p ∈ l, (l.foldl meetS s).1 ≤ p.1.f1 + p.2.f1) ∧ (s ≠ (-1, -1) → (l.foldl meetS s).1 ≤ s.1) ∧ (l.foldl meetS s = s ∨ ∃ p ∈ l, (l.foldl meetS s).1 = p.1.f1 + p.2.f1) := by
 induction l with
 | nil => intro s hs; exact ⟨fun p hp => by simp at hp, fun _ => Int.le_refl _, .inl rfl⟩
 | cons p l ih =>
  intro s hs
  obtain ⟨h0, h1, h2, h3⟩ := hl p (by simp)
  have hw : IntKind.i64.wrap (p.1.f1 + p.2.f1) = p.1.f1 + p.2.f1 := i64w rfl (by omega) (by omega)
  rw [List.foldl_cons]
  have hms : meetS s p = if s.2 = -1 ∨ p.1.f1 + p.2.f1 ≤ s.1 then (p.1.f1 + p.2.f1, p.1.f0) else s := by
   unfold meetS; rw [hw]
  by_cases hc : s.2 = -1 ∨ p.1.f1 + p.2.f1 ≤ s.1
  ·rw [hms, if_pos hc]
   obtain ⟨i1, i2, i3⟩ := ih (fun q hq => hl q (by simp [hq])) (p.1.f1 + p.2.f1, p.1.f0) (.inr h0)
   have hle := i2 (fun e => by have := congrArg Prod.snd e; simp only at this; omega)
   refine ⟨fun q hq => ?_, fun hne => ?_, .inr ?_⟩
   ·rcases List.mem_cons.1 hq with rfl | hq
    ·exact hle
    ·exact i1 q hq
   ·rcases hs with hs | hs
    ·exact absurd hs hne
    ·rcases hc with hc | hc
     ·omega
     ·simp only at hle; omega
   ·rcases i3 with i3 | ⟨q, hq, i3⟩
    ·exact ⟨p, by simp, by rw [i3]⟩
    ·exact ⟨q, by simp [hq], i3⟩
  ·rw [hms, if_neg hc]
   obtain ⟨i1, i2, i3⟩ := ih (fun q hq => hl q (by simp [hq])) s hs
   have hne : s ≠ (-1, -1) := fun e => hc (.inl (by rw [e]))
   refine ⟨fun q hq => ?_, i2, ?_⟩
   ·rcases List.mem_cons.1 hq with rfl | hq
    ·have := i2 hne; omega
    ·exact i1 q hq
   ·rcases i3 with i3 | ⟨q, hq, i3⟩
    ·exact .inl i3
    ·exact .inr ⟨q, by simp [hq], i3⟩
theorem Wk.rev {E : Int → Int → Int → Prop} {a b d : Int} (h : Wk E a b d) : Wk (fun x y w => E y x w) b a d := by
 obtain ⟨n, h⟩ := h
 induction n generalizing b d with
 | zero =>
  obtain ⟨rfl, rfl⟩ := h
  exact Wk.nil _ _
 | succ n ih =>
  obtain ⟨x, e, w, h1, h2, rfl⟩ := h
  have := (ih h1).cons (E := fun x y w => E y x w) (a := b) (w := w) h2
  rwa [Int.add_comm] at this
structure Exact (n : Nat) (E0 : Int → Int → Int → Prop) (h : HierP) : Prop where
 least : ∀ s u : Nat, s < n → u < n → ∀ d, Wk E0 s u d → 0 ≤ farP n h s u ∧ farP n h s u ≤ d
 real : ∀ s u : Nat, s < n → u < n → 0 ≤ farP n h s u → Wk E0 s u (farP n h s u)
theorem above_in {n : Nat} {h : HierP} {v : Nat} (hv : v < n) (back : Bool) : aboveP n h v back = rowsP n (climbF n h.rank n (h.side back) v) (fun _ => true) := by
 unfold aboveP
 rw [if_pos ⟨by omega, by omega⟩, Int.toNat_natCast]
theorem up_step {n : Nat} {rank : List Int} {ways : List S71} (V : VH n rank ways) {a b w : Int} (h : EUp rank ways a b w) : EdgeS n rank n (buildB rank ways n ways.length true) a b w := by
 obtain ⟨y, hy, e0, e1, e2, hr⟩ := h
 obtain ⟨i, hi, ei⟩ := List.getElem_of_mem hy
 have hei : rd_T71 ways (i : Int) = y := by rw [rd66_get hi, ei]
 obtain ⟨k0, k1, k2, k3, _⟩ := V.ends y hy
 obtain ⟨a, rfl⟩ := Int.eq_ofNat_of_zero_le (show 0 ≤ a by omega)
 refine ⟨a, rfl, by omega, (V.rin a (by omega)).2, ⟨b, w, (i : Int)⟩, ?_, rfl, rfl⟩
 exact buildB_has rank ways n _ ways.length true a (by omega) ⟨i, hi, rfl, by rw [hei, e2], .inl ⟨rfl, by rw [hei, e0, e1]; exact hr, by rw [hei, e0]; simp, by rw [hei, e1]⟩⟩
theorem down_step {n : Nat} {rank : List Int} {ways : List S71} (V : VH n rank ways) {a b w : Int} (h : EDn rank ways b a w) : EdgeS n rank n (buildB rank ways n ways.length false) a b w := by
 obtain ⟨y, hy, e0, e1, e2, hr⟩ := h
 obtain ⟨i, hi, ei⟩ := List.getElem_of_mem hy
 have hei : rd_T71 ways (i : Int) = y := by rw [rd66_get hi, ei]
 obtain ⟨k0, k1, k2, k3, _⟩ := V.ends y hy
 obtain ⟨a, rfl⟩ := Int.eq_ofNat_of_zero_le (show 0 ≤ a by omega)
 refine ⟨a, rfl, by omega, (V.rin a (by omega)).2, ⟨b, w, (i : Int)⟩, ?_, rfl, rfl⟩
 exact buildB_has rank ways n _ ways.length false a (by omega) ⟨i, hi, rfl, by rw [hei, e2], .inr ⟨rfl, by rw [hei, e0, e1]; omega, by rw [hei, e1]; simp, by rw [hei, e0]⟩⟩
theorem Wk.in_range {n : Nat} {rank : List Int} {top : Int} {up : List (List S75)} {wm : Int} (hup : ∀ v : Nat, v < n → EdgesOk n wm (edges up v)) {a b d : Int} (h : Wk (EdgeS n rank top up) a b d) (h0 : 0 ≤ a) (h1 : a < n) : 0 ≤ b ∧ b < n := by
 obtain ⟨k, h⟩ := h
 cases k with
 | zero => obtain ⟨rfl, _⟩ := h; exact ⟨h0, h1⟩
 | succ k =>
  obtain ⟨x, e, w, _, ⟨z, rfl, hz, _, ed, hed, e0, _⟩, _⟩ := h
  have := hup z hz ed hed
  omega
theorem BI.exact {n : Nat} {E0 : Int → Int → Int → Prop} {t : TP} {rk : List Int} {H : List S71} (hB : BI n E0 n t rk H) (hn : n ≤ 12) (x : List Int) : Exact n E0 ⟨rk, x, buildB rk H n H.length true, buildB rk H n H.length false⟩ := by
 have V := hB.vh hn
 have hok := hok_new V x
 obtain ⟨h, hh⟩ : ∃ h : HierP, (⟨rk, x, buildB rk H n H.length true, buildB rk H n H.length false⟩ : HierP) = h := ⟨_, rfl⟩
 have hr : h.rank = rk := by rw [← hh]
 have hu : h.up = buildB rk H n H.length true := by rw [← hh]
 have hd : h.down = buildB rk H n H.length false := by rw [← hh]
 have htrue := fun (v : Nat) (hv : v < n) (back : Bool) (u d : Int) (e : climbF n h.rank n (h.side back) v u = some d) => climb_true V x E0 hB.sh v hv n back u d (by rw [← hh] at e; exact e)
 rw [hh] at hok ⊢
 have hall : ∀ s u : Nat, s < n → u < n → ∀ p ∈ commonP (aboveP n h s false) (aboveP n h u true), 0 ≤ p.1.f0 ∧ 0 ≤ p.1.f1 ∧ 0 ≤ p.2.f1 ∧ p.1.f1 + p.2.f1 ≤ 2305843009213693952 := fun s u _ _ p hp => by
  obtain ⟨h1, h2, h3⟩ := commonP_mem _ _ p hp
  have a := aboveP_mem hok (by omega) h1
  have b := aboveP_mem hok (by omega) h2
  omega
 refine ⟨fun s u hs hu' d hw => ?_, fun s u hs hu' h0 => ?_⟩
 ·obtain ⟨d', hle, y, du, dd, wu, wd, rfl⟩ := hB.cmp rk H ⟨fun _ h => h, fun _ _ _ => rfl, fun v _ hv => by rw [hB.none] at hv; cases hv⟩ (fun a b d ha => by rw [hB.none] at ha; cases ha) s u d (by omega) hs (by omega) hu' hw
  have wu' := Wk.imp (fun a b w g => up_step V g) wu
  have wd' := Wk.imp (fun a b w g => down_step V g) (Wk.rev wd)
  rw [← hu] at wu'
  rw [← hd] at wd'
  have hupO : ∀ v : Nat, v < n → EdgesOk n 1125899906842624 (edges h.up v) := hok.sides false
  have hdnO : ∀ v : Nat, v < n → EdgesOk n 1125899906842624 (edges h.down v) := hok.sides true
  obtain ⟨y0, y1⟩ := wu'.in_range hupO (by omega) (by omega)
  obtain ⟨y, rfl⟩ := Int.eq_ofNat_of_zero_le y0
  obtain ⟨a, ha, hal⟩ := climb_least (rank := rk) (top := n) hupO hok.wm0 s hs wu'
  obtain ⟨b, hb, hbl⟩ := climb_least (rank := rk) (top := n) hdnO hok.wm0 u hu' wd'
  have m1 : (⟨(y : Int), a⟩ : S37) ∈ aboveP n h s false := by
   rw [above_in hs]
   exact rowsP_has (by omega) (by rw [hr]; exact ha) rfl
  have m2 : (⟨(y : Int), b⟩ : S37) ∈ aboveP n h u true := by
   rw [above_in hu']
   exact rowsP_has (by omega) (by rw [hr]; exact hb) rfl
  have hp1 : (aboveP n h s false).Pairwise (fun p q => p.f0 < q.f0) := by rw [above_in hs]; exact rowsP_pair _ _ _
  have hp2 : (aboveP n h u true).Pairwise (fun p q => p.f0 < q.f0) := by rw [above_in hu']; exact rowsP_pair _ _ _
  have hc := commonP_has _ _ _ _ hp1 hp2 m1 m2 rfl
  obtain ⟨l1, _, l3⟩ := foldl_least _ (hall s u hs hu') (by omega) (-1, -1) (.inl rfl)
  have hle2 : farP n h s u ≤ a + b := l1 _ hc
  refine ⟨?_, by omega⟩
  rcases l3 with l3 | ⟨p, hp, l3⟩
  ·exfalso
   have hb := foldl_meet _ (hall s u hs hu') (by omega) (-1, -1) (.inl rfl)
   cases hcm : commonP (aboveP n h s false) (aboveP n h u true) with
   | nil => rw [hcm] at hc; simp at hc
   | cons p l =>
    rw [hcm] at l3
    rw [List.foldl_cons] at l3
    have hall' := hall s u hs hu'
    rw [hcm] at hall'
    obtain ⟨k0, k1, k2, k3⟩ := hall' p (by simp)
    have hw : IntKind.i64.wrap (p.1.f1 + p.2.f1) = p.1.f1 + p.2.f1 := i64w rfl (by omega) (by omega)
    have e : meetS (-1, -1) p = (p.1.f1 + p.2.f1, p.1.f0) := by unfold meetS; rw [hw]; simp
    rw [e] at l3
    have := foldl_meet l (fun q hq => hall' q (by simp [hq])) (by omega) (p.1.f1 + p.2.f1, p.1.f0) (.inr ⟨k0, by simp only; omega, k3⟩)
    rw [l3] at this
    have hgo : ∀ (l : List (S37 × S37)) (s : Int × Int), 0 ≤ s.2 → (∀ q ∈ l, 0 ≤ q.1.f0) → 0 ≤ (l.foldl meetS s).2 := fun l => by
     induction l with
     | nil => intro s hs _; exact hs
     | cons q l ih =>
      intro s hs hq
      rw [List.foldl_cons]
      refine ih _ ?_ (fun r hr => hq r (by simp [hr]))
      unfold meetS
      split
      ·exact hq q (by simp)
      ·exact hs
    have := hgo l (p.1.f1 + p.2.f1, p.1.f0) k0 (fun q hq => (hall' q (by simp [hq])).1)
    rw [l3] at this
    simp at this
  ·have := hall s u hs hu' p hp
   have e : farP n h s u = p.1.f1 + p.2.f1 := l3
   omega
 ·obtain ⟨_, _, l3⟩ := foldl_least _ (hall s u hs hu') (by omega) (-1, -1) (.inl rfl)
  rcases l3 with l3 | ⟨p, hp, l3⟩
  ·exfalso
   have e : farP n h s u = -1 := by unfold farP whereP meetP; rw [l3]
   omega
  ·have e : farP n h s u = p.1.f1 + p.2.f1 := l3
   obtain ⟨m1, m2, m3⟩ := commonP_mem _ _ p hp
   rw [above_in hs] at m1
   rw [above_in hu'] at m2
   obtain ⟨y, hy, a0, a1, _⟩ := rowsP_mem m1
   obtain ⟨z, hz, b0, b1, _⟩ := rowsP_mem m2
   have hyz : y = z := by omega
   subst hyz
   have t1 := htrue s hs false _ _ a1
   have t2 := htrue u hu' true _ _ b1
   simp only [Bool.false_eq_true, if_false, if_true] at t1 t2
   rw [e]
   exact t1.append t2
def distP (n : Nat) (h : HierP) (back : Bool) (a b : Int) : Int := if back = true then farP n h b a else farP n h a b
def AreIn (n : Nat) (l : List S37) : Prop := ∀ z ∈ l, ∃ u : Nat, u < n ∧ z.f0 = u
theorem dist_self {n : Nat} {E0 : Int → Int → Int → Prop} {h : HierP} (X : Exact n E0 h) (back : Bool) (u : Nat) (hu : u < n) : distP n h back u u = 0 := by
 have := X.least u u hu hu 0 (Wk.nil _ _)
 unfold distP
 split <;> omega
theorem dist_tri {n : Nat} {E0 : Int → Int → Int → Prop} {h : HierP} (X : Exact n E0 h) (back : Bool) (a b c : Nat) (ha : a < n) (hb : b < n) (hc : c < n) (h1 : 0 ≤ distP n h back a b) (h2 : 0 ≤ distP n h back b c) : 0 ≤ distP n h back a c ∧ distP n h back a c ≤ distP n h back a b + distP n h back b c := by
 unfold distP at *
 cases back with
 | false =>
  simp only [Bool.false_eq_true, if_false] at *
  exact X.least a c ha hc _ ((X.real a b ha hb h1).append (X.real b c hb hc h2))
 | true =>
  simp only [if_true] at *
  have := X.least c a hc ha _ ((X.real c b hc hb h2).append (X.real b a hb ha h1))
  omega
theorem beats_is {n : Nat} {wm : Int} {h : HierP} (hok : HOk n wm h) (hn : n ≤ 900) {back : Bool} {a b : S37} (e : beatsP n h back a b = true) : 0 ≤ distP n h back a.f0 b.f0 ∧ (a.f1 + distP n h back a.f0 b.f0 < b.f1 ∨ a.f1 + distP n h back a.f0 b.f0 = b.f1 ∧ a.f0 < b.f0) := by
 unfold beatsP at e
 simp only [Bool.and_eq_true, Bool.or_eq_true, decide_eq_true_eq] at e
 have f1 := far_bound hok hn a.f0 b.f0
 have f2 := far_bound hok hn b.f0 a.f0
 unfold distP
 cases back with
 | false => simp only [Bool.false_eq_true, if_false] at e ⊢; omega
 | true => simp only [if_true] at e ⊢; omega
theorem made_up {n : Nat} {E0 : Int → Int → Int → Prop} {wm : Int} {h : HierP} (X : Exact n E0 h) (hok : HOk n wm h) (hn : n ≤ 900) (back : Bool) (l : List S37) (hin : AreIn n l) (h0 : ∀ z ∈ l, 0 ≤ z.f1) (z : S37) (hz : z ∈ l) :
  ∀ (m : Nat) (a : S37), a ∈ l → a.f1.toNat * 1000 + a.f0.toNat ≤ m → 0 ≤ distP n h back a.f0 z.f0 → a.f1 + distP n h back a.f0 z.f0 ≤ z.f1 → ∃ p ∈ pruneP n h back l, 0 ≤ distP n h back p.f0 z.f0 ∧ p.f1 + distP n h back p.f0 z.f0 ≤ z.f1 := fun m => by
 have step : ∀ a ∈ l, 0 ≤ distP n h back a.f0 z.f0 → a.f1 + distP n h back a.f0 z.f0 ≤ z.f1 → (∃ p ∈ pruneP n h back l, 0 ≤ distP n h back p.f0 z.f0 ∧ p.f1 + distP n h back p.f0 z.f0 ≤ z.f1) ∨
   ∃ c ∈ l, 0 ≤ distP n h back c.f0 z.f0 ∧ c.f1 + distP n h back c.f0 z.f0 ≤ z.f1 ∧ c.f1.toNat * 1000 + c.f0.toNat < a.f1.toNat * 1000 + a.f0.toNat := fun a ha d0 d1 => by
  by_cases hb : l.any (fun c => beatsP n h back c a) = true
  ·right
   obtain ⟨c, hc, hca⟩ := List.any_eq_true.1 hb
   obtain ⟨e0, e1⟩ := beats_is hok hn hca
   obtain ⟨u, hu, eu⟩ := hin c hc
   obtain ⟨v, hv, ev⟩ := hin a ha
   obtain ⟨y, hy, ey⟩ := hin z hz
   have hc0 := h0 c hc
   have ha0 := h0 a ha
   rw [ev, ey] at d0 d1
   rw [eu, ev] at e0 e1
   have ht := dist_tri X back u v y hu hv hy e0 d0
   refine ⟨c, hc, by rw [eu, ey]; exact ht.1, by rw [eu, ey]; omega, ?_⟩
   rw [eu, ev] at *
   omega
  ·left
   refine ⟨a, ?_, d0, d1⟩
   unfold pruneP
   exact List.mem_filter.2 ⟨ha, by simpa using hb⟩
 induction m with
 | zero =>
  intro a ha hm d0 d1
  rcases step a ha d0 d1 with h | ⟨c, _, _, _, h⟩
  ·exact h
  ·omega
 | succ m ih =>
  intro a ha hm d0 d1
  rcases step a ha d0 d1 with h | ⟨c, hc, c0, c1, h⟩
  ·exact h
  ·exact ih c hc (Nat.le_of_lt_succ (Nat.lt_of_lt_of_le h hm)) c0 c1
theorem made_all {n : Nat} {E0 : Int → Int → Int → Prop} {wm : Int} {h : HierP} (X : Exact n E0 h) (hok : HOk n wm h) (hn : n ≤ 900) (back : Bool) (l : List S37) (hin : AreIn n l) (h0 : ∀ z ∈ l, 0 ≤ z.f1) (z : S37) (hz : z ∈ l) :
  ∃ p ∈ pruneP n h back l, 0 ≤ distP n h back p.f0 z.f0 ∧ p.f1 + distP n h back p.f0 z.f0 ≤ z.f1 := by
 obtain ⟨u, hu, e⟩ := hin z hz
 have := dist_self X back u hu
 rw [← e] at this
 exact made_up X hok hn back l hin h0 z hz _ z hz (Nat.le_refl _) (by omega) (by omega)
theorem prune_sub {n : Nat} {h : HierP} {back : Bool} {l : List S37} {p : S37} (hp : p ∈ pruneP n h back l) : p ∈ l := by
 unfold pruneP at hp
 exact (List.mem_filter.1 hp).1
theorem wk_first {E F : Int → Int → Int → Prop} {rk : Int → Int} {low : Int} (hEF : ∀ a b w, E a b w → rk a < low → F a b w) {s y d : Int} (h : Wk E s y d) :
  ∃ a d1 d2, Wk F s a d1 ∧ Wk E a y d2 ∧ d1 + d2 = d ∧ (low ≤ rk a ∨ (a = y ∧ d2 = 0)) := by
 obtain ⟨k, h⟩ := h
 induction k generalizing y d with
 | zero =>
  obtain ⟨rfl, rfl⟩ := h
  exact ⟨_, 0, 0, Wk.nil _ _, Wk.nil _ _, rfl, .inr ⟨rfl, rfl⟩⟩
 | succ k ih =>
  obtain ⟨x, e, w, h1, h2, rfl⟩ := h
  obtain ⟨a, d1, d2, f1, f2, f3, f4⟩ := ih h1
  by_cases hl : low ≤ rk a
  ·exact ⟨a, d1, d2 + w, f1, f2.snoc h2, by omega, .inl hl⟩
  ·rcases f4 with f4 | ⟨rfl, rfl⟩
   ·exact absurd f4 hl
   ·exact ⟨y, d1 + w, 0, f1.snoc (hEF _ _ _ h2 (by omega)), Wk.nil _ _, by omega, .inr ⟨rfl, rfl⟩⟩
theorem wk_rises {E : Int → Int → Int → Prop} {rk : Int → Int} (hE : ∀ a b w, E a b w → rk a < rk b) {s y d : Int} (h : Wk E s y d) : rk s ≤ rk y := by
 obtain ⟨k, h⟩ := h
 induction k generalizing y d with
 | zero => obtain ⟨rfl, _⟩ := h; exact Int.le_refl _
 | succ k ih =>
  obtain ⟨x, e, w, h1, h2, _⟩ := h
  have := ih h1
  have := hE _ _ _ h2
  omega
theorem EdgeS.lower {n : Nat} {rank : List Int} {t1 t2 : Int} {up : List (List S75)} {a b w : Int} (h : EdgeS n rank t1 up a b w) (hl : rd rank a < t2) : EdgeS n rank t2 up a b w := by
 obtain ⟨x, rfl, hx, _, he⟩ := h
 exact ⟨x, rfl, hx, hl, he⟩
structure MH (n : Nat) (E0 : Int → Int → Int → Prop) (h : HierP) : Prop where
 ex : Exact n E0 h
 ok : HOk n 1125899906842624 h
 real : ∀ v : Nat, v < n → ∀ (top : Int) (back : Bool) (u d : Int), climbF n h.rank top (h.side back) v u = some d → if back = true then Wk E0 u v d else Wk E0 v u d
 split : ∀ s t : Nat, s < n → t < n → ∀ d, Wk E0 s t d → ∀ low : Int, (∃ (m : Nat) (x y : Int), m < n ∧ rd h.rank (m : Int) < low ∧ climbF n h.rank low (h.side false) s (m : Int) = some x ∧ climbF n h.rank low (h.side true) t (m : Int) = some y) ∨
  ∃ (a b : Nat) (x y q : Int), a < n ∧ b < n ∧ low ≤ rd h.rank (a : Int) ∧ low ≤ rd h.rank (b : Int) ∧ climbF n h.rank low (h.side false) s (a : Int) = some x ∧ climbF n h.rank low (h.side true) t (b : Int) = some y ∧ Wk E0 a b q ∧ x + q + y ≤ d
theorem BI.mh {n : Nat} {E0 : Int → Int → Int → Prop} {t : TP} {rk : List Int} {H : List S71} (hB : BI n E0 n t rk H) (hn : n ≤ 12) (x : List Int) : MH n E0 ⟨rk, x, buildB rk H n H.length true, buildB rk H n H.length false⟩ := by
 have V := hB.vh hn
 have hok := hok_new V x
 have hreal := fun (v : Nat) (hv : v < n) (top : Int) (back : Bool) (u d : Int) => climb_true V x E0 hB.sh v hv top back u d
 have hex := hB.exact hn x
 obtain ⟨h, hh⟩ : ∃ h : HierP, (⟨rk, x, buildB rk H n H.length true, buildB rk H n H.length false⟩ : HierP) = h := ⟨_, rfl⟩
 have hr : h.rank = rk := by rw [← hh]
 have hu : h.up = buildB rk H n H.length true := by rw [← hh]
 have hd : h.down = buildB rk H n H.length false := by rw [← hh]
 rw [hh] at hok hex hreal ⊢
 have hupO : ∀ v : Nat, v < n → EdgesOk n 1125899906842624 (edges h.up v) := hok.sides false
 have hdnO : ∀ v : Nat, v < n → EdgesOk n 1125899906842624 (edges h.down v) := hok.sides true
 have hrl : rk = h.rank := hr.symm
 refine ⟨hex, hok, fun v hv top back u d e => hreal v hv top back u d (by rw [hr] at e; exact e), fun s t hs ht d hw low => ?_⟩
 obtain ⟨d', hle, y, du, dd, wu, wd, rfl⟩ := hB.cmp rk H ⟨fun _ h => h, fun _ _ _ => rfl, fun v _ hv => by rw [hB.none] at hv; cases hv⟩ (fun a b d ha => by rw [hB.none] at ha; cases ha) s t d (by omega) hs (by omega) ht hw
 have wd := Wk.rev wd
 have hyr := (Wk.imp (fun a b w g => up_step V g) wu)
 rw [← hu] at hyr
 obtain ⟨y0, y1⟩ := hyr.in_range hupO (by omega) (by omega)
 obtain ⟨y, rfl⟩ := Int.eq_ofNat_of_zero_le y0
 obtain ⟨a, a1, a2, fa, ga, ea, ha⟩ := wk_first (F := EdgeS n rk low h.up) (rk := rd rk) (low := low) (fun a b w g hl => by rw [hu]; exact (up_step V g).lower hl) wu
 obtain ⟨b, b1, b2, fb, gb, eb, hb⟩ := wk_first (F := EdgeS n rk low h.down) (rk := rd rk) (low := low) (fun a b w g hl => by rw [hd]; exact (down_step V g).lower hl) wd
 have ra : rd rk a ≤ rd rk (y : Int) := wk_rises (fun a b w g => by obtain ⟨_, _, _, _, _, g⟩ := g; exact g) ga
 have rb : rd rk b ≤ rd rk (y : Int) := wk_rises (fun a b w g => by obtain ⟨_, _, _, _, _, g⟩ := g; exact g) gb
 obtain ⟨aa0, aa1⟩ := fa.in_range hupO (by omega) (by omega)
 obtain ⟨bb0, bb1⟩ := fb.in_range hdnO (by omega) (by omega)
 obtain ⟨a, rfl⟩ := Int.eq_ofNat_of_zero_le aa0
 obtain ⟨b, rfl⟩ := Int.eq_ofNat_of_zero_le bb0
 obtain ⟨x1, hx1, lx1⟩ := climb_least (rank := rk) (top := low) hupO hok.wm0 s hs fa
 obtain ⟨y1', hy1, ly1⟩ := climb_least (rank := rk) (top := low) hdnO hok.wm0 t ht fb
 rw [hr]
 by_cases hy : rd rk (y : Int) < low
 ·left
  have e1 : a = y := by
   rcases ha with ha | ⟨ha, _⟩
   ·omega
   ·omega
  have e2 : b = y := by
   rcases hb with hb | ⟨hb, _⟩
   ·omega
   ·omega
  subst e1 e2
  exact ⟨_, x1, y1', by omega, hy, hx1, hy1⟩
 ·right
  have la : low ≤ rd rk (a : Int) := by
   rcases ha with ha | ⟨ha, _⟩
   ·exact ha
   ·rw [ha]; omega
  have lb : low ≤ rd rk (b : Int) := by
   rcases hb with hb | ⟨hb, _⟩
   ·exact hb
   ·rw [hb]; omega
  have ga' := Wk.imp (fun a b w g => up_step V g) ga
  have gb' := Wk.imp (fun a b w g => down_step V g) gb
  rw [← hu] at ga'
  rw [← hd] at gb'
  obtain ⟨p, hp, lp⟩ := climb_least (rank := rk) (top := n) hupO hok.wm0 a (by omega) ga'
  obtain ⟨q, hq, lq⟩ := climb_least (rank := rk) (top := n) hdnO hok.wm0 b (by omega) gb'
  have rp := hreal a (by omega) n false _ _ hp
  have rq := hreal b (by omega) n true _ _ hq
  simp only [Bool.false_eq_true, if_false, if_true] at rp rq
  exact ⟨a, b, x1, y1', p + q, by omega, by omega, la, lb, hx1, hy1, rp.append rq, by omega⟩
def outP (n : Nat) (h : HierP) (v : Nat) (low : Int) (back : Bool) : List S37 := pruneP n h back (highP n h v low back)
theorem MH.through {n : Nat} {E0 : Int → Int → Int → Prop} {h : HierP} (M : MH n E0 h) (s t : Nat) (hs : s < n) (ht : t < n) (low : Int) (p q : S37) (hp : p ∈ outP n h s low false) (hq : q ∈ outP n h t low true) (h0 : 0 ≤ farP n h p.f0 q.f0) :
  Wk E0 s t (p.f1 + farP n h p.f0 q.f0 + q.f1) := by
 obtain ⟨a, ha, e0, e1, _⟩ := rowsP_mem (prune_sub hp)
 obtain ⟨b, hb, g0, g1, _⟩ := rowsP_mem (prune_sub hq)
 have w1 := M.real s hs low false _ _ e1
 have w2 := M.real t ht low true _ _ g1
 simp only [Bool.false_eq_true, if_false, if_true] at w1 w2
 rw [e0, g0] at h0 ⊢
 exact (w1.append (M.ex.real a b ha hb h0)).append w2
theorem MH.best {n : Nat} {E0 : Int → Int → Int → Prop} {h : HierP} (M : MH n E0 h) (hn : n ≤ 900) (s t : Nat) (hs : s < n) (ht : t < n) (low : Int) (d : Int) (hw : Wk E0 s t d) :
  (∃ m : Nat, (m : Int) ∈ (lowP n h s low false).map (·.f0) ∧ (m : Int) ∈ (lowP n h t low true).map (·.f0)) ∨
   ∃ p ∈ outP n h s low false, ∃ q ∈ outP n h t low true, 0 ≤ farP n h p.f0 q.f0 ∧ p.f1 + farP n h p.f0 q.f0 + q.f1 ≤ d := by
 rcases M.split s t hs ht d hw low with ⟨m, x, y, hm, hr, hx, hy⟩ | ⟨a, b, x, y, k, ha, hb, la, lb, hx, hy, hk, hle⟩
 ·left
  refine ⟨m, List.mem_map.2 ⟨⟨m, x⟩, rowsP_has hm hx ?_, rfl⟩, List.mem_map.2 ⟨⟨m, y⟩, rowsP_has hm hy ?_, rfl⟩⟩ <;> simpa using hr
 ·right
  have m1 : (⟨(a : Int), x⟩ : S37) ∈ highP n h s low false := rowsP_has ha hx (by simpa using la)
  have m2 : (⟨(b : Int), y⟩ : S37) ∈ highP n h t low true := rowsP_has hb hy (by simpa using lb)
  have hin : ∀ (v : Nat) (back : Bool), AreIn n (highP n h v low back) := fun v back z hz => by
   obtain ⟨u, hu, e0, _⟩ := rowsP_mem hz
   exact ⟨u, hu, e0⟩
  obtain ⟨p, hp, p0, p1⟩ := made_all M.ex M.ok hn false _ (hin s false) (fun z hz => ((highP_in M.ok hn s hs low false).2 z hz).1) _ m1
  obtain ⟨q, hq, q0, q1⟩ := made_all M.ex M.ok hn true _ (hin t true) (fun z hz => ((highP_in M.ok hn t ht low true).2 z hz).1) _ m2
  obtain ⟨u, hu, eu⟩ := hin s false p (prune_sub hp)
  obtain ⟨v, hv, ev⟩ := hin t true q (prune_sub hq)
  unfold distP at p0 p1 q0 q1
  simp only [Bool.false_eq_true, if_false, if_true] at p0 p1 q0 q1
  rw [eu] at p0 p1
  rw [ev] at q0 q1
  have w1 := M.ex.real u a hu ha p0
  have w2 := M.ex.real b v hb hv q0
  have hl := M.ex.least u v hu hv _ ((w1.append hk).append w2)
  refine ⟨p, hp, q, hq, ?_, ?_⟩ <;> rw [eu, ev] <;> omega
end Go.Proofs.YtfkejflmhidnaaaGreat.PAll
