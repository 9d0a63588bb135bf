import Derived.Test.YtfkejflmhidnaaaGreatQZChB
import Derived.Test.YtfkejflmhidnaaaGreatQFSlicesIndexIntInt
import Derived.Test.YtfkejflmhidnaaaGreatQZGcQ
import Derived.Test.YtfkejflmhidnaaaGreatQFrP
import Derived.Test.YtfkejflmhidnaaaGreatQZTbA
import Derived.Test.YtfkejflmhidnaaaGreatQKnE
set_option linter.all false
namespace Go.Proofs.YtfkejflmhidnaaaGreat.PAll
open RowKit YtfkejflmhidnaaaGreatW.PrintWords YtfkejflmhidnaaaGreatW.PrintLast YtfkejflmhidnaaaGreatW.PrintMore
open Hp hiding Good
def Ends {α : Type} (f : Nat → Option α) (r : α) : Prop := ∃ k, ∀ m, k ≤ m → f m = some r
theorem Ends.pure {α : Type} (r : α) : Ends (fun _ => some r) r := ⟨0, fun _ _ => rfl⟩
theorem Ends.succ {α : Type} {f g : Nat → Option α} {r : α} (h : Ends g r) (e : ∀ k, f (k + 1) = g k) : Ends f r := by
 obtain ⟨k, h⟩ := h
 refine ⟨k + 1, fun m hm => ?_⟩
 obtain ⟨n, rfl⟩ : ∃ n, m = n + 1 := ⟨m - 1, by omega⟩
 exact (e n).trans (h n (by omega))
theorem Ends.at {α : Type} {f : Nat → Option α} {r : α} (h : Ends f r) : ∃ k, f k = some r := by
 obtain ⟨k, h⟩ := h
 exact ⟨k, h k (Nat.le_refl _)⟩
theorem index_loop (l : List Int) (t : Int) (hs : l.Nodup) (hl : l.length ≤ 1000000) : ∀ (m i : Nat), l.length - i ≤ m → i ≤ l.length → (∀ q : Nat, q < i → rd l (q : Int) ≠ t) → Ends (fun k => slices_Index_int_int.l0 k l t (l.length : Int) (i : Int)) (idxP l t) := fun m => by
 have no : (∀ q : Nat, q < l.length → rd l (q : Int) ≠ t) → idxP l t = -1 := fun h => idxP_no (fun hm => by
  obtain ⟨j, _, hj, e⟩ := idxP_in hm
  exact h j hj e)
 induction m with
 | zero =>
  intro i hm hi hq
  have : i = l.length := by omega
  subst this
  refine Ends.succ (Ends.pure _) (fun k => ?_)
  simp only [slices_Index_int_int.l0]
  rw [if_neg (by omega), no hq]
 | succ m ih =>
  intro i hm hi hq
  by_cases hil : i < l.length
  ·by_cases e : t = rd l (i : Int)
   ·refine Ends.succ (Ends.pure _) (fun k => ?_)
    simp only [slices_Index_int_int.l0]
    rw [if_pos (by omega), if_pos (by omega), if_pos (by omega), if_pos e, idxP_at hs hil e.symm]
   ·refine Ends.succ (ih (i + 1) (by omega) (by omega) (fun q hq2 => ?_)) (fun k => ?_)
    ·rcases Nat.lt_or_ge q i with h | h
     ·exact hq q h
     ·obtain rfl : q = i := by omega
      exact fun f => e f.symm
    ·simp only [slices_Index_int_int.l0]
     rw [if_pos (by omega), if_pos (by omega), if_pos (by omega), if_neg e]
     have : wrap64 ((i : Int) + 1) = ((i + 1 : Nat) : Int) := by unfold wrap64; omega
     rw [this]
  ·refine Ends.succ (Ends.pure _) (fun k => ?_)
   simp only [slices_Index_int_int.l0]
   rw [if_neg (by omega), no (fun q hq2 => hq q (by omega))]
theorem index_walk69 (w : World) (A : Option Addr) (c : Nat) (l : List Int) (t : Int) (hC : Kd.C (Kd.int .i64) w A l.length l) (hc : l.length ≤ c) (hs : l.Nodup) (hl : l.length ≤ 1000000) :
  Calls Tryz.prog 69 #[.slice A l.length c, .int .i64 t] w fun r w' => r = .returned (.int .i64 (idxP l t)) ∧ ∃ j, w' = w.drewN j := by
 obtain ⟨k, hk⟩ := (index_loop l t hs hl l.length 0 (by omega) (by omega) (fun q hq => by omega)).at
 refine (slices_Index_int_int.calls k A c l t (idxP l t) w hC hc hk).mono ?_
 rintro e w' ⟨rfl, hd⟩
 obtain ⟨⟨j, rfl⟩⟩ := hd
 exact ⟨rfl, j, rfl⟩
theorem place2_walk (w : World) (a : TabAt) (t : TabP) (v : Int) (hT : TabC w a t) (hs : t.g.Nodup) (hl : t.g.length ≤ 1000000) :
  Calls Tryz.prog 30 #[.agg (a.cells t), .int .i64 v] w fun r w' => r = .returned (.int .i64 (idxP t.g v)) ∧ Below w.heap.size w w' := by
 obtain ⟨A0, c0, A1, c1, A2, c2, A3, c3, A4, c4, A5, c5⟩ := a
 have HB : Hid (Below w.heap.size w (w.alloc (.cells #[.slice A0 t.g.length c0, .slice A1 t.far.length c1, .slice A2 t.out.length c2, .slice A3 t.inn.length c3, .slice A4 t.so.length c4, .slice A5 t.si.length c5] 46))) := Lib.hid ((Below.refl _ _).alloc (Nat.le_refl _) _)
 have HI := Lib.hid (index_walk69 _ A0 c0 t.g v (hT.below HB.out).g hT.cg hs hl)
 clear hT hs hl
 show Calls Tryz.prog 30 #[.agg #[.slice A0 t.g.length c0, .slice A1 t.far.length c1, .slice A2 t.out.length c2, .slice A3 t.inn.length c3, .slice A4 t.so.length c4, .slice A5 t.si.length c5], .int .i64 v] w fun r w' => r = .returned (.int .i64 (idxP t.g v)) ∧ Below w.heap.size w w'
 generalize idxP t.g v = p at *
 generalize t.g.length = l0 at *
 generalize t.far.length = l1 at *
 generalize t.out.length = l2 at *
 generalize t.inn.length = l3 at *
 generalize t.so.length = l4 at *
 generalize t.si.length = l5 at *
 go_enter Tryz.func30, Tryz.ntmps30
 go_wp2_with (first | (go_at_call 69; refine HI.out.mono ?_; rintro e w1 ⟨rfl, j, rfl⟩))
 all_goals go_ret
 all_goals exact ⟨rfl, pw_below_drewN HB.out _⟩
structure GrOk (n : Nat) (h : HierP) : Prop where
 rin : ∀ v : Nat, v < n → 0 ≤ rd h.rank v ∧ rd h.rank v < n
 inj : ∀ u v : Nat, u < n → v < n → rd h.rank u = rd h.rank v → u = v
 at' : ∀ u : Nat, u < n → rd h.at' (rd h.rank u) = u
variable {n : Nat} {h : HierP} {wm : Int}
theorem GrOk.asc (G : GrOk n h) (k : Int) : (greatP n h k).Pairwise (fun a b => a < b) := by
 have hc := clipP_in n k
 obtain ⟨h1, _⟩ := great_nodup G.rin G.inj G.at' (clipP n k).toNat (by omega)
 exact sorted_lt (sortP_pair _) ((sortP_perm _).nodup_iff.2 h1)
theorem GrOk.mem (G : GrOk n h) (k : Int) (z : Int) : z ∈ greatP n h k ↔ ∃ u : Nat, u < n ∧ z = u ∧ lowAt n k ≤ rd h.rank (u : Int) := by
 have hc := clipP_in n k
 have hl : lowAt n k = (n : Int) - ((clipP n k).toNat : Nat) := by unfold lowAt; omega
 obtain ⟨_, h2⟩ := great_nodup G.rin G.inj G.at' (clipP n k).toNat (by omega)
 have hperm := sortP_perm (greatL n h.at' (clipP n k).toNat)
 unfold greatP
 rw [hperm.mem_iff]
 constructor
 ·intro hz
  obtain ⟨u, hu, rfl, hr⟩ := h2 z hz
  exact ⟨u, hu, rfl, by omega⟩
 ·rintro ⟨u, hu, rfl, hp⟩
  have hr := G.rin u hu
  unfold greatL
  rw [List.mem_map]
  refine ⟨n - 1 - (rd h.rank (u : Int)).toNat, List.mem_range.2 (by omega), ?_⟩
  rw [show ((n - 1 - (n - 1 - (rd h.rank (u : Int)).toNat) : Nat) : Int) = rd h.rank (u : Int) by omega]
  exact G.at' u hu
theorem above_small (hok : HOk n wm h) (hn : n ≤ 20) {v : Int} {back : Bool} {x : S37} (hx : x ∈ aboveP n h v back) : 0 ≤ x.f1 ∧ x.f1 ≤ 23643898043695104 := by
 unfold aboveP at hx
 by_cases hv : 0 ≤ v ∧ v < n
 ·rw [if_pos hv] at hx
  obtain ⟨u, hu, e0, e1, _⟩ := rowsP_mem hx
  have := climb_bound (hok.sides back) hok.wm0 v.toNat (by omega) _ _ e1
  have h1 := hok.wm1
  have h2 : ((n : Int) + 1) * wm ≤ 21 * 1125899906842624 := Int.mul_le_mul (by omega) h1 hok.wm0 (by omega)
  omega
 ·rw [if_neg hv] at hx; simp at hx
theorem high_small (hok : HOk n wm h) (hn : n ≤ 20) {v : Nat} (hv : v < n) {top : Int} {back : Bool} {x : S37} (hx : x ∈ highP n h v top back) : 0 ≤ x.f1 ∧ x.f1 ≤ 23643898043695104 := by
 obtain ⟨u, hu, e0, e1, _⟩ := rowsP_mem hx
 have := climb_bound (hok.sides back) hok.wm0 v hv _ _ e1
 have h1 := hok.wm1
 have h2 : ((n : Int) + 1) * wm ≤ 21 * 1125899906842624 := Int.mul_le_mul (by omega) h1 hok.wm0 (by omega)
 omega
theorem far_small (hok : HOk n wm h) (hn : n ≤ 20) (s t : Int) : farP n h s t = -1 ∨ (0 ≤ farP n h s t ∧ farP n h s t ≤ 47287796087390208) := by
 rcases far_lst hok (by omega) s t with ⟨e, _⟩ | ⟨⟨x, hx, y, hy, _, e⟩, _⟩
 ·exact .inl e
 ·have := above_small hok hn hx
  have := above_small hok hn hy
  exact .inr ⟨by omega, by omega⟩
theorem climb_self (hok : HOk n wm h) (v : Nat) (hv : v < n) (top : Int) (back : Bool) : climbF n h.rank top (h.side back) v (v : Int) = some 0 := by
 obtain ⟨y, hy, hle⟩ := climb_least (rank := h.rank) (top := top) (hok.sides back) hok.wm0 v hv (Wk.nil _ (v : Int))
 have := climb_bound (hok.sides back) hok.wm0 v hv _ _ hy
 rw [hy]
 congr 1
 omega
theorem above_self (hok : HOk n wm h) (v : Nat) (hv : v < n) (back : Bool) : (⟨(v : Int), 0⟩ : S37) ∈ aboveP n h v back := by
 rw [above_in hv]
 exact rowsP_has hv (climb_self hok v hv n back) rfl
theorem far_self (hok : HOk n wm h) (hn : n ≤ 900) (v : Nat) (hv : v < n) : farP n h v v = 0 := by
 have hm : ∀ d, (∃ x ∈ aboveP n h v false, ∃ y ∈ aboveP n h v true, x.f0 = y.f0 ∧ d = x.f1 + y.f1) → 0 ≤ d := fun d ⟨x, hx, y, hy, _, e⟩ => by
  have := aboveP_mem hok hn hx
  have := aboveP_mem hok hn hy
  omega
 have h0 : ∃ x ∈ aboveP n h v false, ∃ y ∈ aboveP n h v true, x.f0 = y.f0 ∧ (0 : Int) = x.f1 + y.f1 := ⟨_, above_self hok v hv false, _, above_self hok v hv true, rfl, rfl⟩
 rcases far_lst hok hn v v with ⟨_, e⟩ | ⟨e, l⟩
 ·exact absurd h0 (e 0)
 ·have := l 0 h0
  have := hm _ e
  omega
theorem okToI_of {may : Int → Bool} {r : List Int} (hp : r.Pairwise (fun a b => a < b)) (hm : ∀ x ∈ r, may x = true) : okToI may r r.length = true := by
 unfold okToI
 rw [List.all_eq_true]
 intro q hq
 have hq := List.mem_range.1 hq
 unfold stepTI
 rw [rd_get hq, hm _ (List.getElem_mem _)]
 by_cases e : q = 0
 ·simp [e]
 ·have h1 := List.pairwise_iff_getElem.1 hp (q - 1) q (by omega) hq (by omega)
  rw [show (q : Int) - 1 = ((q - 1 : Nat) : Int) by omega, rd_get (show q - 1 < r.length by omega)]
  simp [h1]
theorem risingI_of {may : Int → Bool} {rows : List (List Int)} {m : Int} (hl : (rows.length : Int) = m) (h : ∀ r ∈ rows, r.Pairwise (fun a b => a < b) ∧ ∀ x ∈ r, may x = true) : risingI may rows m = true := by
 unfold risingI
 rw [Bool.and_eq_true, List.all_eq_true]
 exact ⟨by simpa using hl, fun r hr => okToI_of (h r hr).1 (h r hr).2⟩
theorem rd37_get {l : List S37} {q : Nat} (h : q < l.length) : rd_T37 l (q : Int) = l[q] := by simp [rd_T37, List.getD, h]
theorem okToR_of {may : S37 → Bool} {r : List S37} (hp : r.Pairwise (fun a b => a.f0 < b.f0)) (hm : ∀ x ∈ r, may x = true) : okToR may r r.length = true := by
 unfold okToR
 rw [List.all_eq_true]
 intro q hq
 have hq := List.mem_range.1 hq
 unfold stepTR
 rw [rd37_get hq, hm _ (List.getElem_mem _)]
 by_cases e : q = 0
 ·simp [e]
 ·have h1 := List.pairwise_iff_getElem.1 hp (q - 1) q (by omega) hq (by omega)
  rw [show (q : Int) - 1 = ((q - 1 : Nat) : Int) by omega, rd37_get (show q - 1 < r.length by omega)]
  simp [h1]
theorem risingR_of {may : S37 → Bool} {rows : List (List S37)} {m : Int} (hl : (rows.length : Int) = m) (h : ∀ r ∈ rows, r.Pairwise (fun a b => a.f0 < b.f0) ∧ ∀ x ∈ r, may x = true) : risingR may rows m = true := by
 unfold risingR
 rw [Bool.and_eq_true, List.all_eq_true]
 exact ⟨by simpa using hl, fun r hr => okToR_of (h r hr).1 (h r hr).2⟩
theorem rdL5_get {l : List (List Int)} {q : Nat} (h : q < l.length) : rd_L5 l (q : Int) = l[q] := by simp [rd_L5, List.getD, h]
theorem farOk_table (hok : HOk n wm h) (hn : n ≤ 20) (G : GrOk n h) (k : Int) : farOk (greatP n h k).length (tableP n h (greatP n h k) (greatP n h k)) = true := by
 have hlen : (tableP n h (greatP n h k) (greatP n h k)).length = (greatP n h k).length := by simp [tableP]
 unfold farOk
 rw [Bool.and_eq_true, List.all_eq_true]
 refine ⟨by simpa using hlen, fun i hi => ?_⟩
 have hi := List.mem_range.1 hi
 have hig : i < (greatP n h k).length := by omega
 have hrow : rd_L5 (tableP n h (greatP n h k) (greatP n h k)) (i : Int) = (greatP n h k).map (fun t => farP n h (greatP n h k)[i] t) := by
  rw [rdL5_get hi]; simp [tableP]
 obtain ⟨u, hu, eu, _⟩ := (G.mem k _).1 (List.getElem_mem hig)
 unfold farRow
 rw [hrow]
 have h1 : rd ((greatP n h k).map (fun t => farP n h (greatP n h k)[i] t)) (i : Int) = 0 := by
  rw [rd_get (by simpa using hig), List.getElem_map, eu]
  exact far_self hok (by omega) u hu
 have h2 : badP ((greatP n h k).map (fun t => farP n h (greatP n h k)[i] t)) = false := by
  unfold badP
  rw [List.any_eq_false]
  intro d hd
  obtain ⟨t, ht, rfl⟩ := List.mem_map.1 hd
  have := far_small hok hn (greatP n h k)[i] t
  unfold longP
  simp only [Bool.not_eq_true, Bool.not_eq_false', Bool.and_eq_true, decide_eq_true_eq]
  omega
 rw [h1, h2]
 simp
theorem out_pair (v : Nat) (low : Int) (back : Bool) : (outP n h v low back).Pairwise (fun a b => a.f0 < b.f0) := (rowsP_pair _ _ _).filter _
theorem out_great (hok : HOk n wm h) (hn : n ≤ 20) (G : GrOk n h) (k : Int) {v : Nat} (hv : v < n) {back : Bool} {x : S37} (hx : x ∈ outP n h v (lowAt n k) back) : x.f0 ∈ greatP n h k ∧ 0 ≤ x.f1 ∧ x.f1 ≤ 23643898043695104 := by
 have h1 := prune_sub hx
 obtain ⟨u, hu, e0, _, e2⟩ := rowsP_mem h1
 exact ⟨(G.mem k _).2 ⟨u, hu, e0, by simpa using e2⟩, high_small hok hn hv h1⟩
theorem sub_low (G : GrOk n h) (k : Int) {v : Nat} {back : Bool} {x : Int} (hx : x ∈ subQ n h v k back) : ∃ u : Nat, u < n ∧ x = u ∧ x ∉ greatP n h k := by
 obtain ⟨y, hy, rfl⟩ := List.mem_map.1 hx
 obtain ⟨u, hu, e0, _, e2⟩ := rowsP_mem hy
 refine ⟨u, hu, e0, fun f => ?_⟩
 obtain ⟨u', hu', e', hr⟩ := (G.mem k _).1 f
 have : u = u' := by omega
 subst this
 have : rd h.rank (u : Int) < lowAt n k := by simpa using e2
 omega
theorem sub_pair (v : Nat) (k : Int) (back : Bool) : (subQ n h v k back).Pairwise (fun a b => a < b) := by
 unfold subQ
 rw [List.pairwise_map]
 exact rowsP_pair _ _ _
theorem check_build (hok : HOk n wm h) (hn : n ≤ 20) (G : GrOk n h) (k : Int) : checkP n (buildT n h k) = 0 := by
 have i1 : ¬ (n : Int) > 16777216 := by omega
 have i2 : ¬ (n : Int) < 0 := by omega
 have r1 : risingI (inP n) [greatP n h k] 1 = true := risingI_of rfl (fun r hr => by
  rw [List.mem_singleton.1 hr]
  refine ⟨G.asc k, fun x hx => ?_⟩
  obtain ⟨u, hu, rfl, _⟩ := (G.mem k x).1 hx
  unfold inP
  simp only [Bool.and_eq_true, decide_eq_true_eq]
  omega)
 have ro : ∀ back : Bool, risingR (greatQ (greatP n h k)) ((List.range n).map (fun v => outP n h v (lowAt n k) back)) n = true := fun back => risingR_of (by simp) (fun r hr => by
  obtain ⟨v, hv, rfl⟩ := List.mem_map.1 hr
  refine ⟨out_pair v _ back, fun x hx => ?_⟩
  obtain ⟨h1, h2, h3⟩ := out_great hok hn G k (List.mem_range.1 hv) hx
  unfold greatQ longP
  simp only [Bool.and_eq_true, decide_eq_true_eq]
  exact ⟨idxP_ge.2 h1, by omega, by omega⟩)
 have rs : ∀ back : Bool, risingI (lowQ (greatP n h k) n) ((List.range n).map (fun v => subQ n h v k back)) n = true := fun back => risingI_of (by simp) (fun r hr => by
  obtain ⟨v, hv, rfl⟩ := List.mem_map.1 hr
  refine ⟨sub_pair v k back, fun x hx => ?_⟩
  obtain ⟨u, hu, e, hno⟩ := sub_low G k hx
  unfold lowQ inP
  rw [idxP_no hno]
  simp only [Bool.and_eq_true, decide_eq_true_eq]
  omega)
 unfold checkP
 show (if (n : Int) > 16777216 then (3 : Int) else if (n : Int) < 0 then 2 else if risingI (inP n) [greatP n h k] 1 = false then 2 else if farOk (greatP n h k).length (tableP n h (greatP n h k) (greatP n h k)) = false then 2
  else if risingR (greatQ (greatP n h k)) ((List.range n).map (fun v => outP n h v (lowAt n k) false)) n = false then 2 else if risingR (greatQ (greatP n h k)) ((List.range n).map (fun v => outP n h v (lowAt n k) true)) n = false then 2 else if risingI (lowQ (greatP n h k) n) ((List.range n).map (fun v => subQ n h v k false)) n = false then 2 else if risingI (lowQ (greatP n h k) n) ((List.range n).map (fun v => subQ n h v k true)) n = false then 2 else 0) = 0
 rw [if_neg i1, if_neg i2, r1, farOk_table hok hn G k, ro false, ro true, rs false, rs true]
 simp
theorem sm_build (hn : n ≤ 900) (k : Int) : TabSm (buildT n h k) := by
 have hc := clipP_in n k
 have hg : (greatP n h k).length ≤ 900 := by rw [greatP_len]; omega
 have hout : ∀ (v : Nat) (back : Bool), (outP n h v (lowAt n k) back).length ≤ 900 := fun v back => Nat.le_trans (List.length_filter_le _ _) (Nat.le_trans (rowsP_len _ _ _) hn)
 have hsub : ∀ (v : Nat) (back : Bool), (subQ n h v k back).length ≤ 900 := fun v back => by unfold subQ; rw [List.length_map]; exact Nat.le_trans (rowsP_len _ _ _) hn
 refine ⟨by show (greatP n h k).length ≤ _; omega, by show (tableP n h _ _).length ≤ _; simp [tableP]; omega, fun r hr => ?_, by show ((List.range n).map _).length ≤ _; simp; omega, fun r hr => ?_, by show ((List.range n).map _).length ≤ _; simp; omega, fun r hr => ?_, by show ((List.range n).map _).length ≤ _; simp; omega, fun r hr => ?_, by show ((List.range n).map _).length ≤ _; simp; omega, fun r hr => ?_⟩
 ·obtain ⟨s, _, rfl⟩ := List.mem_map.1 hr
  simp only [List.length_map]
  omega
 ·obtain ⟨s, _, rfl⟩ := List.mem_map.1 hr
  exact Nat.le_trans (hout s false) (by omega)
 ·obtain ⟨s, _, rfl⟩ := List.mem_map.1 hr
  exact Nat.le_trans (hout s true) (by omega)
 ·obtain ⟨s, _, rfl⟩ := List.mem_map.1 hr
  exact Nat.le_trans (hsub s false) (by omega)
 ·obtain ⟨s, _, rfl⟩ := List.mem_map.1 hr
  exact Nat.le_trans (hsub s true) (by omega)
end Go.Proofs.YtfkejflmhidnaaaGreat.PAll
namespace Go.Proofs.YtfkejflmhidnaaaGreat.PAll
open RowKit YtfkejflmhidnaaaGreatW.PrintWords YtfkejflmhidnaaaGreatW.PrintLast YtfkejflmhidnaaaGreatW.PrintMore
open Hp hiding Good
theorem vh1 : VH 1 [0] [] := by
 refine ⟨by omega, by simp, rfl, ?_, ?_, ?_, ?_, ?_⟩
 ·intro v hv
  obtain rfl : v = 0 := (by omega)
  decide
 ·intro u v hu hv _
  omega
 ·intro x hx
  simp at hx
 ·intro i j hi
  simp at hi
 ·intro x hx
  simp at hx
theorem vh0 : VH 0 [] [] := ⟨by omega, by simp, rfl, fun v hv => by omega, fun u v hu hv _ => by omega, fun x hx => by simp at hx, fun i j hi => by simp at hi, fun x hx => by simp at hx⟩
theorem grok_new {n : Nat} {rank : List Int} {ways : List S71} (V : VH n rank ways) (x : List Int) (hx : ∀ u : Nat, u < n → rd x (rd rank u) = u) : GrOk n ⟨rank, x, buildB rank ways n ways.length true, buildB rank ways n ways.length false⟩ := ⟨V.rin, V.rinj, hx⟩
def TBPost (T : TabP) (W : World) (r : Ending) (w' : World) : Prop := ∃ A0 c0 A1 c1 A2 c2 A3 c3 A4 c4 A5 c5, r = .returned (.agg #[.slice A0 T.g.length c0, .slice A1 T.far.length c1, .slice A2 T.out.length c2, .slice A3 T.inn.length c3, .slice A4 T.so.length c4, .slice A5 T.si.length c5]) ∧ TabC w' ⟨A0, c0, A1, c1, A2, c2, A3, c3, A4, c4, A5, c5⟩ T ∧ Below W.heap.size W w'
theorem build_walkC (w : World) (hb n : Nat) (h : HierP) (wm : Int) (H : HierRep w hb n h) (hok : HOk n wm h) (k : Int) : Calls Tryz.prog 20 #[.pointer (some ⟨hb, 0, none⟩), .int .i64 k] w fun r w' => TBPost (buildT n h k) w r w' := by
 refine (tbuild_walk w hb n h wm H hok k).mono ?_
 rintro e w' ⟨v, rfl, hT, hB⟩
 obtain ⟨⟨A0, c0, A1, c1, A2, c2, A3, c3, A4, c4, A5, c5⟩, rfl, hC⟩ := hT.reads
 exact ⟨A0, c0, A1, c1, A2, c2, A3, c3, A4, c4, A5, c5, rfl, hC, hB⟩
set_option maxRecDepth 100000 in
set_option maxHeartbeats 2000000 in
theorem known15_walk (w : World) : Calls Tryz.prog 22 #[] w fun r w' => r = .returned (.bool true) ∧ Below w.heap.size w w' := by
 have HB0 : Hid (Below w.heap.size w (w.alloc (.cells #[.int .i64 0] 3))) := Lib.hid ((Below.refl _ _).alloc (Nat.le_refl _) _)
 have hC0 : Kd.C (Kd.int .i64) (w.alloc (.cells #[.int .i64 0] 3)) (some ⟨w.heap.size, 0, none⟩) 1 [0] := litI _ _ [0] _ rfl (blk_new w _) (by decide)
 have HN1 := Lib.hid (hnew_walk _ 1 [0] [] vh1 (some ⟨w.heap.size, 0, none⟩) none 1 0 hC0 (Kd.C_nil k71 _))
 clear hC0
 simp only [List.length_nil] at HN1
 go_enter Tryz.func22, Tryz.ntmps22
 go_wp2_with fail
 refine HN1.out.mono ?_
 rintro e w1 ⟨xb, x, rfl, hR, hx, hB⟩
 have HR1 := Lib.hid hR
 have HG1 := Lib.hid (grok_new vh1 x hx)
 have HK1 := Lib.hid (hok_new vh1 x)
 have HB1 := Lib.hid (HB0.out.trans (hB.mono HB0.out.size))
 clear hR hx hB HN1 HB0
 generalize (⟨[0], x, buildB [0] [] 1 ([] : List S71).length true, buildB [0] [] 1 ([] : List S71).length false⟩ : HierP) = h1 at *
 have HBD := Lib.hid (build_walkC w1 xb 1 h1 _ HR1.out HK1.out 1)
 go_wp2_with fail
 refine HBD.out.mono ?_
 rintro e w2 ⟨A0, c0, A1, c1, A2, c2, A3, c3, A4, c4, A5, c5, rfl, hT, hB2⟩
 have hgl : (buildT 1 h1 1).g.length = 1 := by show (greatP 1 h1 1).length = 1; rw [greatP_len]; decide
 have hol : (buildT 1 h1 1).out.length = 1 := by simp [buildT]
 have hm0 : (0 : Int) ∈ greatP 1 h1 1 := by
  have hr := (HG1.out.rin 0 (by omega)).1
  have e : lowAt 1 1 = 0 := by decide
  exact (HG1.out.mem 1 0).2 ⟨0, by omega, rfl, by rw [e]; exact hr⟩
 have hi0 : idxP (buildT 1 h1 1).g 0 = 0 := by
  obtain ⟨i, e1, e2, _⟩ := idxP_in hm0
  rw [greatP_len] at e2
  have : (clipP 1 1).toNat = 1 := by decide
  show idxP (greatP 1 h1 1) 0 = 0
  omega
 have hi1 : idxP (buildT 1 h1 1).g 1 = -1 := idxP_no (fun f => by
  obtain ⟨u, hu, e, _⟩ := (HG1.out.mem 1 1).1 f
  omega)
 have HPL : Hid (∀ W, Below w2.heap.size w2 W → ∀ v : Int, Calls Tryz.prog 30 #[.agg #[.slice A0 (buildT 1 h1 1).g.length c0, .slice A1 (buildT 1 h1 1).far.length c1, .slice A2 (buildT 1 h1 1).out.length c2, .slice A3 (buildT 1 h1 1).inn.length c3, .slice A4 (buildT 1 h1 1).so.length c4, .slice A5 (buildT 1 h1 1).si.length c5], .int .i64 v] W fun r w' => r = .returned (.int .i64 (idxP (buildT 1 h1 1).g v)) ∧ Below W.heap.size W w') := Lib.hid (fun W g v => place2_walk W ⟨A0, c0, A1, c1, A2, c2, A3, c3, A4, c4, A5, c5⟩ _ v (hT.below g) (lt_nodup (HG1.out.asc 1)) (by rw [hgl]; omega))
 have HB2 := Lib.hid (HB1.out.trans (hB2.mono HB1.out.size))
 have HP0 := Lib.hid (fun W (g : Below w2.heap.size w2 W) => HPL.out W g 0)
 have HP1 := Lib.hid (fun W (g : Below w2.heap.size w2 W) => HPL.out W g 1)
 rw [hi0] at HP0
 rw [hi1] at HP1
 clear hT hB2 HPL hm0 hi0 hi1 HBD HR1 HG1 HK1 HB1
 rw [hgl] at HP0 HP1 ⊢
 rw [hol] at HP0 HP1 ⊢
 generalize (buildT 1 h1 1).far.length = l1 at *
 generalize (buildT 1 h1 1).inn.length = l3 at *
 generalize (buildT 1 h1 1).so.length = l4 at *
 generalize (buildT 1 h1 1).si.length = l5 at *
 clear hgl hol
 have HX := Lib.hid (blk_new w2 (.cells #[.slice A0 1 c0, .slice A1 l1 c1, .slice A2 1 c2, .slice A3 l3 c3, .slice A4 l4 c4, .slice A5 l5 c5] 46))
 have HGX : Hid (Below w2.heap.size w2 (w2.alloc (.cells #[.slice A0 1 c0, .slice A1 l1 c1, .slice A2 1 c2, .slice A3 l3 c3, .slice A4 l4 c4, .slice A5 l5 c5] 46))) := Lib.hid ((Below.refl _ _).alloc (Nat.le_refl _) _)
 go_upto_region 3 with fail
 generalize w2.alloc (.cells #[.slice A0 1 c0, .slice A1 l1 c1, .slice A2 1 c2, .slice A3 l3 c3, .slice A4 l4 c4, .slice A5 l5 c5] 46) = w3 at *
 have HN0 := Lib.hid (hnew_walk w3 0 [] [] vh0 none none 0 0 (Kd.C_nil (Kd.int .i64) w3) (Kd.C_nil k71 w3))
 simp only [List.length_nil] at HN0
 go_wp2_with fail
 refine HN0.out.mono ?_
 rintro e w4 ⟨xb2, x2, rfl, hR, hx, hB⟩
 have HR4 := Lib.hid hR
 have HG4 := Lib.hid (grok_new vh0 x2 hx)
 have HK4 := Lib.hid (hok_new vh0 x2)
 have HC4 := Lib.hid hB
 clear hR hx hB HN0
 generalize (⟨[], x2, buildB [] [] 0 ([] : List S71).length true, buildB [] [] 0 ([] : List S71).length false⟩ : HierP) = h0 at *
 have HBD := Lib.hid (build_walkC w4 xb2 0 h0 _ HR4.out HK4.out 3)
 go_wp2_with fail
 refine HBD.out.mono ?_
 rintro e w5 ⟨D0, d0, D1, d1, D2, d2, D3, d3, D4, d4, D5, d5, rfl, hT, hB⟩
 have hck := tcheck_walk w5 ⟨D0, d0, D1, d1, D2, d2, D3, d3, D4, d4, D5, d5⟩ (buildT 0 h0 3) 0 hT (sm_build (by omega) 3)
 rw [show (0 : Int) = ((0 : Nat) : Int) from rfl, check_build HK4.out (by omega) HG4.out 3] at hck
 have HCK := Lib.hid hck
 have HC5 := Lib.hid (HC4.out.trans (hB.mono HC4.out.size))
 clear hT hck hB HR4 HG4 HK4 HBD
 go_wp2_with fail
 refine HCK.out.mono ?_
 rintro e w6 ⟨rfl, hB⟩
 have HC6 := Lib.hid (HC5.out.trans (hB.mono HC5.out.size))
 have HX6 := Lib.hid ((HC6.out.block _ (blk_lt HX.out)).trans HX.out)
 have HB6 := Lib.hid (HGX.out.trans (HC6.out.mono HGX.out.size))
 have HP06 := Lib.hid (HP0.out w6 HB6.out)
 clear hB HC4 HC5 HC6 HX HCK
 have q0 := (blk_cell HX6.out 0).trans rfl
 have q1 := (blk_cell HX6.out 1).trans rfl
 have q2 := (blk_cell HX6.out 2).trans rfl
 have q3 := (blk_cell HX6.out 3).trans rfl
 have q4 := (blk_cell HX6.out 4).trans rfl
 have q5 := (blk_cell HX6.out 5).trans rfl
 have ql := blk_lt HX6.out
 go_wp2_with fail
 refine HP06.out.mono ?_
 rintro e w7 ⟨rfl, hB⟩
 have HB7 := Lib.hid (HB6.out.trans (hB.mono HB6.out.size))
 have HX7 := Lib.hid ((hB.block _ (blk_lt HX6.out)).trans HX6.out)
 have HP17 := Lib.hid (HP1.out w7 HB7.out)
 clear hB q0 q1 q2 q3 q4 q5 ql HX6 HP06
 have q0 := (blk_cell HX7.out 0).trans rfl
 have q1 := (blk_cell HX7.out 1).trans rfl
 have q2 := (blk_cell HX7.out 2).trans rfl
 have q3 := (blk_cell HX7.out 3).trans rfl
 have q4 := (blk_cell HX7.out 4).trans rfl
 have q5 := (blk_cell HX7.out 5).trans rfl
 have ql := blk_lt HX7.out
 go_wp2_with fail
 refine HP17.out.mono ?_
 rintro e w8 ⟨rfl, hB⟩
 have HB8 := Lib.hid (HB2.out.trans ((HB7.out.trans (hB.mono HB7.out.size)).mono HB2.out.size))
 clear hB
 go_wp2_with fail
 all_goals (try rw [Exit.noGoto_ret])
 all_goals go_ret
 all_goals exact ⟨rfl, HB8.out⟩
end Go.Proofs.YtfkejflmhidnaaaGreat.PAll
