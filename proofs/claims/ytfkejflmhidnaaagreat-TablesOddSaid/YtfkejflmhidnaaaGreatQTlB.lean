import Derived.Test.YtfkejflmhidnaaaGreatQPrA
import Derived.Test.YtfkejflmhidnaaaGreatQTlP
import Derived.Test.YtfkejflmhidnaaaGreatQCxR
import Derived.Test.YtfkejflmhidnaaaGreatQFtC
set_option linter.all false
namespace Go.Proofs.YtfkejflmhidnaaaGreat.PAll
open RowKit YtfkejflmhidnaaaGreatW.PrintWords YtfkejflmhidnaaaGreatW.PrintLast YtfkejflmhidnaaaGreatW.PrintMore
open Hp hiding Good
def climbV (n : Nat) (h : HierP) (v top : Int) (back : Bool) : Int → Option Int := if 0 ≤ v ∧ v < n then climbF n h.rank top (h.side back) v.toNat else fun _ => none
def lowV (n : Nat) (h : HierP) (v top : Int) (back : Bool) : List S37 := rowsP n (climbV n h v top back) (fun u => decide (rd h.rank (u : Int) < top))
def highV (n : Nat) (h : HierP) (v top : Int) (back : Bool) : List S37 := rowsP n (climbV n h v top back) (fun u => decide (top ≤ rd h.rank (u : Int)))
theorem highV_in {n : Nat} {wm : Int} {h : HierP} (hok : HOk n wm h) (hn : n ≤ 900) (v top : Int) (back : Bool) : (highV n h v top back).length ≤ 1000 ∧ ∀ a ∈ highV n h v top back, 0 ≤ a.f1 ∧ a.f1 ≤ 2305843009213693952 := by
 by_cases hv : 0 ≤ v ∧ v < n
 ·have e : highV n h v top back = highP n h v.toNat top back := by unfold highV highP climbV; rw [if_pos hv]
  rw [e]
  exact highP_in hok hn v.toNat (by omega) top back
 ·have e : highV n h v top back = [] := by unfold highV climbV; rw [if_neg hv]; exact rowsP_none _ _
  rw [e]
  exact ⟨by simp, fun a ha => by simp at ha⟩
theorem asc_ext : ∀ a b : List Int, a.Pairwise (fun p q => p < q) → b.Pairwise (fun p q => p < q) → (∀ x, x ∈ a ↔ x ∈ b) → a = b
 | [], [], _, _, _ => rfl
 | [], y :: b, _, _, h => by have := (h y).2 (by simp); simp at this
 | x :: a, [], _, _, h => by have := (h x).1 (by simp); simp at this
 | x :: a, y :: b, ha, hb, h => by
  rw [List.pairwise_cons] at ha hb
  have e : x = y := by
   rcases List.mem_cons.1 ((h x).1 (by simp)) with e | h1
   ·exact e
   ·rcases List.mem_cons.1 ((h y).2 (by simp)) with e | h2
    ·exact e.symm
    ·have := hb.1 _ h1; have := ha.1 _ h2; omega
  subst e
  rw [asc_ext a b ha.2 hb.2 (fun z => ⟨fun hz => by
   rcases List.mem_cons.1 ((h z).1 (by simp [hz])) with e | h1
   ·have := ha.1 _ hz; omega
   ·exact h1, fun hz => by
   rcases List.mem_cons.1 ((h z).2 (by simp [hz])) with e | h1
   ·have := hb.1 _ hz; omega
   ·exact h1⟩)]
theorem great_eq {n : Nat} {rank : List Int} {ways : List S71} (V : VH n rank ways) (x : List Int) (hx : ∀ u : Nat, u < n → rd x (rd rank u) = u) (m : Nat) (hm : m ≤ n) :
  sortP (greatL n x m) = intsOf (rowsP n (fun _ => some 0) (fun u => decide ((n : Int) - m ≤ rd rank (u : Int)))) := by
 obtain ⟨h1, h2⟩ := great_nodup V.rin V.rinj hx m hm
 have hperm := sortP_perm (greatL n x m)
 refine asc_ext _ _ (sorted_lt (sortP_pair _) (hperm.nodup_iff.2 h1)) ?_ (fun z => ?_)
 ·unfold intsOf
  rw [List.pairwise_map]
  exact rowsP_pair _ _ n
 ·rw [hperm.mem_iff]
  unfold intsOf
  rw [List.mem_map]
  constructor
  ·intro hz
   obtain ⟨u, hu, rfl, hr⟩ := h2 z hz
   exact ⟨_, rowsP_has hu rfl (by simpa using hr), rfl⟩
  ·rintro ⟨y, hy, rfl⟩
   obtain ⟨u, hu, e0, _, hp⟩ := rowsP_mem hy
   have hr := V.rin u hu
   have hp' : (n : Int) - m ≤ rd rank (u : Int) := by simpa using hp
   rw [e0]
   unfold greatL
   rw [List.mem_map]
   refine ⟨n - 1 - (rd rank (u : Int)).toNat, List.mem_range.2 (by omega), ?_⟩
   rw [show ((n - 1 - (n - 1 - (rd rank (u : Int)).toNat) : Nat) : Int) = rd rank (u : Int) by omega]
   exact hx u hu
def newH (n : Nat) (rank x : List Int) (ways : List S71) : HierP := ⟨rank, x, buildB rank ways n ways.length true, buildB rank ways n ways.length false⟩
theorem climbIs_new (w : World) (n : Nat) (rank : List Int) (ways : List S71) (V : VH n rank ways) (rA wA : Option Addr) (rc wc : Nat) (hr : Kd.C (Kd.int .i64) w rA n rank) (hw : Kd.C k71 w wA ways.length ways) (x : List Int) :
  ClimbIs w n (.agg #[.slice rA n rc, .slice wA ways.length wc]) (fun v top back => climbV n (newH n rank x ways) v top back) := fun W g v top back => by
 refine (rclimb_walk W n rank ways V rA wA rc wc (Kd.C_below hr g) (Kd.C_below hw g) v top back).mono ?_
 rintro r w' ⟨d, gb, rfl, hR, hdl, hno, hyes, gB⟩
 refine ⟨d, gb, rfl, hR, hdl, fun z hz => ?_, gB⟩
 show ofRow d (z : Int) = climbV n (newH n rank x ways) v top back (z : Int)
 unfold climbV
 by_cases hv : 0 ≤ v ∧ v < n
 ·rw [if_pos hv]
  obtain ⟨s, rfl⟩ : ∃ s : Nat, v = s := ⟨v.toNat, by omega⟩
  exact cl_eq V (by omega) (hyes s rfl (by omega)) x z hz
 ·rw [if_neg hv]
  have e := hno (by omega)
  subst e
  unfold ofRow
  rw [rd_get (by simpa using hz)]
  simp
theorem mrow_new {n : Nat} {rank : List Int} {ways : List S71} (V : VH n rank ways) (x : List Int) (v : Int) (back : Bool) : MRow (aboveP n (newH n rank x ways) v back) := fun y hy => by
 have := aboveP_mem (hok_new V x) V.small hy
 exact ⟨this.1, this.2.2.1, this.2.2.2⟩
section
variable {w : World} {n : Nat} {rank : List Int} {ways : List S71} (V : VH n rank ways) {rA wA : Option Addr} {rc wc : Nat} (hr : Kd.C (Kd.int .i64) w rA n rank) (hw : Kd.C k71 w wA ways.length ways) (x : List Int)
include V hr hw
theorem aboveIs_new : AboveIs w (.agg #[.slice rA n rc, .slice wA ways.length wc]) (fun v back => aboveP n (newH n rank x ways) v back) := fun W g v back => by
 have hc := climbIs_new w n rank ways V rA wA rc wc hr hw x
 refine (above11_walk W n ways.length V.small rank rA wA rc wc V.rl (Kd.C_below hr g) _ (hc.later g) v back).mono ?_
 rintro r w' ⟨vr, rfl, hR, gB⟩
 refine ⟨vr, rfl, ?_, gB⟩
 have e : rowsP n (climbV n (newH n rank x ways) v n back) (fun u => decide (0 ≤ rd rank (u : Int)) && decide (rd rank (u : Int) < n)) = aboveP n (newH n rank x ways) v back := by
  unfold aboveP climbV
  by_cases hv : 0 ≤ v ∧ v < n
  ·rw [if_pos hv, if_pos hv]
   exact rowsP_congr (fun _ _ => rfl) (fun u hu => by have := V.rin u hu; simp; omega)
  ·rw [if_neg hv, if_neg hv]
   exact rowsP_none _ _
 rw [e] at hR
 exact hR
theorem farIs_new : FarIs w (.agg #[.slice rA n rc, .slice wA ways.length wc]) (farP n (newH n rank x ways)) := fun W g s t => by
 have hpair : ∀ (v : Int) (back : Bool), (aboveP n (newH n rank x ways) v back).Pairwise (fun p q => p.f0 < q.f0) := fun v back => by
  unfold aboveP
  split
  ·exact rowsP_pair _ _ _
  ·exact List.Pairwise.nil
 refine far12_walk W n ways.length rA wA rc wc (aboveP n (newH n rank x ways) s false) (aboveP n (newH n rank x ways) t true) s t _ (fun x' y h => meet_eq (hpair _ _) (hpair _ _) (mrow_new V x _ _) (mrow_new V x _ _) h) (fun W' g' => ?_)
 have ga := g.trans (g'.mono g.size)
 exact where12_walk W' n ways.length rA wA rc wc (fun v back => aboveP n (newH n rank x ways) v back) (fun W'' g'' => aboveIs_new V hr hw x W'' (ga.trans (g''.mono ga.size))) (fun v b => Nat.le_trans (aboveP_len _ _ _ _) V.small) (fun v b => mrow_new V x v b) s t
theorem rawR_new (v k : Int) (back : Bool) : Calls Tryz.prog 103 #[.agg #[.slice rA n rc, .slice wA ways.length wc], .int .i64 v, .int .i64 k, .bool back] w fun r w' => ∃ vr, r = .returned vr ∧ Kd.R k37 37 w' w.heap.size (fun _ => True) vr (highV n (newH n rank x ways) v (lowAt n k) back) ∧ Below w.heap.size w w' := by
 refine (raw14_walk w n ways.length V.small rank rA wA rc wc V.rl hr _ (climbIs_new w n rank ways V rA wA rc wc hr hw x) v k back).mono ?_
 rintro r w' ⟨vr, rfl, hR, gB⟩
 refine ⟨vr, rfl, ?_, gB⟩
 have e : rowsP n (climbV n (newH n rank x ways) v (lowAt n k) back) (fun u => decide (lowAt n k ≤ rd rank (u : Int)) && decide (rd rank (u : Int) < n)) = highV n (newH n rank x ways) v (lowAt n k) back :=
  rowsP_congr (fun _ _ => rfl) (fun u hu => by
   have := (V.rin u hu).2
   show (decide (lowAt n k ≤ rd rank (u : Int)) && decide (rd rank (u : Int) < n)) = decide (lowAt n k ≤ rd rank (u : Int))
   rw [show decide (rd rank (u : Int) < n) = true by simpa using this, Bool.and_true])
 rw [← e]
 exact hR
theorem subR_new (v k : Int) (back : Bool) : Calls Tryz.prog 50 #[.agg #[.slice rA n rc, .slice wA ways.length wc], .int .i64 v, .int .i64 k, .bool back] w fun r w' => ∃ vr, r = .returned vr ∧ Kd.R (Kd.int .i64) 3 w' w.heap.size (fun _ => True) vr ((lowV n (newH n rank x ways) v (lowAt n k) back).map (·.f0)) ∧ Below w.heap.size w w' :=
 sub14_walk w n ways.length V.small rank rA wA rc wc V.rl hr _ (climbIs_new w n rank ways V rA wA rc wc hr hw x) v k back
theorem pruneR_new (back : Bool) (l : List S37) (lA : Option Addr) (lc : Nat) (hl : Kd.C k37 w lA l.length l) (hll : l.length ≤ 1000) (hD : ∀ a ∈ l, 0 ≤ a.f1 ∧ a.f1 ≤ 2305843009213693952) :
  Calls Tryz.prog 102 #[.agg #[.slice rA n rc, .slice wA ways.length wc], .slice lA l.length lc, .bool back] w fun r w' => ∃ vr, r = .returned vr ∧ Kd.R k37 37 w' w.heap.size (fun _ => True) vr (pruneP n (newH n rank x ways) back l) ∧ Below w.heap.size w w' :=
 prune14_walk w n ways.length rA wA rc wc (farP n (newH n rank x ways)) (farIs_new V hr hw x) (fun s t => far_bound (hok_new V x) V.small s t) back l lA lc hl hll hD
end
theorem ofR_new {w : World} {n : Nat} {rank : List Int} {ways : List S71} (V : VH n rank ways) {rA wA : Option Addr} {rc wc : Nat} (hr : Kd.C (Kd.int .i64) w rA n rank) (hw : Kd.C k71 w wA ways.length ways) (x : List Int) (v k : Int) (back : Bool) :
  Calls Tryz.prog 49 #[.agg #[.slice rA n rc, .slice wA ways.length wc], .int .i64 v, .int .i64 k, .bool back] w fun r w' => ∃ vr, r = .returned vr ∧ Kd.R k37 37 w' w.heap.size (fun _ => True) vr (pruneP n (newH n rank x ways) back (highV n (newH n rank x ways) v (lowAt n k) back)) ∧ Below w.heap.size w w' := by
 obtain ⟨hl, hD⟩ := highV_in (hok_new V x) V.small v (lowAt n k) back
 exact of14_walk w n ways.length rA wA rc wc back v k (highV n (newH n rank x ways) v (lowAt n k) back) _ hl (fun W g => rawR_new V (Kd.C_below hr g) (Kd.C_below hw g) x v k back) (fun W g lA lc h => pruneR_new V (Kd.C_below hr g) (Kd.C_below hw g) x back _ lA lc h hl hD)
end Go.Proofs.YtfkejflmhidnaaaGreat.PAll
