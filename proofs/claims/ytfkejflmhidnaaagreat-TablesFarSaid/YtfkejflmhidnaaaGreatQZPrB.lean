import Derived.Test.YtfkejflmhidnaaaGreatQZKwA
import Derived.Test.YtfkejflmhidnaaaGreatQArA
import Derived.Test.YtfkejflmhidnaaaGreatQAlA
set_option linter.all false
namespace Go.Proofs.YtfkejflmhidnaaaGreat.PAll
open RowKit YtfkejflmhidnaaaGreatW.PrintWords YtfkejflmhidnaaaGreatW.PrintLast YtfkejflmhidnaaaGreatW.PrintMore
open Hp hiding Good
def NewPostT (n : Nat) (A : List S85) (W : World) (e : Ending) (w' : World) : Prop := ∃ (xb : Nat) (h : HierP), e = .returned (.pointer (some ⟨xb, 0, none⟩)) ∧ HierRep w' xb n h ∧ MH n (EA A) h ∧ GrOk n h ∧ Below W.heap.size W w'
def OfPost9T (n : Nat) (A : List S85) (W : World) (e : Ending) (w' : World) : Prop := ∃ S1 S2 : Value, e = .returned (.agg #[S1, S2]) ∧ Below W.heap.size W w' ∧ Calls Tryz.prog 12 #[.agg #[S1, S2]] w' (NewPostT n A w')
theorem of9_newT (W : World) (n : Nat) (A : List S85) (Aa : Option Addr) (ca : Nat) (hC : Kd.C k85 W Aa A.length A) (hca : A.length ≤ ca) (hok : MapOk n A) :
  Calls Tryz.prog 13 #[.agg #[.int .i64 n, .slice Aa A.length ca]] W (OfPost9T n A W) := by
 refine (of9_walk W n A Aa ca hC hca hok).mono ?_
 rintro e W4 ⟨vr, vw, t, rk, H, rfl, hBI, hRr, hRw, g4⟩
 obtain ⟨rA, rc, hvr, hrc, hrC⟩ := Kd.R_reads hRr
 obtain ⟨wA, wc, hvw, hwc', hwC⟩ := Kd.R_reads hRw
 subst hvr hvw
 have hrl : rk.length = n := hBI.rl
 rw [hrl] at hrC hrc ⊢
 refine ⟨_, _, rfl, g4, (hnew_walk W4 n rk H (hBI.vh hok.n1) rA wA rc wc hrC hwC).mono ?_⟩
 rintro e W5 ⟨xb, x, rfl, hHR, hX, g5⟩
 exact ⟨xb, _, rfl, hHR, hBI.mh hok.n1 x, grok_new (hBI.vh hok.n1) x hX, g5⟩
theorem far_all {n : Nat} {A : List S85} {h : HierP} (X : Exact n (EA A) h) (hok : HOk n 1125899906842624 h) (hn : n ≤ 900) {s u : Nat} (hs : s < n) (hu : u < n) {row : List Int} (hr : AllRow n A s row) : farP n h s u = rd row (u : Int) := by
 have h1 := far_bound hok hn s u
 by_cases h0 : 0 ≤ farP n h s u
 ·have w1 := X.real s u hs hu h0
  have l1 := hr.least w1
  have w2 := hr.snd u hu l1.1
  have l2 := X.least s u hs hu _ w2
  omega
 ·by_cases h2 : 0 ≤ rd row (u : Int)
  ·have := (X.least s u hs hu _ (hr.snd u hu h2)).1
   omega
  ·have := hr.low u hu
   omega
theorem lowAt_nat {n c : Nat} (hc : c ≤ n) : lowAt n (c : Int) = (n : Int) - c := by
 unfold lowAt clipP mx mn
 (repeat' split) <;> omega
theorem clip_nat {n c : Nat} (hc : c ≤ n) : (clipP n (c : Int)).toNat = c := by
 unfold clipP mx mn
 (repeat' split) <;> omega
theorem prune_one (n : Nat) (h : HierP) (back : Bool) (x : S37) : pruneP n h back [x] = [x] := by
 have e : beatsP n h back x x = false := by unfold beatsP; simp
 unfold pruneP
 simp [e]
theorem out_top {n v : Nat} {h : HierP} {low : Int} (back : Bool) (hv : v < n) (ht : low ≤ rd h.rank (v : Int)) : outP n h v low back = [⟨(v : Int), 0⟩] := by
 unfold outP
 rw [high_top back hv ht, prune_one]
theorem sub_top {n v : Nat} {h : HierP} {k : Int} (back : Bool) (hv : v < n) (ht : lowAt n k ≤ rd h.rank (v : Int)) : subQ n h v k back = [] := by
 unfold subQ
 rw [low_top back hv ht]
 rfl
theorem none_build {n : Nat} {h : HierP} : (buildT n h 0).g.length = 0 ∧ (buildT n h 0).far.length = 0 ∧ (buildT n h 0).si.length = n := by
 have h0 : (greatP n h 0).length = 0 := by rw [greatP_len, show (0 : Int) = ((0 : Nat) : Int) from rfl, clip_nat (Nat.zero_le n)]
 refine ⟨h0, ?_, by simp [buildT]⟩
 show (tableP n h (greatP n h 0) (greatP n h 0)).length = 0
 unfold tableP
 rw [List.length_map]; exact h0
end Go.Proofs.YtfkejflmhidnaaaGreat.PAll
