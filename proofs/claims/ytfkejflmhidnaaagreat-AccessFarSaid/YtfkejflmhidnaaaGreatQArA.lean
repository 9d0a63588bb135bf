import Derived.Test.YtfkejflmhidnaaaGreatQNwA
import Derived.Test.YtfkejflmhidnaaaGreatQFrP
import Derived.Test.YtfkejflmhidnaaaGreatQKnE
import Derived.Test.YtfkejflmhidnaaaGreatQAlA
import Derived.Test.YtfkejflmhidnaaaGreatQLoA
import Derived.Test.YtfkejflmhidnaaaGreatQHpF
import Derived.Deep.Slices
import Derived.Deep.Fields
import Derived.ChangeSame
import Derived.Lib.SmallJoins
import Derived.OpenShut
set_option linter.all false
namespace Go.Proofs.YtfkejflmhidnaaaGreat.PAll
open RowKit YtfkejflmhidnaaaGreatW.PrintWords YtfkejflmhidnaaaGreatW.PrintLast YtfkejflmhidnaaaGreatW.PrintMore
open Hp hiding Good
theorem at_rowF {W : World} {A : Option Addr} {n : Nat} {out : List (List Int)} (h : Kd.C (Kd.slice 3 (Kd.int .i64)) W A n out) (v : Nat) (hv : v < n) :
    ∃ ad B c, A = some ad ∧ W.cell? (ad.add v) = some (.slice B (out.getD v []).length c) ∧ (out.getD v []).length ≤ c ∧ Kd.C (Kd.int .i64) W B (out.getD v []).length (out.getD v []) := by
  obtain ⟨ad, cs, hA, _, ⟨B, c, hcs, hlc, hrow⟩, hc0⟩ := Kd.C_get h [] (v : Int) (by omega) (by omega)
  rw [Int.toNat_natCast] at hcs hlc hrow hc0
  subst hcs
  have := hc0 0 _ rfl
  refine ⟨ad, B, c, hA, ?_, hlc, hrow⟩
  simpa [Kd.slice] using this
theorem tmod_natF {a : Int} (h0 : 0 ≤ a) (n : Nat) (hn : 0 < n) : ∃ v : Nat, Int.tmod a n = v ∧ v < n := by
  have h1 : Int.tmod a n < n := Int.tmod_lt_of_pos a (by omega)
  have h2 : 0 ≤ Int.tmod a n := Int.tmod_nonneg _ h0
  exact ⟨(Int.tmod a n).toNat, by omega, by omega⟩
theorem blkadd (a : Addr) (q : Nat) : (a.add q).block = a.block := by unfold Addr.add; split <;> rfl
theorem of7_walk (w : World) (a0 : Int) (A1 : Option Addr) (c1 : Nat) (l1 : List S85) (hr1 : Kd.C k85 w A1 l1.length l1) (hc1 : l1.length ≤ c1) :
    ∃ n A, MapOk n A ∧ Calls Tryz.prog 11 #[.int .i64 a0, .slice A1 l1.length c1] w fun e w' => ∃ Aa ca, e = .returned (.agg #[.int .i64 n, .slice Aa A.length ca]) ∧ A.length ≤ ca ∧ Kd.C k85 w' Aa A.length A ∧ Below w.heap.size w w' := by
  obtain ⟨n, A, hE, hok⟩ := of_ok a0 l1
  obtain ⟨kf, hkf⟩ := hE.at
  refine ⟨n, A, hok, (postroadref07_Of.calls kf a0 A1 c1 l1 n A w hr1 hc1 hkf).mono (fun e w' ⟨v1, h1, h2, h3⟩ => ?_)⟩
  obtain ⟨Aa, ca, hv, hca, hC⟩ := Kd.R_reads h2
  exact ⟨Aa, ca, by rw [h1, hv], hca, hC, h3⟩
def NewPostH (n : Nat) (A : List S85) (W : World) (e : Ending) (w' : World) : Prop := ∃ (xb : Nat) (h : HierP), e = .returned (.pointer (some ⟨xb, 0, none⟩)) ∧ HierRep w' xb n h ∧ MH n (EA A) h ∧ Below W.heap.size W w'
def OfPost9 (n : Nat) (A : List S85) (W : World) (e : Ending) (w' : World) : Prop := ∃ S1 S2 : Value, e = .returned (.agg #[S1, S2]) ∧ Below W.heap.size W w' ∧ Calls Tryz.prog 12 #[.agg #[S1, S2]] w' (NewPostH n A w')
theorem of9_new (W : World) (n : Nat) (A : List S85) (Aa : Option Addr) (ca : Nat) (hC : Kd.C k85 W Aa A.length A) (hca : A.length ≤ ca) (hok : MapOk n A) :
    Calls Tryz.prog 13 #[.agg #[.int .i64 n, .slice Aa A.length ca]] W (OfPost9 n A W) := by
  refine (of9_walk W n A Aa ca hC hca hok).mono ?_
  rintro e W4 ⟨vr, vw, t, rk, H, rfl, hBI, hRr, hRw, g4⟩
  obtain ⟨rA, rc, hvr, hrc, hrC⟩ := Kd.R_reads hRr
  obtain ⟨wA, wc, hvw, hwc', hwC⟩ := Kd.R_reads hRw
  subst hvr hvw
  have hrl : rk.length = n := hBI.rl
  rw [hrl] at hrC hrc ⊢
  refine ⟨_, _, rfl, g4, (hnew_walk W4 n rk H (hBI.vh hok.n1) rA wA rc wc hrC hwC).mono ?_⟩
  rintro e W5 ⟨xb, x, rfl, hHR, hX, g5⟩
  exact ⟨xb, _, rfl, hHR, hBI.mh hok.n1 x, g5⟩
theorem bestRow_take {n : Nat} {h : HierP} (xs ys : List S37) (i : Nat) (hi : i < xs.length) : (xs.take (i + 1)).foldl (bestRow n h ys) (-1) = ys.foldl (bestStep n h (rd_T37 xs (i : Int))) ((xs.take i).foldl (bestRow n h ys) (-1)) := by
  have e : rd_T37 xs (i : Int) = xs[i] := by simp [rd_T37, List.getD, hi]
  rw [List.take_succ_eq_append_getElem hi, List.foldl_append, e]
  rfl
theorem bestStep_take {n : Nat} {h : HierP} (p : S37) (ys : List S37) (b : Int) (j : Nat) (hj : j < ys.length) : (ys.take (j + 1)).foldl (bestStep n h p) b = bestStep n h p ((ys.take j).foldl (bestStep n h p) b) (rd_T37 ys (j : Int)) := by
  have e : rd_T37 ys (j : Int) = ys[j] := by simp [rd_T37, List.getD, hj]
  rw [List.take_succ_eq_append_getElem hj, List.foldl_append, e]
  rfl
theorem bestStep_in {n : Nat} {h : HierP} {wm : Int} (hok : HOk n wm h) (hn : n ≤ 900) (p q : S37) (hp : 0 ≤ p.f1 ∧ p.f1 ≤ 2305843009213693952) (hq : 0 ≤ q.f1 ∧ q.f1 ≤ 2305843009213693952) (b : Int) (hb : -1 ≤ b ∧ b ≤ 6917529027641081856) :
    -1 ≤ bestStep n h p b q ∧ bestStep n h p b q ≤ 6917529027641081856 := by
  have := far_bound hok hn p.f0 q.f0
  unfold bestStep
  split <;> omega
theorem local_no {n : Nat} {h : HierP} {s t : Nat} {low : Int} (hl : localP ((lowP n h s low false).map (·.f0)) ((lowP n h t low true).map (·.f0)) = false) : ¬ ∃ m : Nat, (m : Int) ∈ (lowP n h s low false).map (·.f0) ∧ (m : Int) ∈ (lowP n h t low true).map (·.f0) := by
  rintro ⟨m, h1, h2⟩
  unfold localP at hl
  have := List.any_eq_false.1 hl _ h1
  simp only [decide_eq_true_eq] at this
  exact this h2
theorem low_pair (n : Nat) (h : HierP) (v : Nat) (low : Int) (back : Bool) : ((lowP n h v low back).map (·.f0)).Pairwise (fun a b => a < b) := by
  rw [List.pairwise_map]
  exact rowsP_pair _ _ _
set_option maxRecDepth 100000 in
set_option maxHeartbeats 8000000 in
theorem afar_walk (w : World) (a0 : Int) (A1 : Option Addr) (c1 : Nat) (l1 : List S85) (hr1 : Kd.C k85 w A1 l1.length l1) (hc1 : l1.length ≤ c1) (a b k : Int) (ha0 : 0 ≤ a) (ha1 : a ≤ 255) (hb0 : 0 ≤ b) (hb1 : b ≤ 255) (hk0 : 0 ≤ k) (hk1 : k ≤ 255) :
    Calls Tryz.prog 3 #[.int .i64 a0, .slice A1 l1.length c1, .int .u8 a, .int .u8 b, .int .u8 k] w fun r w' => r = .returned (.bool true) ∧ Below w.heap.size w w' := by
  obtain ⟨n, A, hok, hof⟩ := of7_walk w a0 A1 c1 l1 hr1 hc1
  have HOF := Lib.hid hof
  have HOK := Lib.hid hok
  have hn0 := hok.n0
  have hn1 := hok.n1
  obtain ⟨s, hs, hsn⟩ := tmod_natF ha0 n (by omega)
  obtain ⟨t, ht, htn⟩ := tmod_natF hb0 n (by omega)
  obtain ⟨c, hc, hcn⟩ := tmod_natF hk0 (n + 1) (by omega)
  have hc' : Int.tmod k ((n : Int) + 1) = (c : Int) := by rw [← hc]; congr 1
  have HKN : Hid (∀ W, Calls Tryz.prog 19 #[] W fun r w' => r = .returned (.bool true) ∧ Below W.heap.size W w') := Lib.hid (fun W => known_walk W)
  clear hof hok hr1 hc1 hc
  have hwa : IntKind.i64.wrap a = a := i64w rfl (by omega) (by omega)
  have hwb : IntKind.i64.wrap b = b := i64w rfl (by omega) (by omega)
  have hwk : IntKind.i64.wrap k = k := i64w rfl (by omega) (by omega)
  have hwn : IntKind.i64.wrap ((n : Int) + 1) = (n : Int) + 1 := i64w rfl (by omega) (by omega)
  have hnq : (n : Int) + 1 ≠ 0 := by omega
  have hnq2 : ((n : Int) + 1 == 0) = false := by simp; omega
  have hnz : ((n : Int) == 0) = false := by simp; omega
  have hnz' : (n : Int) ≠ 0 := by omega
  have hnz2 : (n == 0) = false := by simp; omega
  go_enter Tryz.func3, Tryz.ntmps3
  go_upto_region 2 with (first | (go_at_call 11; refine HOF.out.mono ?_; rintro e W2 ⟨Aa, ca, rfl, hca, hCA, g2⟩; have HCA := Lib.hid (And.intro hca hCA); have HG2 := Lib.hid g2; clear hca hCA g2))
  have HM3 := Lib.hid (blk_new W2 (.cells #[.int .i64 n, .slice Aa A.length ca] 24))
  have HG3 : Hid (Below w.heap.size w (W2.alloc (.cells #[.int .i64 n, .slice Aa A.length ca] 24))) := Lib.hid (HG2.out.alloc HG2.out.size _)
  have HCA3 : Hid (A.length ≤ ca ∧ Kd.C k85 (W2.alloc (.cells #[.int .i64 n, .slice Aa A.length ca] 24)) Aa A.length A) := Lib.hid ⟨HCA.out.1, Kd.C_alloc HCA.out.2 _⟩
  clear HCA HG2
  generalize W2.alloc (.cells #[.int .i64 n, .slice Aa A.length ca] 24) = W3 at *
  generalize W2.heap.size = gm at *
  have m0 := (blk_cell HM3.out 0).trans rfl
  have m1 := (blk_cell HM3.out 1).trans rfl
  have ml := blk_lt HM3.out
  have HO9 := Lib.hid (of9_new W3 n A Aa ca HCA3.out.2 HCA3.out.1 HOK.out)
  go_upto_region 3 with (first | (go_at_call 13; refine HO9.out.mono ?_; rintro e W4 ⟨S1, S2, rfl, g4, hnew⟩; have HNW := Lib.hid hnew; have HG4 := Lib.hid g4; clear hnew g4) | (go_at_call 12; refine HNW.out.mono ?_; rintro e W5 ⟨xb, h, rfl, hHR, hMH, g5⟩; have HHR := Lib.hid hHR; have HMH := Lib.hid hMH; have HG5 := Lib.hid g5; clear hHR hMH g5))
  have HB5 := Lib.hid (HG3.out.trans ((HG4.out.trans (HG5.out.mono HG4.out.size)).mono HG3.out.size))
  have hm5 : W5.heap[gm]? = some (.cells #[.int .i64 n, .slice Aa A.length ca] 24 (0, 0)) := (HG5.out.block _ (blk_lt ((HG4.out.block _ (blk_lt HM3.out)).trans HM3.out))).trans ((HG4.out.block _ (blk_lt HM3.out)).trans HM3.out)
  have HM5 := Lib.hid hm5
  have hokh := HMH.out.ok
  have HA7 : Hid (∀ W, Below W5.heap.size W5 W → Calls Tryz.prog 16 #[.agg #[.int .i64 n, .slice Aa A.length ca]] W fun r w' => AllPost W n A r w') := Lib.hid (fun W g => all7_walk W n A Aa ca (Kd.C_below (Kd.C_below (Kd.C_below HCA3.out.2 HG4.out) HG5.out) g) HCA3.out.1 HOK.out)
  have HOX : Hid (∀ W, Below W5.heap.size W5 W → Calls Tryz.prog 14 #[.pointer (some ⟨xb, 0, none⟩), .int .i64 s, .int .i64 c, .bool false] W fun r w' => ∃ vr, r = .returned vr ∧ Kd.R k37 37 w' W.heap.size (fun _ => True) vr (outP n h s (lowAt n c) false) ∧ Below W.heap.size W w') := Lib.hid (fun W g => of_walk W xb n h _ (HHR.out.below g) hokh s hsn c false)
  have HOY : Hid (∀ W, Below W5.heap.size W5 W → Calls Tryz.prog 14 #[.pointer (some ⟨xb, 0, none⟩), .int .i64 t, .int .i64 c, .bool true] W fun r w' => ∃ vr, r = .returned vr ∧ Kd.R k37 37 w' W.heap.size (fun _ => True) vr (outP n h t (lowAt n c) true) ∧ Below W.heap.size W w') := Lib.hid (fun W g => of_walk W xb n h _ (HHR.out.below g) hokh t htn c true)
  have HSX : Hid (∀ W, Below W5.heap.size W5 W → Calls Tryz.prog 18 #[.pointer (some ⟨xb, 0, none⟩), .int .i64 s, .int .i64 c, .bool false] W fun r w' => RowPost W ((lowP n h s (lowAt n c) false).map (·.f0)) r w') := Lib.hid (fun W g => (sub_walk W xb n h _ (HHR.out.below g) hokh s hsn c false).mono (fun r w' hh => RowPost.of hh))
  have HSY : Hid (∀ W, Below W5.heap.size W5 W → Calls Tryz.prog 18 #[.pointer (some ⟨xb, 0, none⟩), .int .i64 t, .int .i64 c, .bool true] W fun r w' => RowPost W ((lowP n h t (lowAt n c) true).map (·.f0)) r w') := Lib.hid (fun W g => (sub_walk W xb n h _ (HHR.out.below g) hokh t htn c true).mono (fun r w' hh => RowPost.of hh))
  have HFR : Hid (∀ W, Below W5.heap.size W5 W → ∀ u v : Int, Calls Tryz.prog 15 #[.pointer (some ⟨xb, 0, none⟩), .int .i64 u, .int .i64 v] W fun r w' => r = .returned (.int .i64 (farP n h u v)) ∧ Below W.heap.size W w') := Lib.hid (fun W g u v => far_walk W xb n h _ (HHR.out.below g) hokh u v)
  have HFB : Hid (∀ u v : Int, farP n h u v = -1 ∨ (0 ≤ farP n h u v ∧ farP n h u v ≤ 2305843009213693952)) := Lib.hid (fun u v => far_bound hokh (by omega) u v)
  have HBS : Hid (∀ p q : S37, (0 ≤ p.f1 ∧ p.f1 ≤ 2305843009213693952) → (0 ≤ q.f1 ∧ q.f1 ≤ 2305843009213693952) → ∀ b : Int, -1 ≤ b ∧ b ≤ 6917529027641081856 → -1 ≤ bestStep n h p b q ∧ bestStep n h p b q ≤ 6917529027641081856) := Lib.hid (fun p q hp hq b hb => bestStep_in hokh (by omega) p q hp hq b hb)
  have HXD : Hid (∀ p ∈ outP n h s (lowAt n c) false, 0 ≤ p.f1 ∧ p.f1 ≤ 2305843009213693952) := Lib.hid (fun p hp => (highP_in hokh (by omega) s hsn (lowAt n c) false).2 p (prune_sub hp))
  have HYD : Hid (∀ p ∈ outP n h t (lowAt n c) true, 0 ≤ p.f1 ∧ p.f1 ≤ 2305843009213693952) := Lib.hid (fun p hp => (highP_in hokh (by omega) t htn (lowAt n c) true).2 p (prune_sub hp))
  have hxl : (outP n h s (lowAt n c) false).length ≤ 1000 := Nat.le_trans (List.length_filter_le _ _) (highP_in hokh (by omega) s hsn (lowAt n c) false).1
  have hyl : (outP n h t (lowAt n c) true).length ≤ 1000 := Nat.le_trans (List.length_filter_le _ _) (highP_in hokh (by omega) t htn (lowAt n c) true).1
  have hsxl : ((lowP n h s (lowAt n c) false).map (·.f0)).length ≤ n := by rw [List.length_map]; exact rowsP_len _ _ _
  have hsyl : ((lowP n h t (lowAt n c) true).map (·.f0)).length ≤ n := by rw [List.length_map]; exact rowsP_len _ _ _
  have HSP : Hid (((lowP n h t (lowAt n c) true).map (·.f0)).Pairwise (fun a b => a < b)) := Lib.hid (low_pair _ _ _ _ _)
  have HLAW : Hid (∀ d : Int, (∀ e, Wk (EA A) s t e → 0 ≤ d ∧ d ≤ e) → (d = -1 ∨ Wk (EA A) s t d) → (bestP n h (outP n h s (lowAt n c) false) (outP n h t (lowAt n c) true) = -1 ∨ (0 ≤ d ∧ d ≤ bestP n h (outP n h s (lowAt n c) false) (outP n h t (lowAt n c) true))) ∧
      (localP ((lowP n h s (lowAt n c) false).map (·.f0)) ((lowP n h t (lowAt n c) true).map (·.f0)) = false → d = bestP n h (outP n h s (lowAt n c) false) (outP n h t (lowAt n c) true))) := Lib.hid (fun d h1 h2 => by
    obtain ⟨b1, b2⟩ := HMH.out.law (by omega) s t hsn htn (lowAt n c) d h1 h2
    exact ⟨b1, fun hl => b2 (local_no hl)⟩)
  obtain ⟨sx, hsx⟩ : ∃ sx, (lowP n h s (lowAt n c) false).map (·.f0) = sx := ⟨_, rfl⟩
  obtain ⟨sy, hsy⟩ : ∃ sy, (lowP n h t (lowAt n c) true).map (·.f0) = sy := ⟨_, rfl⟩
  obtain ⟨xs, hxs⟩ : ∃ xs, outP n h s (lowAt n c) false = xs := ⟨_, rfl⟩
  obtain ⟨ys, hys⟩ : ∃ ys, outP n h t (lowAt n c) true = ys := ⟨_, rfl⟩
  rw [hsx] at HSX HLAW hsxl
  rw [hsy] at HSY HLAW hsyl HSP
  rw [hxs] at HOX HXD HLAW hxl
  rw [hys] at HOY HYD HLAW hyl
  clear hsx hsy hxs hys hm5 m0 m1 ml HM3 HG3 HCA3 HG4 HG5 HHR HNW HO9 HOF hokh HMH
  have m0 : W5.cell? ⟨gm, 0, none⟩ = some (.int .i64 n) := (blk_cell HM5.out 0).trans rfl
  have ml := blk_lt HM5.out
  go_upto_region 7 with fail
  clear m0 ml
  go_upto_region 8 with (first | (go_at_call 14; refine (HOX.out W5 (Below.refl _ _)).mono ?_; rintro e W6 ⟨vx, rfl, hR, g6⟩; obtain ⟨Xa, xc, hvx, hxc, hXC⟩ := Kd.R_reads hR; subst hvx; have HXC := Lib.hid hXC; have HG6 := Lib.hid g6; clear hR hxc hXC g6))
  go_upto_region 9 with (first | (go_at_call 14; refine (HOY.out W6 HG6.out).mono ?_; rintro e W7 ⟨vy, rfl, hR, g7⟩; obtain ⟨Ya, yc, hvy, hyc, hYC⟩ := Kd.R_reads hR; subst hvy; have HYC := Lib.hid hYC; have HX7 := Lib.hid (Kd.C_below HXC.out g7); have HG7 := Lib.hid (HG6.out.trans (g7.mono HG6.out.size)); clear hR hyc hYC g7))
  obtain ⟨nx, hnx0⟩ : ∃ nx, xs.length = nx := ⟨_, rfl⟩
  obtain ⟨ny, hny0⟩ : ∃ ny, ys.length = ny := ⟨_, rfl⟩
  have HNX := Lib.hid hnx0
  have HNY := Lib.hid hny0
  rw [hnx0] at HX7 hxl
  rw [hny0] at HYC hyl
  rw [hnx0, hny0]
  clear hnx0 hny0 HXC HG6 HOX HOY
  have HB7 := Lib.hid (HB5.out.trans (HG7.out.mono HB5.out.size))
  have HFC : Hid (∀ W, Below W7.heap.size W7 W → ∀ u v : Int, Calls Tryz.prog 15 #[.pointer (some ⟨xb, 0, none⟩), .int .i64 u, .int .i64 v] W fun r w' => r = .returned (.int .i64 (farP n h u v)) ∧ Below W.heap.size W w') := Lib.hid (fun W g u v => HFR.out W (HG7.out.trans (g.mono HG7.out.size)) u v)
  clear HFR
  go_wp2_with fail
  go_loopw [16, 19] (fun v16 v19 wr => ∃ (bv : Int) (i : Nat), v16 = .int .i64 bv ∧ v19 = .int .i64 i ∧ i ≤ nx ∧ Hid (Below W7.heap.size W7 wr) ∧ Hid (bv = (xs.take i).foldl (bestRow n h ys) (-1)) ∧ -1 ≤ bv ∧ bv ≤ 6917529027641081856) (fun _ v19 _ => nx - (intOf v19).toNat)
  case atStart => exact ⟨-1, 0, rfl, rfl, by omega, Lib.hid (Below.refl _ _), Lib.hid rfl, by omega, by omega⟩
  case round =>
    obtain ⟨bv, i, rfl, rfl, hi, HGi, HBV, hbv0, hbv1⟩ := hrel
    by_cases hlt : i < nx
    · have hi0 : (0 : Int) ≤ (i : Int) := Int.natCast_nonneg _
      have hi1 : (i : Int) < (nx : Int) := by omega
      have hil : i < xs.length := by rw [HNX.out]; exact hlt
      have hzm : rd_T37 xs (i : Int) ∈ xs := by
        have e : rd_T37 xs (i : Int) = xs[i] := by simp [rd_T37, List.getD, hil]
        rw [e]; exact List.getElem_mem _
      have HBR : Hid ((xs.take (i + 1)).foldl (bestRow n h ys) (-1) = ys.foldl (bestStep n h (rd_T37 xs (i : Int))) bv) := Lib.hid (by rw [bestRow_take xs ys i hil, ← HBV.out])
      obtain ⟨hz0, hz1⟩ := HXD.out _ hzm
      obtain ⟨az, hAz, _, _⟩ := at_T37 (Kd.C_below HX7.out HGi.out) (i : Int) (by omega) (by omega)
      have HZQ : Hid (∀ W, Below W7.heap.size W7 W → W.cell? (az.add (i * 2)) = some (.int .i64 (rd_T37 xs (i : Int)).f0) ∧ W.cell? ⟨(az.add (i * 2)).block, (az.add (i * 2)).off + 1, none⟩ = some (.int .i64 (rd_T37 xs (i : Int)).f1)) := Lib.hid (fun W g => by
        obtain ⟨az', hA, z0, z1⟩ := at_T37 (Kd.C_below HX7.out g) (i : Int) (by omega) (by omega)
        rw [hAz] at hA
        cases hA
        simp only [Int.toNat_natCast] at z0 z1
        exact ⟨z0, z1⟩)
      subst hAz
      have HBS2 : Hid (∀ q ∈ ys, ∀ b : Int, -1 ≤ b ∧ b ≤ 6917529027641081856 → -1 ≤ bestStep n h (rd_T37 xs (i : Int)) b q ∧ bestStep n h (rd_T37 xs (i : Int)) b q ≤ 6917529027641081856) := Lib.hid (fun q hq b hb => HBS.out _ q ⟨hz0, hz1⟩ (HYD.out q hq) b hb)
      generalize rd_T37 xs (i : Int) = z at *
      obtain ⟨zv, zd⟩ := z
      simp only at hz0 hz1 HZQ
      clear hzm hil
      go_wp2_with fail
      go_loopw [16, 20] (fun v16 v20 wr => ∃ (b : Int) (j : Nat), v16 = .int .i64 b ∧ v20 = .int .i64 j ∧ j ≤ ny ∧ Hid (Below W7.heap.size W7 wr) ∧ Hid (b = (ys.take j).foldl (bestStep n h ⟨zv, zd⟩) bv) ∧ -1 ≤ b ∧ b ≤ 6917529027641081856) (fun _ v20 _ => ny - (intOf v20).toNat)
      case atStart => exact ⟨bv, 0, rfl, rfl, by omega, HGi, Lib.hid rfl, hbv0, hbv1⟩
      case round =>
        obtain ⟨b, j, rfl, rfl, hj, HGj, HB, hb0', hb1'⟩ := hrel
        clear HGi
        by_cases hjt : j < ny
        · have hj0 : (0 : Int) ≤ (j : Int) := Int.natCast_nonneg _
          have hj1 : (j : Int) < (ny : Int) := by omega
          have hjl : j < ys.length := by rw [HNY.out]; exact hjt
          have hpm : rd_T37 ys (j : Int) ∈ ys := by
            have he : rd_T37 ys (j : Int) = ys[j] := by simp [rd_T37, List.getD, hjl]
            rw [he]; exact List.getElem_mem _
          have HAT : Hid ((ys.take (j + 1)).foldl (bestStep n h ⟨zv, zd⟩) bv = bestStep n h ⟨zv, zd⟩ b (rd_T37 ys (j : Int))) := Lib.hid (by rw [bestStep_take _ ys bv j hjl, ← HB.out])
          obtain ⟨hn0', hn1'⟩ := HBS2.out _ hpm b ⟨hb0', hb1'⟩
          obtain ⟨hp0, hp1⟩ := HYD.out _ hpm
          obtain ⟨ap, hAp, _, _⟩ := at_T37 (Kd.C_below HYC.out HGj.out) (j : Int) (by omega) (by omega)
          have HPQ : Hid (∀ W, Below W7.heap.size W7 W → W.cell? (ap.add (j * 2)) = some (.int .i64 (rd_T37 ys (j : Int)).f0) ∧ W.cell? ⟨(ap.add (j * 2)).block, (ap.add (j * 2)).off + 1, none⟩ = some (.int .i64 (rd_T37 ys (j : Int)).f1)) := Lib.hid (fun W g => by
            obtain ⟨ap', hA, q0, q1⟩ := at_T37 (Kd.C_below HYC.out g) (j : Int) (by omega) (by omega)
            rw [hAp] at hA
            cases hA
            simp only [Int.toNat_natCast] at q0 q1
            exact ⟨q0, q1⟩)
          subst hAp
          generalize rd_T37 ys (j : Int) = p at *
          obtain ⟨pv, pd⟩ := p
          simp only at hp0 hp1 HPQ
          have HDB := HFB.out zv pv
          have HST : Hid (bestStep n h ⟨zv, zd⟩ b ⟨pv, pd⟩ = if 0 ≤ farP n h zv pv ∧ (b < 0 ∨ zd + farP n h zv pv + pd < b) then zd + farP n h zv pv + pd else b) := Lib.hid rfl
          obtain ⟨z0, z1⟩ := HZQ.out wr HGj.out
          obtain ⟨q0, q1⟩ := HPQ.out wr HGj.out
          clear hpm hjl
          go_upto_region 15 with fail
          go_cut [21] from 66 to 77 (fun v21 wx => v21 = .int .i64 (farP n h zv pv) ∧ Hid (Below W7.heap.size W7 wx))
          case first =>
            refine start_ (n := 13) (S := fun w' => w'.cell? (az.add (i * 2)) = some (.int .i64 zv) ∧ w'.cell? (ap.add (j * 2)) = some (.int .i64 pv)) (ds := []) (bA_ 13 0) (by kernel_rfl) rfl rfl ⟨z0, q0⟩ (fun hHeld => ?_)
            refine p_ 0 66 _ (bA_ 13 1) rfl rfl (by kernel_rfl) (fun _ _ _ h => h) (by rfl) (by intro w'; go_simp; with_reducible rfl) _ (by simp only [zN_]; rfl) ?_
            refine p_ 1 67 _ (bA_ 13 3) rfl rfl (by kernel_rfl) (fun _ _ _ h => h) (by rfl) (by intro w'; go_simp; with_reducible rfl) _ (by simp only [zN_]; rfl) ?_
            refine p_ 2 68 _ (bA_ 13 7) rfl rfl (by kernel_rfl) (fun _ _ _ h => h) (by rfl) (by intro w'; go_simp; with_reducible rfl) _ (by simp only [zN_]; rfl) ?_
            refine p_ 3 69 _ (bA_ 13 15) rfl rfl (by kernel_rfl) (fun _ _ _ h => h) (by rfl) (by intro w'; go_simp; with_reducible rfl) _ (by simp only [zN_]; rfl) ?_
            refine p_ 4 70 _ (bA_ 13 31) rfl rfl (by kernel_rfl) (fun _ _ _ h => h) (by rfl) (by intro w'; go_simp; with_reducible rfl) _ (by simp only [zN_]; rfl) ?_
            refine p_ 6 72 _ (bA_ 13 95) rfl rfl (by kernel_rfl) (fun _ _ _ h => h) (by rfl) (by intro w'; go_simp; with_reducible rfl) _ (by simp only [zN_]; rfl) ?_
            refine p_ 7 73 _ (bA_ 13 223) rfl rfl (by kernel_rfl) (fun _ _ _ h => h) (by rfl) (by intro w'; go_simp; with_reducible rfl) _ (by simp only [zN_]; rfl) ?_
            refine p_ 8 74 _ (bA_ 13 479) rfl rfl (by kernel_rfl) (fun _ _ _ h => h) (by rfl) (by intro w'; go_simp; with_reducible rfl) _ (by simp only [zN_]; rfl) ?_
            refine p_ 9 75 _ (bA_ 13 991) rfl rfl (by kernel_rfl) (fun _ _ _ h => h) (by rfl) (by intro w'; go_simp; with_reducible rfl) _ (by simp only [zN_]; rfl) ?_
            refine t_ 5 71 ?_ (bA_ 13 1023) rfl rfl (by kernel_rfl) (fun _ _ _ h => h) (by rfl) ?_ hHeld ?_ ?_ ?_
            rotate_left
            · rintro w' ⟨s0, s1⟩
              go_simp
              with_reducible rfl
            rotate_left; · simp only [zN_]; rfl
            refine t_ 10 76 ?_ (bA_ 13 2047) rfl rfl (by kernel_rfl) (fun _ _ _ h => h) (by rfl) ?_ hHeld ?_ ?_ ?_
            rotate_left
            · rintro w' ⟨s0, s1⟩
              go_simp
              with_reducible rfl
            rotate_left; · simp only [zN_]; rfl
            refine one_ (i := 11) (N := some 77) (bA_ 13 4095) rfl rfl (by kernel_rfl) (by decide) (fun K hK => ?_)
            refine goes_ Tryz.func15 (by kernel_rfl) rfl #[.pointer (some ⟨xb, 0, none⟩), .int .i64 zv, .int .i64 pv] (by rfl) rfl rfl (by simp only [List.map_toArray, List.map_cons, List.map_nil]; rfl) ?_
            with_reducible refine (HFC.out _ HGj.out.drew zv pv).mono ?_
            rintro e w3 ⟨rfl, g3⟩
            refine ⟨_, rfl, ?_⟩
            have HGX : Hid (Below W7.heap.size W7 w3) := Lib.hid (HGj.out.drew.trans (g3.mono HGj.out.drew.size))
            refine hK.out _ _ ⟨(HZQ.out _ HGX.out).1, (HPQ.out _ HGX.out).1⟩ (fun hHeld => ?_)
            clear hK K
            refine norm_ (a' := ?_) ?_ ?_
            rotate_left
            · show Act.put _ (some 77) _ = _
              simp only [zN_]
              rfl
            refine p_ 12 21 _ (bA_ 13 8191) rfl rfl (by kernel_rfl) (fun _ _ _ h => h) (by rfl) (by intro w'; go_simp; with_reducible rfl) _ (by simp only [zN_]; rfl) ?_
            refine done_ (by kernel_rfl) ?_
            all_goals (try go_wp2_with fail)
            all_goals go_meet
            all_goals exact ⟨rfl, HGX⟩
          case rest =>
          obtain ⟨rfl, HGK⟩ := hcut
          clear z0 z1 q0 q1 HGj
          generalize wc = W10 at *
          generalize farP n h zv pv = d at *
          obtain ⟨z0, z1⟩ := HZQ.out W10 HGK.out
          obtain ⟨q0, q1⟩ := HPQ.out W10 HGK.out
          by_cases hd0 : d ≥ 0
          · have hd1 : d ≤ 2305843009213693952 := by omega
            have t0 : decide (d ≥ 0) = true := by simpa using hd0
            have t0' : decide (0 ≤ d) = true := by simpa using hd0
            have hw1 : IntKind.i64.wrap (zd + d) = zd + d := i64w rfl (by omega) (by omega)
            have hw2 : IntKind.i64.wrap (zd + d + pd) = zd + d + pd := i64w rfl (by omega) (by omega)
            by_cases hb2 : b < 0
            · have t1 : decide (b < 0) = true := by simpa using hb2
              have HNB : Hid (zd + d + pd = (ys.take (j + 1)).foldl (bestStep n h ⟨zv, zd⟩) bv) := Lib.hid (by rw [HAT.out, HST.out, if_pos ⟨hd0, .inl hb2⟩])
              have hnn : -1 ≤ zd + d + pd ∧ zd + d + pd ≤ 6917529027641081856 := by omega
              clear hd0 hb2
              go_upto_region 16 with fail
              refine start_ (n := 23) (S := fun w' => w'.cell? ⟨(az.add (i * 2)).block, (az.add (i * 2)).off + 1, none⟩ = some (.int .i64 zd) ∧ w'.cell? ⟨(ap.add (j * 2)).block, (ap.add (j * 2)).off + 1, none⟩ = some (.int .i64 pd)) (ds := []) (bA_ 23 0) (by kernel_rfl) rfl rfl ⟨z1, q1⟩ (fun hHeld => ?_)
              refine p_ 0 78 _ (bA_ 23 1) rfl rfl (by kernel_rfl) (fun _ _ _ h => h) (by rfl) (by intro w'; go_simp; with_reducible rfl) _ (by simp only [zN_]; rfl) ?_
              refine p_ 1 79 _ (bA_ 23 3) rfl rfl (by kernel_rfl) (fun _ _ _ h => h) (by rfl) (by intro w'; go_simp; with_reducible rfl) _ (by simp only [zN_]; rfl) ?_
              refine p_ 2 80 _ (bA_ 23 7) rfl rfl (by kernel_rfl) (fun _ _ _ h => h) (by rfl) (by intro w'; go_simp; with_reducible rfl) _ (by simp only [zN_]; rfl) ?_
              refine p_ 3 81 _ (bA_ 23 15) rfl rfl (by kernel_rfl) (fun _ _ _ h => h) (by rfl) (by intro w'; go_simp; with_reducible rfl) _ (by simp only [zN_]; rfl) ?_
              refine p_ 4 82 _ (bA_ 23 31) rfl rfl (by kernel_rfl) (fun _ _ _ h => h) (by rfl) (by intro w'; go_simp; with_reducible rfl) _ (by simp only [zN_]; rfl) ?_
              refine p_ 5 83 _ (bA_ 23 63) rfl rfl (by kernel_rfl) (fun _ _ _ h => h) (by rfl) (by intro w'; go_simp; with_reducible rfl) _ (by simp only [zN_]; rfl) ?_
              refine pu_ 6 84 (bA_ 23 127) rfl rfl (by kernel_rfl) (fun _ _ _ h => h) (by rfl) ?_ ?_ ?_
              rotate_left; · simp only [zN_]; rfl
              refine pu_ 7 85 (bA_ 23 255) rfl rfl (by kernel_rfl) (fun _ _ _ h => h) (by rfl) ?_ ?_ ?_
              rotate_left; · simp only [zN_]; rfl
              refine pu_ 8 86 (bA_ 23 511) rfl rfl (by kernel_rfl) (fun _ _ _ h => h) (by rfl) ?_ ?_ ?_
              rotate_left; · simp only [zN_]; rfl
              refine pu_ 9 87 (bA_ 23 1023) rfl rfl (by kernel_rfl) (fun _ _ _ h => h) (by rfl) ?_ ?_ ?_
              rotate_left; · simp only [zN_]; rfl
              refine pu_ 10 88 (bA_ 23 2047) rfl rfl (by kernel_rfl) (fun _ _ _ h => h) (by rfl) ?_ ?_ ?_
              rotate_left; · simp only [zN_]; rfl
              refine pu_ 11 89 (bA_ 23 4095) rfl rfl (by kernel_rfl) (fun _ _ _ h => h) (by rfl) ?_ ?_ ?_
              rotate_left; · simp only [zN_]; rfl
              refine pu_ 12 90 (bA_ 23 8191) rfl rfl (by kernel_rfl) (fun _ _ _ h => h) (by rfl) ?_ ?_ ?_
              rotate_left; · simp only [zN_]; rfl
              refine pu_ 13 91 (bA_ 23 16383) rfl rfl (by kernel_rfl) (fun _ _ _ h => h) (by rfl) ?_ ?_ ?_
              rotate_left; · simp only [zN_]; rfl
              refine pu_ 14 92 (bA_ 23 32767) rfl rfl (by kernel_rfl) (fun _ _ _ h => h) (by rfl) ?_ ?_ ?_
              rotate_left; · simp only [zN_]; rfl
              refine pu_ 15 93 (bA_ 23 65535) rfl rfl (by kernel_rfl) (fun _ _ _ h => h) (by rfl) ?_ ?_ ?_
              rotate_left; · simp only [zN_]; rfl
              refine pu_ 16 94 (bA_ 23 131071) rfl rfl (by kernel_rfl) (fun _ _ _ h => h) (by rfl) ?_ ?_ ?_
              rotate_left; · simp only [zN_]; rfl
              refine pu_ 17 95 (bA_ 23 262143) rfl rfl (by kernel_rfl) (fun _ _ _ h => h) (by rfl) ?_ ?_ ?_
              rotate_left; · simp only [zN_]; rfl
              refine pu_ 18 96 (bA_ 23 524287) rfl rfl (by kernel_rfl) (fun _ _ _ h => h) (by rfl) ?_ ?_ ?_
              rotate_left; · simp only [zN_]; rfl
              refine pu_ 19 97 (bA_ 23 1048575) rfl rfl (by kernel_rfl) (fun _ _ _ h => h) (by rfl) ?_ ?_ ?_
              rotate_left; · simp only [zN_]; rfl
              refine pu_ 20 98 (bA_ 23 2097151) rfl rfl (by kernel_rfl) (fun _ _ _ h => h) (by rfl) ?_ ?_ ?_
              rotate_left; · simp only [zN_]; rfl
              refine p_ 21 99 _ (bA_ 23 4194303) rfl rfl (by kernel_rfl) (fun _ _ _ h => h) (by rfl) (by intro w'; go_simp; with_reducible rfl) _ (by simp only [zN_]; rfl) ?_
              refine p_ 22 100 _ (bA_ 23 8388607) rfl rfl (by kernel_rfl) (fun _ _ _ h => h) (by rfl) (by intro w'; go_simp; with_reducible rfl) _ (by simp only [zN_]; rfl) ?_
              refine done_ (by kernel_rfl) ?_
              go_upto_region 17 with fail
              refine start_ (n := 14) (S := fun w' => w'.cell? ⟨(az.add (i * 2)).block, (az.add (i * 2)).off + 1, none⟩ = some (.int .i64 zd) ∧ w'.cell? ⟨(ap.add (j * 2)).block, (ap.add (j * 2)).off + 1, none⟩ = some (.int .i64 pd)) (ds := []) (bA_ 14 0) (by kernel_rfl) rfl rfl ⟨(HZQ.out _ HGK.out.drew).2, (HPQ.out _ HGK.out.drew).2⟩ (fun hHeld => ?_)
              refine p_ 0 101 _ (bA_ 14 1) rfl rfl (by kernel_rfl) (fun _ _ _ h => h) (by rfl) (by intro w'; go_simp; with_reducible rfl) _ (by simp only [zN_]; rfl) ?_
              refine p_ 1 102 _ (bA_ 14 3) rfl rfl (by kernel_rfl) (fun _ _ _ h => h) (by rfl) (by intro w'; go_simp; with_reducible rfl) _ (by simp only [zN_]; rfl) ?_
              refine p_ 2 103 _ (bA_ 14 7) rfl rfl (by kernel_rfl) (fun _ _ _ h => h) (by rfl) (by intro w'; go_simp; with_reducible rfl) _ (by simp only [zN_]; rfl) ?_
              refine p_ 3 104 _ (bA_ 14 15) rfl rfl (by kernel_rfl) (fun _ _ _ h => h) (by rfl) (by intro w'; go_simp; with_reducible rfl) _ (by simp only [zN_]; rfl) ?_
              refine p_ 5 106 _ (bA_ 14 47) rfl rfl (by kernel_rfl) (fun _ _ _ h => h) (by rfl) (by intro w'; go_simp; with_reducible rfl) _ (by simp only [zN_]; rfl) ?_
              refine p_ 7 108 _ (bA_ 14 175) rfl rfl (by kernel_rfl) (fun _ _ _ h => h) (by rfl) (by intro w'; go_simp; with_reducible rfl) _ (by simp only [zN_]; rfl) ?_
              refine p_ 8 109 _ (bA_ 14 431) rfl rfl (by kernel_rfl) (fun _ _ _ h => h) (by rfl) (by intro w'; go_simp; with_reducible rfl) _ (by simp only [zN_]; rfl) ?_
              refine p_ 9 110 _ (bA_ 14 943) rfl rfl (by kernel_rfl) (fun _ _ _ h => h) (by rfl) (by intro w'; go_simp; with_reducible rfl) _ (by simp only [zN_]; rfl) ?_
              refine p_ 10 111 _ (bA_ 14 1967) rfl rfl (by kernel_rfl) (fun _ _ _ h => h) (by rfl) (by intro w'; go_simp; with_reducible rfl) _ (by simp only [zN_]; rfl) ?_
              refine t_ 4 105 ?_ (bA_ 14 1983) rfl rfl (by kernel_rfl) (fun _ _ _ h => h) (by rfl) ?_ hHeld ?_ ?_ ?_
              rotate_left
              · rintro w' ⟨s0, s1⟩
                go_simp
                with_reducible rfl
              rotate_left; · simp only [zN_]; rfl
              refine p_ 6 107 _ (bA_ 14 2047) rfl rfl (by kernel_rfl) (fun _ _ _ h => h) (by rfl) (by intro w'; go_simp; with_reducible rfl) _ (by simp only [zN_]; rfl) ?_
              refine t_ 11 112 ?_ (bA_ 14 4095) rfl rfl (by kernel_rfl) (fun _ _ _ h => h) (by rfl) ?_ hHeld ?_ ?_ ?_
              rotate_left
              · rintro w' ⟨s0, s1⟩
                go_simp
                with_reducible rfl
              rotate_left; · simp only [zN_]; rfl
              refine p_ 12 113 _ (bA_ 14 8191) rfl rfl (by kernel_rfl) (fun _ _ _ h => h) (by rfl) (by intro w'; go_simp; with_reducible rfl) _ (by simp only [zN_]; rfl) ?_
              refine p_ 13 16 _ (bA_ 14 16383) rfl rfl (by kernel_rfl) (fun _ _ _ h => h) (by rfl) (by intro w'; go_simp; with_reducible rfl) _ (by simp only [zN_]; rfl) ?_
              refine done_ (by kernel_rfl) ?_
              go_wp2_with fail
              go_roundw
              case measure => simp [intOf]; omega
              case rel => exact ⟨zd + d + pd, j + 1, rfl, by go_num, by omega, Lib.hid HGK.out.drew.drew, HNB, hnn.1, hnn.2⟩
            · have t1 : decide (b < 0) = false := by simpa using hb2
              by_cases hlt2 : zd + d + pd < b
              · have t2 : decide (zd + d + pd < b) = true := by simpa using hlt2
                have HNB : Hid (zd + d + pd = (ys.take (j + 1)).foldl (bestStep n h ⟨zv, zd⟩) bv) := Lib.hid (by rw [HAT.out, HST.out, if_pos ⟨hd0, .inr hlt2⟩])
                have hnn : -1 ≤ zd + d + pd ∧ zd + d + pd ≤ 6917529027641081856 := by omega
                clear hd0 hb2 hlt2
                go_upto_region 16 with fail
                refine start_ (n := 23) (S := fun w' => w'.cell? ⟨(az.add (i * 2)).block, (az.add (i * 2)).off + 1, none⟩ = some (.int .i64 zd) ∧ w'.cell? ⟨(ap.add (j * 2)).block, (ap.add (j * 2)).off + 1, none⟩ = some (.int .i64 pd)) (ds := []) (bA_ 23 0) (by kernel_rfl) rfl rfl ⟨z1, q1⟩ (fun hHeld => ?_)
                refine p_ 0 78 _ (bA_ 23 1) rfl rfl (by kernel_rfl) (fun _ _ _ h => h) (by rfl) (by intro w'; go_simp; with_reducible rfl) _ (by simp only [zN_]; rfl) ?_
                refine p_ 1 79 _ (bA_ 23 3) rfl rfl (by kernel_rfl) (fun _ _ _ h => h) (by rfl) (by intro w'; go_simp; with_reducible rfl) _ (by simp only [zN_]; rfl) ?_
                refine p_ 2 80 _ (bA_ 23 7) rfl rfl (by kernel_rfl) (fun _ _ _ h => h) (by rfl) (by intro w'; go_simp; with_reducible rfl) _ (by simp only [zN_]; rfl) ?_
                refine p_ 3 81 _ (bA_ 23 15) rfl rfl (by kernel_rfl) (fun _ _ _ h => h) (by rfl) (by intro w'; go_simp; with_reducible rfl) _ (by simp only [zN_]; rfl) ?_
                refine p_ 4 82 _ (bA_ 23 31) rfl rfl (by kernel_rfl) (fun _ _ _ h => h) (by rfl) (by intro w'; go_simp; with_reducible rfl) _ (by simp only [zN_]; rfl) ?_
                refine p_ 5 83 _ (bA_ 23 63) rfl rfl (by kernel_rfl) (fun _ _ _ h => h) (by rfl) (by intro w'; go_simp; with_reducible rfl) _ (by simp only [zN_]; rfl) ?_
                refine p_ 6 84 _ (bA_ 23 127) rfl rfl (by kernel_rfl) (fun _ _ _ h => h) (by rfl) (by intro w'; go_simp; with_reducible rfl) _ (by simp only [zN_]; rfl) ?_
                refine p_ 7 85 _ (bA_ 23 255) rfl rfl (by kernel_rfl) (fun _ _ _ h => h) (by rfl) (by intro w'; go_simp; with_reducible rfl) _ (by simp only [zN_]; rfl) ?_
                refine p_ 8 86 _ (bA_ 23 511) rfl rfl (by kernel_rfl) (fun _ _ _ h => h) (by rfl) (by intro w'; go_simp; with_reducible rfl) _ (by simp only [zN_]; rfl) ?_
                refine p_ 9 87 _ (bA_ 23 1023) rfl rfl (by kernel_rfl) (fun _ _ _ h => h) (by rfl) (by intro w'; go_simp; with_reducible rfl) _ (by simp only [zN_]; rfl) ?_
                refine p_ 11 89 _ (bA_ 23 3071) rfl rfl (by kernel_rfl) (fun _ _ _ h => h) (by rfl) (by intro w'; go_simp; with_reducible rfl) _ (by simp only [zN_]; rfl) ?_
                refine p_ 13 91 _ (bA_ 23 11263) rfl rfl (by kernel_rfl) (fun _ _ _ h => h) (by rfl) (by intro w'; go_simp; with_reducible rfl) _ (by simp only [zN_]; rfl) ?_
                refine p_ 14 92 _ (bA_ 23 27647) rfl rfl (by kernel_rfl) (fun _ _ _ h => h) (by rfl) (by intro w'; go_simp; with_reducible rfl) _ (by simp only [zN_]; rfl) ?_
                refine p_ 15 93 _ (bA_ 23 60415) rfl rfl (by kernel_rfl) (fun _ _ _ h => h) (by rfl) (by intro w'; go_simp; with_reducible rfl) _ (by simp only [zN_]; rfl) ?_
                refine p_ 16 94 _ (bA_ 23 125951) rfl rfl (by kernel_rfl) (fun _ _ _ h => h) (by rfl) (by intro w'; go_simp; with_reducible rfl) _ (by simp only [zN_]; rfl) ?_
                refine p_ 19 97 _ (bA_ 23 650239) rfl rfl (by kernel_rfl) (fun _ _ _ h => h) (by rfl) (by intro w'; go_simp; with_reducible rfl) _ (by simp only [zN_]; rfl) ?_
                refine t_ 10 88 ?_ (bA_ 23 651263) rfl rfl (by kernel_rfl) (fun _ _ _ h => h) (by rfl) ?_ hHeld ?_ ?_ ?_
                rotate_left
                · rintro w' ⟨s0, s1⟩
                  go_simp
                  with_reducible rfl
                rotate_left; · simp only [zN_]; rfl
                refine p_ 12 90 _ (bA_ 23 655359) rfl rfl (by kernel_rfl) (fun _ _ _ h => h) (by rfl) (by intro w'; go_simp; with_reducible rfl) _ (by simp only [zN_]; rfl) ?_
                refine t_ 17 95 ?_ (bA_ 23 786431) rfl rfl (by kernel_rfl) (fun _ _ _ h => h) (by rfl) ?_ hHeld ?_ ?_ ?_
                rotate_left
                · rintro w' ⟨s0, s1⟩
                  go_simp
                  with_reducible rfl
                rotate_left; · simp only [zN_]; rfl
                refine p_ 18 96 _ (bA_ 23 1048575) rfl rfl (by kernel_rfl) (fun _ _ _ h => h) (by rfl) (by intro w'; go_simp; with_reducible rfl) _ (by simp only [zN_]; rfl) ?_
                refine p_ 20 98 _ (bA_ 23 2097151) rfl rfl (by kernel_rfl) (fun _ _ _ h => h) (by rfl) (by intro w'; go_simp; with_reducible rfl) _ (by simp only [zN_]; rfl) ?_
                refine p_ 21 99 _ (bA_ 23 4194303) rfl rfl (by kernel_rfl) (fun _ _ _ h => h) (by rfl) (by intro w'; go_simp; with_reducible rfl) _ (by simp only [zN_]; rfl) ?_
                refine p_ 22 100 _ (bA_ 23 8388607) rfl rfl (by kernel_rfl) (fun _ _ _ h => h) (by rfl) (by intro w'; go_simp; with_reducible rfl) _ (by simp only [zN_]; rfl) ?_
                refine done_ (by kernel_rfl) ?_
                go_upto_region 17 with fail
                refine start_ (n := 14) (S := fun w' => w'.cell? ⟨(az.add (i * 2)).block, (az.add (i * 2)).off + 1, none⟩ = some (.int .i64 zd) ∧ w'.cell? ⟨(ap.add (j * 2)).block, (ap.add (j * 2)).off + 1, none⟩ = some (.int .i64 pd)) (ds := []) (bA_ 14 0) (by kernel_rfl) rfl rfl ⟨(HZQ.out _ HGK.out.drew).2, (HPQ.out _ HGK.out.drew).2⟩ (fun hHeld => ?_)
                refine p_ 0 101 _ (bA_ 14 1) rfl rfl (by kernel_rfl) (fun _ _ _ h => h) (by rfl) (by intro w'; go_simp; with_reducible rfl) _ (by simp only [zN_]; rfl) ?_
                refine p_ 1 102 _ (bA_ 14 3) rfl rfl (by kernel_rfl) (fun _ _ _ h => h) (by rfl) (by intro w'; go_simp; with_reducible rfl) _ (by simp only [zN_]; rfl) ?_
                refine p_ 2 103 _ (bA_ 14 7) rfl rfl (by kernel_rfl) (fun _ _ _ h => h) (by rfl) (by intro w'; go_simp; with_reducible rfl) _ (by simp only [zN_]; rfl) ?_
                refine p_ 3 104 _ (bA_ 14 15) rfl rfl (by kernel_rfl) (fun _ _ _ h => h) (by rfl) (by intro w'; go_simp; with_reducible rfl) _ (by simp only [zN_]; rfl) ?_
                refine p_ 5 106 _ (bA_ 14 47) rfl rfl (by kernel_rfl) (fun _ _ _ h => h) (by rfl) (by intro w'; go_simp; with_reducible rfl) _ (by simp only [zN_]; rfl) ?_
                refine p_ 7 108 _ (bA_ 14 175) rfl rfl (by kernel_rfl) (fun _ _ _ h => h) (by rfl) (by intro w'; go_simp; with_reducible rfl) _ (by simp only [zN_]; rfl) ?_
                refine p_ 8 109 _ (bA_ 14 431) rfl rfl (by kernel_rfl) (fun _ _ _ h => h) (by rfl) (by intro w'; go_simp; with_reducible rfl) _ (by simp only [zN_]; rfl) ?_
                refine p_ 9 110 _ (bA_ 14 943) rfl rfl (by kernel_rfl) (fun _ _ _ h => h) (by rfl) (by intro w'; go_simp; with_reducible rfl) _ (by simp only [zN_]; rfl) ?_
                refine p_ 10 111 _ (bA_ 14 1967) rfl rfl (by kernel_rfl) (fun _ _ _ h => h) (by rfl) (by intro w'; go_simp; with_reducible rfl) _ (by simp only [zN_]; rfl) ?_
                refine t_ 4 105 ?_ (bA_ 14 1983) rfl rfl (by kernel_rfl) (fun _ _ _ h => h) (by rfl) ?_ hHeld ?_ ?_ ?_
                rotate_left
                · rintro w' ⟨s0, s1⟩
                  go_simp
                  with_reducible rfl
                rotate_left; · simp only [zN_]; rfl
                refine p_ 6 107 _ (bA_ 14 2047) rfl rfl (by kernel_rfl) (fun _ _ _ h => h) (by rfl) (by intro w'; go_simp; with_reducible rfl) _ (by simp only [zN_]; rfl) ?_
                refine t_ 11 112 ?_ (bA_ 14 4095) rfl rfl (by kernel_rfl) (fun _ _ _ h => h) (by rfl) ?_ hHeld ?_ ?_ ?_
                rotate_left
                · rintro w' ⟨s0, s1⟩
                  go_simp
                  with_reducible rfl
                rotate_left; · simp only [zN_]; rfl
                refine p_ 12 113 _ (bA_ 14 8191) rfl rfl (by kernel_rfl) (fun _ _ _ h => h) (by rfl) (by intro w'; go_simp; with_reducible rfl) _ (by simp only [zN_]; rfl) ?_
                refine p_ 13 16 _ (bA_ 14 16383) rfl rfl (by kernel_rfl) (fun _ _ _ h => h) (by rfl) (by intro w'; go_simp; with_reducible rfl) _ (by simp only [zN_]; rfl) ?_
                refine done_ (by kernel_rfl) ?_
                go_wp2_with fail
                go_roundw
                case measure => simp [intOf]; omega
                case rel => exact ⟨zd + d + pd, j + 1, rfl, by go_num, by omega, Lib.hid HGK.out.drew.drew, HNB, hnn.1, hnn.2⟩
              · have t2 : decide (zd + d + pd < b) = false := by simpa using hlt2
                have HNB : Hid (b = (ys.take (j + 1)).foldl (bestStep n h ⟨zv, zd⟩) bv) := Lib.hid (by rw [HAT.out, HST.out, if_neg (fun f => by rcases f.2 with f | f <;> omega)])
                clear hd0 hb2 hlt2
                go_upto_region 16 with fail
                refine start_ (n := 23) (S := fun w' => w'.cell? ⟨(az.add (i * 2)).block, (az.add (i * 2)).off + 1, none⟩ = some (.int .i64 zd) ∧ w'.cell? ⟨(ap.add (j * 2)).block, (ap.add (j * 2)).off + 1, none⟩ = some (.int .i64 pd)) (ds := []) (bA_ 23 0) (by kernel_rfl) rfl rfl ⟨z1, q1⟩ (fun hHeld => ?_)
                refine p_ 0 78 _ (bA_ 23 1) rfl rfl (by kernel_rfl) (fun _ _ _ h => h) (by rfl) (by intro w'; go_simp; with_reducible rfl) _ (by simp only [zN_]; rfl) ?_
                refine p_ 1 79 _ (bA_ 23 3) rfl rfl (by kernel_rfl) (fun _ _ _ h => h) (by rfl) (by intro w'; go_simp; with_reducible rfl) _ (by simp only [zN_]; rfl) ?_
                refine p_ 2 80 _ (bA_ 23 7) rfl rfl (by kernel_rfl) (fun _ _ _ h => h) (by rfl) (by intro w'; go_simp; with_reducible rfl) _ (by simp only [zN_]; rfl) ?_
                refine p_ 3 81 _ (bA_ 23 15) rfl rfl (by kernel_rfl) (fun _ _ _ h => h) (by rfl) (by intro w'; go_simp; with_reducible rfl) _ (by simp only [zN_]; rfl) ?_
                refine p_ 4 82 _ (bA_ 23 31) rfl rfl (by kernel_rfl) (fun _ _ _ h => h) (by rfl) (by intro w'; go_simp; with_reducible rfl) _ (by simp only [zN_]; rfl) ?_
                refine p_ 5 83 _ (bA_ 23 63) rfl rfl (by kernel_rfl) (fun _ _ _ h => h) (by rfl) (by intro w'; go_simp; with_reducible rfl) _ (by simp only [zN_]; rfl) ?_
                refine p_ 6 84 _ (bA_ 23 127) rfl rfl (by kernel_rfl) (fun _ _ _ h => h) (by rfl) (by intro w'; go_simp; with_reducible rfl) _ (by simp only [zN_]; rfl) ?_
                refine p_ 7 85 _ (bA_ 23 255) rfl rfl (by kernel_rfl) (fun _ _ _ h => h) (by rfl) (by intro w'; go_simp; with_reducible rfl) _ (by simp only [zN_]; rfl) ?_
                refine p_ 8 86 _ (bA_ 23 511) rfl rfl (by kernel_rfl) (fun _ _ _ h => h) (by rfl) (by intro w'; go_simp; with_reducible rfl) _ (by simp only [zN_]; rfl) ?_
                refine p_ 9 87 _ (bA_ 23 1023) rfl rfl (by kernel_rfl) (fun _ _ _ h => h) (by rfl) (by intro w'; go_simp; with_reducible rfl) _ (by simp only [zN_]; rfl) ?_
                refine p_ 11 89 _ (bA_ 23 3071) rfl rfl (by kernel_rfl) (fun _ _ _ h => h) (by rfl) (by intro w'; go_simp; with_reducible rfl) _ (by simp only [zN_]; rfl) ?_
                refine p_ 13 91 _ (bA_ 23 11263) rfl rfl (by kernel_rfl) (fun _ _ _ h => h) (by rfl) (by intro w'; go_simp; with_reducible rfl) _ (by simp only [zN_]; rfl) ?_
                refine p_ 14 92 _ (bA_ 23 27647) rfl rfl (by kernel_rfl) (fun _ _ _ h => h) (by rfl) (by intro w'; go_simp; with_reducible rfl) _ (by simp only [zN_]; rfl) ?_
                refine p_ 15 93 _ (bA_ 23 60415) rfl rfl (by kernel_rfl) (fun _ _ _ h => h) (by rfl) (by intro w'; go_simp; with_reducible rfl) _ (by simp only [zN_]; rfl) ?_
                refine p_ 16 94 _ (bA_ 23 125951) rfl rfl (by kernel_rfl) (fun _ _ _ h => h) (by rfl) (by intro w'; go_simp; with_reducible rfl) _ (by simp only [zN_]; rfl) ?_
                refine p_ 19 97 _ (bA_ 23 650239) rfl rfl (by kernel_rfl) (fun _ _ _ h => h) (by rfl) (by intro w'; go_simp; with_reducible rfl) _ (by simp only [zN_]; rfl) ?_
                refine t_ 10 88 ?_ (bA_ 23 651263) rfl rfl (by kernel_rfl) (fun _ _ _ h => h) (by rfl) ?_ hHeld ?_ ?_ ?_
                rotate_left
                · rintro w' ⟨s0, s1⟩
                  go_simp
                  with_reducible rfl
                rotate_left; · simp only [zN_]; rfl
                refine p_ 12 90 _ (bA_ 23 655359) rfl rfl (by kernel_rfl) (fun _ _ _ h => h) (by rfl) (by intro w'; go_simp; with_reducible rfl) _ (by simp only [zN_]; rfl) ?_
                refine t_ 17 95 ?_ (bA_ 23 786431) rfl rfl (by kernel_rfl) (fun _ _ _ h => h) (by rfl) ?_ hHeld ?_ ?_ ?_
                rotate_left
                · rintro w' ⟨s0, s1⟩
                  go_simp
                  with_reducible rfl
                rotate_left; · simp only [zN_]; rfl
                refine p_ 18 96 _ (bA_ 23 1048575) rfl rfl (by kernel_rfl) (fun _ _ _ h => h) (by rfl) (by intro w'; go_simp; with_reducible rfl) _ (by simp only [zN_]; rfl) ?_
                refine p_ 20 98 _ (bA_ 23 2097151) rfl rfl (by kernel_rfl) (fun _ _ _ h => h) (by rfl) (by intro w'; go_simp; with_reducible rfl) _ (by simp only [zN_]; rfl) ?_
                refine p_ 21 99 _ (bA_ 23 4194303) rfl rfl (by kernel_rfl) (fun _ _ _ h => h) (by rfl) (by intro w'; go_simp; with_reducible rfl) _ (by simp only [zN_]; rfl) ?_
                refine p_ 22 100 _ (bA_ 23 8388607) rfl rfl (by kernel_rfl) (fun _ _ _ h => h) (by rfl) (by intro w'; go_simp; with_reducible rfl) _ (by simp only [zN_]; rfl) ?_
                refine done_ (by kernel_rfl) ?_
                go_wp2_with fail
                go_roundw
                case measure => simp [intOf]; omega
                case rel => exact ⟨b, j + 1, rfl, by go_num, by omega, Lib.hid HGK.out.drew, HNB, hb0', hb1'⟩
          · have t0 : decide (d ≥ 0) = false := by simpa using hd0
            have t0' : decide (0 ≤ d) = false := by simpa using hd0
            have HNB : Hid (b = (ys.take (j + 1)).foldl (bestStep n h ⟨zv, zd⟩) bv) := Lib.hid (by rw [HAT.out, HST.out, if_neg (fun f => hd0 f.1)])
            clear hd0
            go_upto_region 16 with fail
            refine start_ (n := 23) (S := fun w' => w'.cell? ⟨(az.add (i * 2)).block, (az.add (i * 2)).off + 1, none⟩ = some (.int .i64 zd) ∧ w'.cell? ⟨(ap.add (j * 2)).block, (ap.add (j * 2)).off + 1, none⟩ = some (.int .i64 pd)) (ds := []) (bA_ 23 0) (by kernel_rfl) rfl rfl ⟨z1, q1⟩ (fun hHeld => ?_)
            refine p_ 0 78 _ (bA_ 23 1) rfl rfl (by kernel_rfl) (fun _ _ _ h => h) (by rfl) (by intro w'; go_simp; with_reducible rfl) _ (by simp only [zN_]; rfl) ?_
            refine p_ 1 79 _ (bA_ 23 3) rfl rfl (by kernel_rfl) (fun _ _ _ h => h) (by rfl) (by intro w'; go_simp; with_reducible rfl) _ (by simp only [zN_]; rfl) ?_
            refine p_ 2 80 _ (bA_ 23 7) rfl rfl (by kernel_rfl) (fun _ _ _ h => h) (by rfl) (by intro w'; go_simp; with_reducible rfl) _ (by simp only [zN_]; rfl) ?_
            refine pu_ 3 81 (bA_ 23 15) rfl rfl (by kernel_rfl) (fun _ _ _ h => h) (by rfl) ?_ ?_ ?_
            rotate_left; · simp only [zN_]; rfl
            refine pu_ 4 82 (bA_ 23 31) rfl rfl (by kernel_rfl) (fun _ _ _ h => h) (by rfl) ?_ ?_ ?_
            rotate_left; · simp only [zN_]; rfl
            refine pu_ 5 83 (bA_ 23 63) rfl rfl (by kernel_rfl) (fun _ _ _ h => h) (by rfl) ?_ ?_ ?_
            rotate_left; · simp only [zN_]; rfl
            refine pu_ 6 84 (bA_ 23 127) rfl rfl (by kernel_rfl) (fun _ _ _ h => h) (by rfl) ?_ ?_ ?_
            rotate_left; · simp only [zN_]; rfl
            refine pu_ 7 85 (bA_ 23 255) rfl rfl (by kernel_rfl) (fun _ _ _ h => h) (by rfl) ?_ ?_ ?_
            rotate_left; · simp only [zN_]; rfl
            refine pu_ 8 86 (bA_ 23 511) rfl rfl (by kernel_rfl) (fun _ _ _ h => h) (by rfl) ?_ ?_ ?_
            rotate_left; · simp only [zN_]; rfl
            refine pu_ 9 87 (bA_ 23 1023) rfl rfl (by kernel_rfl) (fun _ _ _ h => h) (by rfl) ?_ ?_ ?_
            rotate_left; · simp only [zN_]; rfl
            refine pu_ 10 88 (bA_ 23 2047) rfl rfl (by kernel_rfl) (fun _ _ _ h => h) (by rfl) ?_ ?_ ?_
            rotate_left; · simp only [zN_]; rfl
            refine pu_ 11 89 (bA_ 23 4095) rfl rfl (by kernel_rfl) (fun _ _ _ h => h) (by rfl) ?_ ?_ ?_
            rotate_left; · simp only [zN_]; rfl
            refine pu_ 12 90 (bA_ 23 8191) rfl rfl (by kernel_rfl) (fun _ _ _ h => h) (by rfl) ?_ ?_ ?_
            rotate_left; · simp only [zN_]; rfl
            refine pu_ 13 91 (bA_ 23 16383) rfl rfl (by kernel_rfl) (fun _ _ _ h => h) (by rfl) ?_ ?_ ?_
            rotate_left; · simp only [zN_]; rfl
            refine pu_ 14 92 (bA_ 23 32767) rfl rfl (by kernel_rfl) (fun _ _ _ h => h) (by rfl) ?_ ?_ ?_
            rotate_left; · simp only [zN_]; rfl
            refine pu_ 15 93 (bA_ 23 65535) rfl rfl (by kernel_rfl) (fun _ _ _ h => h) (by rfl) ?_ ?_ ?_
            rotate_left; · simp only [zN_]; rfl
            refine pu_ 16 94 (bA_ 23 131071) rfl rfl (by kernel_rfl) (fun _ _ _ h => h) (by rfl) ?_ ?_ ?_
            rotate_left; · simp only [zN_]; rfl
            refine pu_ 17 95 (bA_ 23 262143) rfl rfl (by kernel_rfl) (fun _ _ _ h => h) (by rfl) ?_ ?_ ?_
            rotate_left; · simp only [zN_]; rfl
            refine pu_ 18 96 (bA_ 23 524287) rfl rfl (by kernel_rfl) (fun _ _ _ h => h) (by rfl) ?_ ?_ ?_
            rotate_left; · simp only [zN_]; rfl
            refine pu_ 19 97 (bA_ 23 1048575) rfl rfl (by kernel_rfl) (fun _ _ _ h => h) (by rfl) ?_ ?_ ?_
            rotate_left; · simp only [zN_]; rfl
            refine pu_ 20 98 (bA_ 23 2097151) rfl rfl (by kernel_rfl) (fun _ _ _ h => h) (by rfl) ?_ ?_ ?_
            rotate_left; · simp only [zN_]; rfl
            refine pu_ 21 99 (bA_ 23 4194303) rfl rfl (by kernel_rfl) (fun _ _ _ h => h) (by rfl) ?_ ?_ ?_
            rotate_left; · simp only [zN_]; rfl
            refine p_ 22 100 _ (bA_ 23 8388607) rfl rfl (by kernel_rfl) (fun _ _ _ h => h) (by rfl) (by intro w'; go_simp; with_reducible rfl) _ (by simp only [zN_]; rfl) ?_
            refine done_ (by kernel_rfl) ?_
            go_wp2_with fail
            go_roundw
            case measure => simp [intOf]; omega
            case rel => exact ⟨b, j + 1, rfl, by go_num, by omega, Lib.hid HGK.out.drew, HNB, hb0', hb1'⟩
        · have hjl : ny ≤ j := by omega
          have HNB : Hid (b = (xs.take (i + 1)).foldl (bestRow n h ys) (-1)) := Lib.hid (by rw [HBR.out, HB.out, List.take_of_length_le (by rw [HNY.out]; exact hjl)])
          go_wp2_with fail
          go_roundw
          case measure => simp [intOf]; omega
          case rel => exact ⟨b, i + 1, rfl, by go_num, by omega, HGj, HNB, hb0', hb1'⟩
    · have hil : nx ≤ i := by omega
      have HBB : Hid (bv = bestP n h xs ys) := Lib.hid (by rw [HBV.out, List.take_of_length_le (by rw [HNX.out]; exact hil)]; rfl)
      have HBW := Lib.hid (HB7.out.trans (HGi.out.mono HB7.out.size))
      have HGW := Lib.hid (HG7.out.trans (HGi.out.mono HG7.out.size))
      have hmr := (HGW.out.block _ (blk_lt HM5.out)).trans HM5.out
      have m0 := (blk_cell hmr 0).trans rfl
      have m1 := (blk_cell hmr 1).trans rfl
      have ml := blk_lt hmr
      clear hmr HBV HFB HBS HXD HYD HFC
      go_upto_region 18 with fail
      go_upto_region 19 with (first | (go_at_call 16; refine (HA7.out wr HGW.out).mono ?_; rintro e W8 ⟨va, out, rfl, hR, hol, hrows, g8⟩; obtain ⟨Oa, oc, hva, hoc, hOC⟩ := Kd.R_reads hR; subst hva; have HOC := Lib.hid hOC; have HOL := Lib.hid hol; have HRW := Lib.hid hrows; have HG8 := Lib.hid (HGW.out.trans (g8.mono HGW.out.size)); clear hR hoc hOC hol hrows g8))
      clear m0 m1 ml
      rw [HOL.out] at HOC
      rw [HOL.out]
      have hrv := HRW.out s hsn
      obtain ⟨ao, Bv, bvc, hAo, ov, hovl, hCv⟩ := at_rowF HOC.out s hsn
      rw [hrv.len] at ov hovl hCv
      obtain ⟨bb, hBv, cv⟩ := Kd.at_int hCv (t : Int) (by omega) (by omega)
      have cv' : W8.cell? (bb.add t) = some (.int .i64 (rd (out.getD s []) t)) := cv
      subst hAo hBv
      have HD := Lib.hid (HLAW.out (rd (out.getD s []) (t : Int)) (fun e hw => hrv.least hw) (by
        by_cases h0 : 0 ≤ rd (out.getD s []) (t : Int)
        · exact .inr (hrv.snd t htn h0)
        · have := hrv.low t htn
          exact .inl (by omega)))
      have hs0 : (0 : Int) ≤ (s : Int) := Int.natCast_nonneg _
      have hs1 : (s : Int) < (n : Int) := by omega
      have ht0 : (0 : Int) ≤ (t : Int) := Int.natCast_nonneg _
      have ht1 : (t : Int) < (n : Int) := by omega
      have l2' : ao.block < W8.heap.size := by have h := World.block_lt_of_cell? _ _ ov; rwa [blkadd] at h
      have l3' : bb.block < W8.heap.size := by have h := World.block_lt_of_cell? _ _ cv'; rwa [blkadd] at h
      generalize rd (out.getD s []) (t : Int) = d at *
      clear hrv hCv cv hovl HLAW HA7
      go_upto_region 20 with fail
      clear ov cv' l2' l3'
      have HSX8 := Lib.hid (HSX.out W8 HG8.out)
      have HSY8 := Lib.hid (fun W (g : Below W8.heap.size W8 W) => HSY.out W (HG8.out.trans (g.mono HG8.out.size)))
      have HB8 := Lib.hid (HB5.out.trans (HG8.out.mono HB5.out.size))
      clear HSX HSY HOC HRW HOL HX7 HYC HGi HBW HGW HG7 HB7 HG8
      rw [HBB.out] at *
      clear HBB
      generalize bestP n h xs ys = best at *
      have HLC : Hid (∀ W (Aa Ab : Option Addr) (ca cb : Nat), Kd.C (Kd.int .i64) W Aa sx.length sx → sx.length ≤ ca → Kd.C (Kd.int .i64) W Ab sy.length sy → sy.length ≤ cb → Calls Tryz.prog 17 #[.slice Aa sx.length ca, .slice Ab sy.length cb] W fun r w' => r = .returned (.bool (localP sx sy)) ∧ Below W.heap.size W w') := Lib.hid (fun W Aa Ab ca cb h1 h2 h3 h4 => local_walk W Aa Ab ca cb sx sy h1 h2 h3 h4 HSP.out (by omega) (by omega))
      generalize localP sx sy = lo at *
      clear hxl hyl HNX HNY
      cases lo with
      | true =>
        by_cases hbn : best < 0
        · have t0 : decide (best < 0) = true := by simpa using hbn
          clear hbn HD
          go_wp2_with fail
          refine HSX8.out.mono ?_
          rintro e W9 ⟨Sa, sc, rfl, hsc, hSC, g9⟩
          have HS9 := Lib.hid (And.intro hsc hSC)
          have HG9 := Lib.hid g9
          clear hsc hSC g9 HSX8
          go_wp2_with fail
          refine (HSY8.out W9 HG9.out).mono ?_
          rintro e W10 ⟨Ta, tc, rfl, htc, hTC, g10⟩
          have HT10 := Lib.hid (And.intro htc hTC)
          have HS10 := Lib.hid (Kd.C_below HS9.out.2 g10)
          have HG10 := Lib.hid (HG9.out.trans (g10.mono HG9.out.size))
          clear htc hTC g10 HSY8
          go_wp2_with fail
          refine (HLC.out W10 Sa Ta sc tc HS10.out HS9.out.1 HT10.out.2 HT10.out.1).mono ?_
          rintro e W11 ⟨rfl, g11⟩
          have HG11 := Lib.hid (HG10.out.trans (g11.mono HG10.out.size))
          clear g11
          go_wp2_with fail
          refine (HKN.out _).mono ?_
          rintro e WK ⟨rfl, gk⟩
          have HBK := Lib.hid (HB8.out.trans ((HG11.out.trans (gk.mono HG11.out.size)).mono HB8.out.size))
          clear gk
          go_wp2_with fail
          all_goals (try rw [Exit.noGoto_ret])
          all_goals go_ret
          all_goals exact ⟨rfl, HBK.out⟩
        · have hdd : 0 ≤ d ∧ d ≤ best := by
            rcases HD.out.1 with h | h
            · omega
            · exact h
          obtain ⟨hd0, hd1⟩ := hdd
          have t0 : decide (best < 0) = false := by simpa using hbn
          have t1 : decide (d ≥ 0) = true := by simpa using hd0
          have t1' : decide (0 ≤ d) = true := by simpa using hd0
          have t2 : decide (d ≤ best) = true := by simpa using hd1
          clear hbn hd0 hd1 HD
          go_wp2_with fail
          refine HSX8.out.mono ?_
          rintro e W9 ⟨Sa, sc, rfl, hsc, hSC, g9⟩
          have HS9 := Lib.hid (And.intro hsc hSC)
          have HG9 := Lib.hid g9
          clear hsc hSC g9 HSX8
          go_wp2_with fail
          refine (HSY8.out W9 HG9.out).mono ?_
          rintro e W10 ⟨Ta, tc, rfl, htc, hTC, g10⟩
          have HT10 := Lib.hid (And.intro htc hTC)
          have HS10 := Lib.hid (Kd.C_below HS9.out.2 g10)
          have HG10 := Lib.hid (HG9.out.trans (g10.mono HG9.out.size))
          clear htc hTC g10 HSY8
          go_wp2_with fail
          refine (HLC.out W10 Sa Ta sc tc HS10.out HS9.out.1 HT10.out.2 HT10.out.1).mono ?_
          rintro e W11 ⟨rfl, g11⟩
          have HG11 := Lib.hid (HG10.out.trans (g11.mono HG10.out.size))
          clear g11
          go_wp2_with fail
          refine (HKN.out _).mono ?_
          rintro e WK ⟨rfl, gk⟩
          have HBK := Lib.hid (HB8.out.trans ((HG11.out.trans (gk.mono HG11.out.size)).mono HB8.out.size))
          clear gk
          go_wp2_with fail
          all_goals (try rw [Exit.noGoto_ret])
          all_goals go_ret
          all_goals exact ⟨rfl, HBK.out⟩
      | false =>
        have hde := HD.out.2 rfl
        subst hde
        have t0 : (d == d) = true := by simp
        clear HD
        go_wp2_with fail
        refine HSX8.out.mono ?_
        rintro e W9 ⟨Sa, sc, rfl, hsc, hSC, g9⟩
        have HS9 := Lib.hid (And.intro hsc hSC)
        have HG9 := Lib.hid g9
        clear hsc hSC g9 HSX8
        go_wp2_with fail
        refine (HSY8.out W9 HG9.out).mono ?_
        rintro e W10 ⟨Ta, tc, rfl, htc, hTC, g10⟩
        have HT10 := Lib.hid (And.intro htc hTC)
        have HS10 := Lib.hid (Kd.C_below HS9.out.2 g10)
        have HG10 := Lib.hid (HG9.out.trans (g10.mono HG9.out.size))
        clear htc hTC g10 HSY8
        go_wp2_with fail
        refine (HLC.out W10 Sa Ta sc tc HS10.out HS9.out.1 HT10.out.2 HT10.out.1).mono ?_
        rintro e W11 ⟨rfl, g11⟩
        have HG11 := Lib.hid (HG10.out.trans (g11.mono HG10.out.size))
        clear g11
        go_wp2_with fail
        refine (HKN.out _).mono ?_
        rintro e WK ⟨rfl, gk⟩
        have HBK := Lib.hid (HB8.out.trans ((HG11.out.trans (gk.mono HG11.out.size)).mono HB8.out.size))
        clear gk
        go_wp2_with fail
        all_goals (try rw [Exit.noGoto_ret])
        all_goals go_ret
        all_goals exact ⟨rfl, HBK.out⟩
end Go.Proofs.YtfkejflmhidnaaaGreat.PAll
namespace Go.Proofs.YtfkejflmhidnaaaGreat.PAll
open RowKit YtfkejflmhidnaaaGreatW.PrintWords YtfkejflmhidnaaaGreatW.PrintLast YtfkejflmhidnaaaGreatW.PrintMore
open Go.Joins Go.ChangeShapes Go.WideShapes Go.Deep
section
variable {H : Type} {enc : TypeId × Value → H} {W : World}
def arcAt (W : World) (a : Addr) (i : Nat) (s : S85) : Prop :=
  W.cell? (a.add (i * 3)) = some (.int .i64 s.f0) ∧ W.cell? (a.add (i * 3 + 1)) = some (.int .i64 s.f1) ∧ W.cell? (a.add (i * 3 + 2)) = some (.int .i64 s.f2)
set_option maxRecDepth 100000 in
theorem open_arcs {fuel : Nat} {cs : List Value} {x : DataW H × List MemPlace} (h : DataW.trod enc Tryz.prog W 0 (fun _ => true) true fuel 22 cs = some x) :
    ∃ (A : Option Addr) (cap : Nat) (l : List S85), cs = [.slice A l.length cap] ∧ l.length ≤ cap ∧ Kd.C k85 W A l.length l := by
  rcases open_slice Tryz.underlying22 h with ⟨hcs, _⟩ | ⟨a, len, cap, m, n, D, Pl, hcs, hb, hl, hm, hmm, hx, hi⟩
  · exact ⟨none, 0, [], hcs, Nat.le_refl _, ⟨rfl, by simp, fun h => absurd h (by simp)⟩⟩
  · have hm' : m = cap := by simpa using hmm
    have h3 : Tryz.prog.cellsOf 85 = 3 := by kernel_rfl
    have h1 : Tryz.prog.cellsOf 3 = 1 := by kernel_rfl
    have each : ∀ i, ∃ s : S85, i < len → arcAt W a i s := fun i => by
      by_cases hlt : i < len
      · obtain ⟨cs', hc, ht⟩ := hi i (by omega)
        rw [h3] at hc
        obtain ⟨y0, y1, y2, n', hy, hlen, f0, f1, f2⟩ := trod_struct3 Tryz.underlying85 ht
        obtain ⟨_, hcl, hat⟩ := World.cells?_some hc
        match cs', hcl with
        | [c0, c1, c2], _ =>
          simp only [h1] at f0 f1 f2
          obtain ⟨z0, e0, _, w0⟩ := DataW.trod_int Tryz.underlying3 f0
          obtain ⟨z1, e1, _, w1⟩ := DataW.trod_int Tryz.underlying3 f1
          obtain ⟨z2, e2, _, w2⟩ := DataW.trod_int Tryz.underlying3 f2
          simp at e0 e1 e2
          subst e0 e1 e2
          have g0 := hat 0 (by omega)
          have g1 := hat 1 (by omega)
          have g2 := hat 2 (by omega)
          rw [Go.Deep.add_add] at g0 g1 g2
          exact ⟨⟨z0, z1, z2⟩, fun _ => ⟨g0, g1, g2⟩⟩
      · exact ⟨z85, fun h => absurd h hlt⟩
    obtain ⟨f, hf⟩ := Classical.axiomOfChoice each
    have hlen : ((List.range len).map f).length = len := by simp
    refine ⟨some a, cap, (List.range len).map f, by rw [hlen]; exact hcs, by omega, ⟨rfl, ?_, fun _ => ⟨a, rfl, fun j p hj => ?_⟩⟩⟩
    · have : maxLen ≤ 9223372036854775807 := by decide
      omega
    · have hjl : j < len := by
        have := (List.getElem?_eq_some_iff.1 hj).1
        simpa using this
      have hp : f j = p := by
        rw [List.getElem?_map, List.getElem?_range hjl] at hj
        simpa using hj
      obtain ⟨g0, g1, g2⟩ := hf j hjl
      subst hp
      refine ⟨[.int .i64 (f j).f0, .int .i64 (f j).f1, .int .i64 (f j).f2], rfl, k85_mk W (f j), fun i u hu => ?_⟩
      match i, hu with
      | 0, hu => cases hu; exact g0
      | 1, hu => cases hu; exact g1
      | 2, hu => cases hu; exact g2
      | i + 3, hu => simp at hu
set_option maxRecDepth 100000 in
theorem open_arcsV {r : Reach} {b0 : Nat} {v : Value} {d : DataW H} {p : List MemPlace} (hv : Value.okWide Tryz.prog W r b0 22 v) (h : DataW.Trod enc Tryz.prog W 0 (fun _ => true) true 22 v d p) :
    ∃ (A : Option Addr) (cap : Nat) (l : List S85), v = .slice A l.length cap ∧ l.length ≤ cap ∧ Kd.C k85 W A l.length l := by
  obtain ⟨fuel, hf⟩ := h
  obtain ⟨a0, len, cap, rfl⟩ := Go.WideShapes.okWide_slice Tryz.underlying22 hv
  obtain ⟨A, c, l, e, h1, hC⟩ := open_arcs hf
  have e' : Value.slice a0 len cap = Value.slice A l.length c := by
    have : [Value.slice a0 len cap] = [Value.slice A l.length c] := e
    simpa using this
  exact ⟨A, c, l, e', h1, hC⟩
end
theorem u8_in {a : Int} (h : (Lit.int .u8 a).wf = true) : 0 ≤ a ∧ a ≤ 255 := by
  simp [Lit.wf, IntKind.min, IntKind.max, IntKind.signed, IntKind.bits] at h
  omega
end Go.Proofs.YtfkejflmhidnaaaGreat.PAll
namespace Go.Proofs.YtfkejflmhidnaaaGreat.PAll
open RowKit YtfkejflmhidnaaaGreatW.PrintWords YtfkejflmhidnaaaGreatW.PrintLast YtfkejflmhidnaaaGreatW.PrintMore
theorem afar_card (W : World) (a0 : Int) (A1 : Option Addr) (c1 : Nat) (l1 : List S85) (a2 a3 a4 : Int) (_w0 : (Lit.int .i64 a0).wf = true) (hc1 : l1.length ≤ c1) (hC1 : Kd.C k85 W A1 l1.length l1) (w2 : (Lit.int .u8 a2).wf = true) (w3 : (Lit.int .u8 a3).wf = true) (w4 : (Lit.int .u8 a4).wf = true) :
    Calls Tryz.prog 3 #[.int .i64 a0, .slice A1 l1.length c1, .int .u8 a2, .int .u8 a3, .int .u8 a4] W fun r w' => r = .returned (.bool true) ∧ Below W.heap.size W w' :=
  afar_walk W a0 A1 c1 l1 hC1 hc1 a2 a3 a4 (u8_in w2).1 (u8_in w2).2 (u8_in w3).1 (u8_in w3).2 (u8_in w4).1 (u8_in w4).2
end Go.Proofs.YtfkejflmhidnaaaGreat.PAll
