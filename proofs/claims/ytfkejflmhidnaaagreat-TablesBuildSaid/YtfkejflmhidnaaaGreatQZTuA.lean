import Derived.Test.YtfkejflmhidnaaaGreatQZRbA
import Derived.Test.YtfkejflmhidnaaaGreatQZEqB
import Derived.Test.YtfkejflmhidnaaaGreatQZKwA
import Derived.Test.YtfkejflmhidnaaaGreatQFtC
set_option linter.all false
namespace Go.Proofs.YtfkejflmhidnaaaGreat.PAll
open RowKit YW.PrintWords YW.PrintLast YW.PrintMore
open Hp hiding Good
theorem fit_big (w : World) (rA wA : Option Addr) (rc wc n m : Nat) (h14 : n > 14) :
  Calls Tryz.prog 25 #[.agg #[.slice rA n rc, .slice wA m wc]] w fun r w' => r = .returned (.bool false) ∧ Below w.heap.size w w' := by
 have HX0 := Lib.hid (HBx.new w (.slice rA n rc) (.slice wA m wc))
 obtain ⟨c0, c1, l0⟩ := HX0.out.cells
 have e1 : decide ((n : Int) > 14) = true := by simp; omega
 clear h14
 go_enter Tryz.func25, Tryz.ntmps25
 go_wp2_with fail
 all_goals go_ret
 all_goals exact ⟨rfl, HX0.out.bel⟩
theorem rbuild_walkC (w : World) (n m : Nat) (rank : List Int) (ways : List S71) (hm : ways.length = m) (V : VH n rank ways) (rA wA : Option Addr) (rc wc : Nat) (hr : Kd.C (Kd.int .i64) w rA n rank) (hw : Kd.C k71 w wA ways.length ways) (x : List Int) (hx : ∀ u : Nat, u < n → rd x (rd rank u) = u) (k : Int) :
  Calls Tryz.prog 23 #[.agg #[.slice rA n rc, .slice wA m wc], .int .i64 k] w fun r w' => TBPost (buildT n (newH n rank x ways) k) w r w' := by
 refine (rbuild_walk w n m rank ways hm V rA wA rc wc hr hw x hx k).mono ?_
 rintro e w' ⟨v, rfl, hT, hB⟩
 obtain ⟨⟨A0, c0, A1, c1, A2, c2, A3, c3, A4, c4, A5, c5⟩, rfl, hC⟩ := hT.reads
 exact ⟨A0, c0, A1, c1, A2, c2, A3, c3, A4, c4, A5, c5, rfl, hC, hB⟩
set_option maxRecDepth 100000 in
set_option maxHeartbeats 8000000 in
theorem tbuildlaw_walk (w : World) (rA wA : Option Addr) (rc wc : Nat) (rank : List Int) (ways : List S71) (k : Int) (hr : Kd.C (Kd.int .i64) w rA rank.length rank) (hw : Kd.C k71 w wA ways.length ways) :
  Calls Tryz.prog 6 #[.agg #[.slice rA rank.length rc, .slice wA ways.length wc], .int .i64 k] w fun r w' => r = .returned (.bool true) ∧ Below w.heap.size w w' := by
 have HKN : Hid (∀ W, Calls Tryz.prog 22 #[] W fun r w' => r = .returned (.bool true) ∧ Below W.heap.size W w') := Lib.hid (fun W => known15_walk W)
 have HX0 := Lib.hid (HBx.new w (.slice rA rank.length rc) (.slice wA ways.length wc))
 have HFIT : Hid (∀ W, Below w.heap.size w W → Calls Tryz.prog 25 #[.agg #[.slice rA rank.length rc, .slice wA ways.length wc]] W fun r w' => FPost W rank.length rank ways r w') := Lib.hid (fun W g => fit_walk W rA wA rc wc rank ways (Kd.C_below hr g) (Kd.C_below hw g))
 have HBIG : Hid (rank.length > 14 → ∀ W, Calls Tryz.prog 25 #[.agg #[.slice rA rank.length rc, .slice wA ways.length wc]] W fun r w' => r = .returned (.bool false) ∧ Below W.heap.size W w') := Lib.hid (fun h W => fit_big W rA wA rc wc _ _ h)
 have HRK : Hid (∀ W, Below w.heap.size w W → Kd.C (Kd.int .i64) W rA rank.length rank) := Lib.hid (fun W g => Kd.C_below hr g)
 have HWK : Hid (∀ W, Below w.heap.size w W → Kd.C k71 W wA ways.length ways) := Lib.hid (fun W g => Kd.C_below hw g)
 clear hr hw
 obtain ⟨n, hn⟩ : ∃ n, rank.length = n := ⟨_, rfl⟩
 obtain ⟨m, hm⟩ : ∃ m, ways.length = m := ⟨_, rfl⟩
 have HM := Lib.hid hm
 rw [hn] at HRK
 rw [hn, hm] at HX0 HFIT HBIG ⊢
 clear hn hm
 obtain ⟨c0, c1, l0⟩ := HX0.out.cells
 go_enter Tryz.func6, Tryz.ntmps6
 go_upto_region 1 with fail
 generalize w.alloc (.cells #[.slice rA n rc, .slice wA m wc] 31) = W1 at *
 by_cases h14 : n > 14
 ·have HB14 := Lib.hid (HBIG.out h14 W1)
  go_wp2_with (first | (go_at_call 25; refine HB14.out.mono ?_; rintro e W2 ⟨rfl, g⟩; have HX2 := Lib.hid (HX0.out.below g); clear g HB14) | (go_at_call 22; refine (HKN.out _).mono ?_; rintro e WK ⟨rfl, gk⟩; have HBK := Lib.hid (HX2.out.bel.trans (gk.mono HX2.out.bel.size)); clear gk))
  all_goals (try rw [Exit.noGoto_ret])
  all_goals go_ret
  all_goals exact ⟨rfl, HBK.out⟩
 go_wp2_with fail
 refine (HFIT.out W1 HX0.out.bel).mono ?_
 rintro e W2 ⟨bf, rfl, hV, g⟩
 have HX2 := Lib.hid (HX0.out.below g)
 have HV := Lib.hid hV
 clear g hV HFIT HBIG c0 c1 l0
 cases bf with
 | false =>
  go_wp2_with (first | (go_at_call 22; refine (HKN.out _).mono ?_; rintro e WK ⟨rfl, gk⟩; have HBK := Lib.hid (HX2.out.bel.trans (gk.mono HX2.out.bel.size)); clear gk))
  all_goals (try rw [Exit.noGoto_ret])
  all_goals go_ret
  all_goals exact ⟨rfl, HBK.out⟩
 | true =>
  have V := HV.out rfl
  have HVH := Lib.hid V
  have HNW : Hid (∀ W, Below w.heap.size w W → Calls Tryz.prog 12 #[.agg #[.slice rA n rc, .slice wA m wc]] W fun r w' => ∃ xb x, r = .returned (.pointer (some ⟨xb, 0, none⟩)) ∧ HierRep w' xb n (newH n rank x ways) ∧ (∀ u : Nat, u < n → rd x (rd rank u) = u) ∧ Below W.heap.size W w') := Lib.hid (fun W g => by
   have e := HM.out
   subst e
   exact hnew_walk W n rank ways HVH.out rA wA rc wc (HRK.out W g) (HWK.out W g))
  have HN2 := Lib.hid (HNW.out W2 HX2.out.bel)
  clear V HV HNW
  obtain ⟨c0, c1, l0⟩ := HX2.out.cells
  go_wp2_with (first | (go_at_call 12; refine HN2.out.mono ?_; rintro e W3 ⟨xb, x, rfl, hR, hx, g⟩; have HX3 := Lib.hid (HX2.out.below g); have HHR := Lib.hid hR; have HX := Lib.hid hx; clear hR hx g HN2))
  have HOK : Hid (HOk n 1125899906842624 (newH n rank x ways)) := Lib.hid (hok_new HVH.out x)
  have HGO : Hid (GrOk n (newH n rank x ways)) := Lib.hid (grok_new HVH.out x HX.out)
  have HSM := Lib.hid (sm_build (h := newH n rank x ways) (show n ≤ 900 by omega) k)
  have HCK := Lib.hid (check_build HOK.out (by omega) HGO.out k)
  have HRB : Hid (∀ W, Below w.heap.size w W → Calls Tryz.prog 23 #[.agg #[.slice rA n rc, .slice wA m wc], .int .i64 k] W fun r w' => TBPost (buildT n (newH n rank x ways) k) W r w') := Lib.hid (fun W g => rbuild_walkC W n m rank ways HM.out HVH.out rA wA rc wc (HRK.out W g) (HWK.out W g) x HX.out k)
  have HBX := Lib.hid (build_walkC W3 xb n _ _ HHR.out HOK.out k)
  clear HX2 HVH HHR HX HOK HGO HRK HWK c0 c1 l0
  generalize buildT n (newH n rank x ways) k = T at *
  refine HBX.out.mono ?_
  rintro e W4 ⟨B0, d0, B1, d1, B2, d2, B3, d3, B4, d4, B5, d5, rfl, hT, g⟩
  have HT4 := Lib.hid hT
  have HX4 := Lib.hid (HX3.out.below g)
  clear hT g HBX HX3
  have hg45 : Below W4.heap.size W4 (W4.alloc (.cells #[.slice B0 T.g.length d0, .slice B1 T.far.length d1, .slice B2 T.out.length d2, .slice B3 T.inn.length d3, .slice B4 T.so.length d4, .slice B5 T.si.length d5] 46)) := (Below.refl _ _).alloc (Nat.le_refl _) _
  have HTB := Lib.hid (blk_new W4 (.cells #[.slice B0 T.g.length d0, .slice B1 T.far.length d1, .slice B2 T.out.length d2, .slice B3 T.inn.length d3, .slice B4 T.so.length d4, .slice B5 T.si.length d5] 46))
  have HT5 := Lib.hid (HT4.out.below hg45)
  have HX5 := Lib.hid (HX4.out.below hg45)
  go_upto_region 4 with fail
  clear hg45 HT4 HX4
  generalize W4.alloc (.cells #[.slice B0 T.g.length d0, .slice B1 T.far.length d1, .slice B2 T.out.length d2, .slice B3 T.inn.length d3, .slice B4 T.so.length d4, .slice B5 T.si.length d5] 46) = W5 at *
  generalize W4.heap.size = tb at *
  have HCF : Hid (∀ W, Below W5.heap.size W5 W → (W.cell? ⟨tb, 0, none⟩ = some (.slice B0 T.g.length d0) ∧ W.cell? ⟨tb, 1, none⟩ = some (.slice B1 T.far.length d1) ∧ W.cell? ⟨tb, 2, none⟩ = some (.slice B2 T.out.length d2) ∧ W.cell? ⟨tb, 3, none⟩ = some (.slice B3 T.inn.length d3) ∧ W.cell? ⟨tb, 4, none⟩ = some (.slice B4 T.so.length d4) ∧ W.cell? ⟨tb, 5, none⟩ = some (.slice B5 T.si.length d5)) ∧ W.cell? ⟨w.heap.size, 0, none⟩ = some (.slice rA n rc) ∧ W.cell? ⟨w.heap.size, 1, none⟩ = some (.slice wA m wc)) := Lib.hid (fun W g => by
   have ht := (g.block _ (blk_lt HTB.out)).trans HTB.out
   have hc := (HX5.out.below g).cells
   exact ⟨⟨(blk_cell ht 0).trans rfl, (blk_cell ht 1).trans rfl, (blk_cell ht 2).trans rfl, (blk_cell ht 3).trans rfl, (blk_cell ht 4).trans rfl, (blk_cell ht 5).trans rfl⟩, hc.1, hc.2.1⟩)
  have HB5 : Hid (∀ W, Below W5.heap.size W5 W → Below w.heap.size w W) := Lib.hid (fun W g => (HX5.out.below g).bel)
  have HS6 : Hid (∀ W, Below W5.heap.size W5 W → ∀ b : TabAt, TabC W b T → Calls Tryz.prog 26 #[.agg #[.slice B0 T.g.length d0, .slice B1 T.far.length d1, .slice B2 T.out.length d2, .slice B3 T.inn.length d3, .slice B4 T.so.length d4, .slice B5 T.si.length d5], .agg (b.cells T)] W fun r w' => r = .returned (.bool true) ∧ Below W.heap.size W w') := Lib.hid (fun W g b hb => (same26_walk W ⟨B0, d0, B1, d1, B2, d2, B3, d3, B4, d4, B5, d5⟩ b T T (HT5.out.below g) hb).mono (fun _ _ h => EqP.yes rfl h))
  have HS7 : Hid (∀ W, Below W5.heap.size W5 W → Calls Tryz.prog 27 #[.agg #[.slice B0 T.g.length d0, .slice B1 T.far.length d1, .slice B2 T.out.length d2, .slice B3 T.inn.length d3, .slice B4 T.so.length d4, .slice B5 T.si.length d5], .agg #[.slice B0 T.g.length d0, .slice B1 T.far.length d1, .slice B2 T.out.length d2, .slice B3 T.inn.length d3, .slice B4 T.so.length d4, .slice B5 T.si.length d5]] W fun r w' => r = .returned (.bool true) ∧ Below W.heap.size W w') := Lib.hid (fun W g => (same27_walk W ⟨B0, d0, B1, d1, B2, d2, B3, d3, B4, d4, B5, d5⟩ ⟨B0, d0, B1, d1, B2, d2, B3, d3, B4, d4, B5, d5⟩ T T (HT5.out.below g) (HT5.out.below g)).mono (fun _ _ h => EqP.yes rfl h))
  have HCH : Hid (∀ W, Below W5.heap.size W5 W → Calls Tryz.prog 24 #[.int .i64 n, .agg #[.slice B0 T.g.length d0, .slice B1 T.far.length d1, .slice B2 T.out.length d2, .slice B3 T.inn.length d3, .slice B4 T.so.length d4, .slice B5 T.si.length d5]] W fun r w' => r = .returned (.int .i64 0) ∧ Below W.heap.size W w') := Lib.hid (fun W g => by
   have := tcheck_walk W ⟨B0, d0, B1, d1, B2, d2, B3, d3, B4, d4, B5, d5⟩ T n (HT5.out.below g) HSM.out
   rw [HCK.out] at this
   exact this)
  clear HTB HT5 HX5 HSM HCK
  refine start_ (n := 22) (S := fun w' => w'.cell? ⟨tb, 0, none⟩ = some (.slice B0 T.g.length d0) ∧ w'.cell? ⟨tb, 1, none⟩ = some (.slice B1 T.far.length d1) ∧ w'.cell? ⟨tb, 2, none⟩ = some (.slice B2 T.out.length d2) ∧ w'.cell? ⟨tb, 3, none⟩ = some (.slice B3 T.inn.length d3) ∧ w'.cell? ⟨tb, 4, none⟩ = some (.slice B4 T.so.length d4) ∧ w'.cell? ⟨tb, 5, none⟩ = some (.slice B5 T.si.length d5) ∧ w'.cell? ⟨w.heap.size, 0, none⟩ = some (.slice rA n rc) ∧ w'.cell? ⟨w.heap.size, 1, none⟩ = some (.slice wA m wc)) (ds := []) (bA_ 22 0) (by kernel_rfl) rfl rfl ⟨(HCF.out _ (Below.refl W5.heap.size W5).drew).1.1, (HCF.out _ (Below.refl W5.heap.size W5).drew).1.2.1, (HCF.out _ (Below.refl W5.heap.size W5).drew).1.2.2.1, (HCF.out _ (Below.refl W5.heap.size W5).drew).1.2.2.2.1, (HCF.out _ (Below.refl W5.heap.size W5).drew).1.2.2.2.2.1, (HCF.out _ (Below.refl W5.heap.size W5).drew).1.2.2.2.2.2, (HCF.out _ (Below.refl W5.heap.size W5).drew).2.1, (HCF.out _ (Below.refl W5.heap.size W5).drew).2.2⟩ (fun hHeld => ?_)
  refine p2_ 2 16 (bA_ 22 4) ?_
  refine t2_ 0 14 (bA_ 22 5) hHeld ?_ (hy := by rintro w' ⟨s0, s1, s2, s3, s4, s5, s6, s7⟩; go_simp; with_reducible rfl)
  refine t2_ 1 15 (bA_ 22 7) hHeld ?_ (hy := by rintro w' ⟨s0, s1, s2, s3, s4, s5, s6, s7⟩; go_simp; with_reducible rfl)
  refine o2_ 3 17 (bA_ 22 15) (fun K hK => ?_)
  refine g2_ Tryz.func23 #[.agg #[.slice rA n rc, .slice wA m wc], .int .i64 k] ?_
  with_reducible refine (HRB.out _ (HB5.out _ (Below.refl W5.heap.size W5).drew)).mono ?_
  rintro e w1 ⟨E0, e0, E1, e1, E2, e2, E3, e3, E4, e4, E5, e5, rfl, hTE, g⟩
  refine ⟨_, rfl, ?_⟩
  have HG1 := Lib.hid (((Below.refl W5.heap.size W5).drew).trans (g.mono ((Below.refl W5.heap.size W5).drew).size))
  clear g
  have HTE := Lib.hid hTE
  clear hTE
  refine hK.out _ _ ⟨(HCF.out _ HG1.out).1.1, (HCF.out _ HG1.out).1.2.1, (HCF.out _ HG1.out).1.2.2.1, (HCF.out _ HG1.out).1.2.2.2.1, (HCF.out _ HG1.out).1.2.2.2.2.1, (HCF.out _ HG1.out).1.2.2.2.2.2, (HCF.out _ HG1.out).2.1, (HCF.out _ HG1.out).2.2⟩ (fun hHeld => ?_)
  clear hK K
  refine n2_ 17 ?_
  refine o2_ 4 18 (bA_ 22 31) (fun K hK => ?_)
  refine g2_ Tryz.func26 #[.agg #[.slice B0 T.g.length d0, .slice B1 T.far.length d1, .slice B2 T.out.length d2, .slice B3 T.inn.length d3, .slice B4 T.so.length d4, .slice B5 T.si.length d5], .agg #[.slice E0 T.g.length e0, .slice E1 T.far.length e1, .slice E2 T.out.length e2, .slice E3 T.inn.length e3, .slice E4 T.so.length e4, .slice E5 T.si.length e5]] ?_
  with_reducible refine (HS6.out _ HG1.out ⟨E0, e0, E1, e1, E2, e2, E3, e3, E4, e4, E5, e5⟩ HTE.out).mono ?_
  rintro e w2 ⟨rfl, g⟩
  refine ⟨_, rfl, ?_⟩
  have HG2 := Lib.hid ((HG1.out).trans (g.mono (HG1.out).size))
  clear g
  refine hK.out _ _ ⟨(HCF.out _ HG2.out).1.1, (HCF.out _ HG2.out).1.2.1, (HCF.out _ HG2.out).1.2.2.1, (HCF.out _ HG2.out).1.2.2.2.1, (HCF.out _ HG2.out).1.2.2.2.2.1, (HCF.out _ HG2.out).1.2.2.2.2.2, (HCF.out _ HG2.out).2.1, (HCF.out _ HG2.out).2.2⟩ (fun hHeld => ?_)
  clear hK K
  refine n2_ 18 ?_
  refine p2_ 5 19 (bA_ 22 63) ?_
  refine p2_ 6 20 (bA_ 22 127) ?_
  refine t2_ 7 21 (bA_ 22 255) hHeld ?_ (hy := by rintro w' ⟨s0, s1, s2, s3, s4, s5, s6, s7⟩; go_simp; with_reducible rfl)
  refine p2_ 8 22 (bA_ 22 511) ?_
  refine t2_ 9 23 (bA_ 22 1023) hHeld ?_ (hy := by rintro w' ⟨s0, s1, s2, s3, s4, s5, s6, s7⟩; go_simp; with_reducible rfl)
  refine o2_ 10 24 (bA_ 22 2047) (fun K hK => ?_)
  refine g2_ Tryz.func24 #[.int .i64 n, .agg #[.slice B0 T.g.length d0, .slice B1 T.far.length d1, .slice B2 T.out.length d2, .slice B3 T.inn.length d3, .slice B4 T.so.length d4, .slice B5 T.si.length d5]] ?_
  with_reducible refine (HCH.out _ HG2.out).mono ?_
  rintro e w3 ⟨rfl, g⟩
  refine ⟨_, rfl, ?_⟩
  have HG3 := Lib.hid ((HG2.out).trans (g.mono (HG2.out).size))
  clear g
  refine hK.out _ _ ⟨(HCF.out _ HG3.out).1.1, (HCF.out _ HG3.out).1.2.1, (HCF.out _ HG3.out).1.2.2.1, (HCF.out _ HG3.out).1.2.2.2.1, (HCF.out _ HG3.out).1.2.2.2.2.1, (HCF.out _ HG3.out).1.2.2.2.2.2, (HCF.out _ HG3.out).2.1, (HCF.out _ HG3.out).2.2⟩ (fun hHeld => ?_)
  clear hK K
  refine n2_ 24 ?_
  refine p2_ 11 25 (bA_ 22 4095) ?_
  refine p2_ 12 26 (bA_ 22 8191) ?_
  refine p2_ 13 27 (bA_ 22 16383) ?_
  refine t2_ 14 28 (bA_ 22 32767) hHeld ?_ (hy := by rintro w' ⟨s0, s1, s2, s3, s4, s5, s6, s7⟩; go_simp; with_reducible rfl)
  refine t2_ 15 29 (bA_ 22 65535) hHeld ?_ (hy := by rintro w' ⟨s0, s1, s2, s3, s4, s5, s6, s7⟩; go_simp; with_reducible rfl)
  refine o2_ 16 30 (bA_ 22 131071) (fun K hK => ?_)
  refine g2_ Tryz.func27 #[.agg #[.slice B0 T.g.length d0, .slice B1 T.far.length d1, .slice B2 T.out.length d2, .slice B3 T.inn.length d3, .slice B4 T.so.length d4, .slice B5 T.si.length d5], .agg #[.slice B0 T.g.length d0, .slice B1 T.far.length d1, .slice B2 T.out.length d2, .slice B3 T.inn.length d3, .slice B4 T.so.length d4, .slice B5 T.si.length d5]] ?_
  with_reducible refine (HS7.out _ HG3.out).mono ?_
  rintro e w4 ⟨rfl, g⟩
  refine ⟨_, rfl, ?_⟩
  have HG4 := Lib.hid ((HG3.out).trans (g.mono (HG3.out).size))
  clear g
  refine hK.out _ _ ⟨(HCF.out _ HG4.out).1.1, (HCF.out _ HG4.out).1.2.1, (HCF.out _ HG4.out).1.2.2.1, (HCF.out _ HG4.out).1.2.2.2.1, (HCF.out _ HG4.out).1.2.2.2.2.1, (HCF.out _ HG4.out).1.2.2.2.2.2, (HCF.out _ HG4.out).2.1, (HCF.out _ HG4.out).2.2⟩ (fun hHeld => ?_)
  clear hK K
  refine n2_ 30 ?_
  refine p2_ 17 31 (bA_ 22 262143) ?_
  refine p2_ 18 32 (bA_ 22 524287) ?_
  refine o2_ 19 33 (bA_ 22 1048575) (fun K hK => ?_)
  refine goes_ Tryz.func22 (by kernel_rfl) rfl #[] (by rfl) rfl rfl (by first | rfl | (simp only [List.map_toArray, List.map_cons, List.map_nil]; done)) ?_
  with_reducible refine (HKN.out _).mono ?_
  rintro e w5 ⟨rfl, g⟩
  refine ⟨_, rfl, ?_⟩
  have HG5 := Lib.hid ((HG4.out).trans (g.mono (HG4.out).size))
  clear g
  refine hK.out _ _ ⟨(HCF.out _ HG5.out).1.1, (HCF.out _ HG5.out).1.2.1, (HCF.out _ HG5.out).1.2.2.1, (HCF.out _ HG5.out).1.2.2.2.1, (HCF.out _ HG5.out).1.2.2.2.2.1, (HCF.out _ HG5.out).1.2.2.2.2.2, (HCF.out _ HG5.out).2.1, (HCF.out _ HG5.out).2.2⟩ (fun hHeld => ?_)
  clear hK K
  refine n2_ 33 ?_
  refine p2_ 20 34 (bA_ 22 2097151) ?_
  refine p2_ 21 4 (bA_ 22 4194303) ?_
  refine done_ (by kernel_rfl) ?_
  go_wp2_with fail
  all_goals (try rw [Exit.noGoto_ret])
  all_goals go_ret
  all_goals exact ⟨rfl, HB5.out _ HG5.out⟩
end Go.Proofs.YtfkejflmhidnaaaGreat.PAll
