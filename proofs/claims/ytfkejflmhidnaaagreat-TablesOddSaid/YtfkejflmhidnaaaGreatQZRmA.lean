import Derived.Test.YtfkejflmhidnaaaGreatQCxR
import Derived.Test.YtfkejflmhidnaaaGreatQZTbA
set_option linter.all false
namespace Go.Proofs.YtfkejflmhidnaaaGreat.PAll
open RowKit YtfkejflmhidnaaaGreatW.PrintWords YtfkejflmhidnaaaGreatW.PrintLast YtfkejflmhidnaaaGreatW.PrintMore
open Hp hiding Good
set_option maxRecDepth 100000 in
set_option maxHeartbeats 4000000 in
theorem many12_walk (w : World) (n m : Nat) (rA wA : Option Addr) (rc wc : Nat) (fr : Int → Int → Int) (hF : FarIs w (.agg #[.slice rA n rc, .slice wA m wc]) fr) (s : Int) (ts : List Int) (B : Option Addr) (cb : Nat) (hT : Kd.C (Kd.int .i64) w B ts.length ts) (htl : ts.length ≤ 1000) :
  Calls Tryz.prog 101 #[.agg #[.slice rA n rc, .slice wA m wc], .int .i64 s, .slice B ts.length cb] w fun r w' => ∃ vr, r = .returned vr ∧ Kd.R (Kd.int .i64) 3 w' w.heap.size (fun _ => True) vr (ts.map (fun t => fr s t)) ∧ Below w.heap.size w w' := by
 have HFR := Lib.hid hF
 have HX0 := Lib.hid (HBx.new w (.slice rA n rc) (.slice wA m wc))
 have HTC : Hid (∀ W, Below w.heap.size w W → Kd.C (Kd.int .i64) W B ts.length ts) := Lib.hid (fun W g => Kd.C_below hT g)
 obtain ⟨nt, hnt⟩ : ∃ nt, ts.length = nt := ⟨_, rfl⟩
 have HNT := Lib.hid hnt
 rw [hnt] at HTC htl ⊢
 clear hF hT hnt
 obtain ⟨c0, c1, l0⟩ := HX0.out.cells
 go_enter Tryz.func101, Tryz.ntmps101
 go_wp2_with fail
 generalize w.alloc (.cells #[.slice rA n rc, .slice wA m wc] 31) = W1 at *
 clear c0 c1 l0
 go_loopw [7, 8] (fun v7 v8 wr => ∃ i : Nat, v8 = .int .i64 i ∧ i ≤ nt ∧ Hid (Kd.R (Kd.int .i64) 3 wr W1.heap.size (fun _ => True) v7 ((ts.take i).map (fun t => fr s t))) ∧ Hid (Below W1.heap.size W1 wr)) (fun _ v8 _ => nt - (intOf v8).toNat)
 case atStart => exact ⟨0, rfl, by omega, Lib.hid (Kd.R_nil _ _ _ _ _), Lib.hid (Below.refl _ _)⟩
 case round =>
  obtain ⟨i, rfl, hi, HR, HB⟩ := hrel
  by_cases hlt : i < nt
  ·have hi0 : (0 : Int) ≤ (i : Int) := Int.natCast_nonneg _
   have hi1 : (i : Int) < (nt : Int) := by omega
   have HGW : Hid (∀ W, Below W1.heap.size W1 W → Below w.heap.size w W) := Lib.hid (fun W g => (HX0.out.below g).bel)
   obtain ⟨ad, hA, r0⟩ := Kd.at_int (HTC.out wr (HGW.out _ HB.out)) (i : Int) (by omega) (by omega)
   have r0' : wr.cell? (ad.add i) = some (.int .i64 (rd ts (i : Int))) := r0
   subst hA
   have HCE : Hid (∀ W, Below wr.heap.size wr W → W.cell? ⟨w.heap.size, 0, none⟩ = some (.slice rA n rc) ∧ W.cell? ⟨w.heap.size, 1, none⟩ = some (.slice wA m wc) ∧ W.cell? (ad.add i) = some (.int .i64 (rd ts (i : Int)))) := Lib.hid (fun W g => by
    have h := (HX0.out.below (HB.out.trans (g.mono HB.out.size))).cells
    exact ⟨h.1, h.2.1, (g.cell (World.block_lt_of_cell? _ _ r0')).trans r0'⟩)
   have HAD : Hid (∀ W, Below W1.heap.size W1 W → W.cell? (ad.add i) = some (.int .i64 (rd ts (i : Int)))) := Lib.hid (fun W g => by
    obtain ⟨a2, e2, x2⟩ := Kd.at_int (HTC.out W (HGW.out _ g)) (i : Int) (by omega) (by omega)
    cases e2
    exact x2)
   clear r0
   have hil : i < ts.length := by rw [HNT.out]; exact hlt
   have HTK : Hid ((ts.take (i + 1)).map (fun t => fr s t) = (ts.take i).map (fun t => fr s t) ++ [fr s (rd ts (i : Int))]) := Lib.hid (by
    rw [List.take_succ_eq_append_getElem hil, List.map_append, rd_get hil]
    rfl)
   have hlen : ((ts.take i).map (fun t => fr s t)).length ≤ i := by simp; omega
   have HFC := Lib.hid (fun W (g : Below W1.heap.size W1 W) => HFR.out W (HGW.out W g) s (rd ts (i : Int)))
   generalize fr s (rd ts (i : Int)) = d at *
   generalize (ts.take i).map (fun t => fr s t) = acc at *
   generalize rd ts (i : Int) = t at *
   clear hil r0'
   go_upto_region 5 with fail
   refine start_ (n := 11) (S := fun w' => w'.cell? ⟨w.heap.size, 0, none⟩ = some (.slice rA n rc) ∧ w'.cell? ⟨w.heap.size, 1, none⟩ = some (.slice wA m wc) ∧ w'.cell? (ad.add i) = some (.int .i64 t)) (ds := []) (bA_ 11 0) (by kernel_rfl) rfl rfl ⟨(HCE.out _ (Below.refl wr.heap.size wr).drew).1, (HCE.out _ (Below.refl wr.heap.size wr).drew).2.1, (HCE.out _ (Below.refl wr.heap.size wr).drew).2.2⟩ (fun hHeld => ?_)
   refine p2_ 0 15 (bA_ 11 1) ?_
   refine p2_ 2 17 (bA_ 11 5) ?_
   refine p2_ 3 18 (bA_ 11 13) ?_
   refine p2_ 4 19 (bA_ 11 29) ?_
   refine p2_ 5 20 (bA_ 11 61) ?_
   refine t2_ 1 16 (bA_ 11 63) hHeld ?_ (hy := by rintro w' ⟨s0, s1, s2⟩; go_simp; with_reducible rfl)
   refine t2_ 6 21 (bA_ 11 127) hHeld ?_ (hy := by rintro w' ⟨s0, s1, s2⟩; go_simp; with_reducible rfl)
   refine o2_ 7 22 (bA_ 11 255) (fun K hK => ?_)
   refine g2_ Tryz.func128 #[.agg #[.slice rA n rc, .slice wA m wc], .int .i64 s, .int .i64 t] ?_
   with_reducible refine (HFC.out _ HB.out.drew).mono ?_
   rintro e w3 ⟨rfl, g3⟩
   refine ⟨_, rfl, ?_⟩
   have HG3 := Lib.hid (((Below.refl wr.heap.size wr).drew).trans (g3.mono ((Below.refl wr.heap.size wr).drew).size))
   have HB3 := Lib.hid (HB.out.drew.trans (g3.mono HB.out.drew.size))
   have HRO := Lib.hid (Kd.R_below (Kd.R_below HR.out (Below.refl _ _).drew) g3)
   clear g3
   refine hK.out _ _ ⟨(HCE.out _ HG3.out).1, (HCE.out _ HG3.out).2.1, (HCE.out _ HG3.out).2.2⟩ (fun hHeld => ?_)
   clear hK K
   refine n2_ 22 ?_
   refine o2_ 8 23 (bA_ 11 511) (fun K hK => ?_)
   refine value_ (w1 := ?_) (v := ?_) (by rfl) rfl ?_ ?_
   rotate_left 2
   ·go_simp
    constructor
    ·rfl
    ·rfl
   refine hK.out _ _ ⟨(cellAllocZ ((HCE.out _ HG3.out).1)), (cellAllocZ ((HCE.out _ HG3.out).2.1)), (cellAllocZ ((HCE.out _ HG3.out).2.2))⟩ (fun hHeld => ?_)
   clear hK K
   refine n2_ 23 ?_
   refine o2_ 9 24 (bA_ 11 1023) (fun K hK => ?_)
   refine Kd.R_append_step (Kd.int .i64) (w0 := W1) (W := w3) W1.heap.size (by rfl) (.tmp 15) (.tmp 23) 28 3 (.int .i64 0) 8 rfl Tryz.underlying28 info3 rfl (by decide) (by omega) u7 acc d [.int .i64 d] (fun _ => True) (fun _ => False) rfl rfl rfl (fun _ h => h.elim) (fun _ _ => trivial) HRO.out HB3.out HB3.out.size (by omega) ?_
   intro q w4 hR hB hG hat
   have HR4 := Lib.hid hR
   have HB4 := Lib.hid hB
   have hG4 : Hid (W1.heap.size ≤ w4.heap.size) := Lib.hid hB.size
   clear hR hG hat
   refine hK.out _ _ ⟨(HX0.out.below HB4.out).cells.1, (HX0.out.below HB4.out).cells.2.1, HAD.out _ HB4.out⟩ (fun hHeld => ?_)
   clear hK K
   refine n2_ 24 ?_
   refine p2_ 10 7 (bA_ 11 2047) ?_
   refine done_ (by kernel_rfl) ?_
   go_wp2_with fail
   go_roundw
   case measure => simp [intOf]; omega
   case rel => exact ⟨i + 1, by go_num, by omega, Lib.hid (by rw [HTK.out]; exact HR4.out), HB4⟩
  ·have HIE : Hid ((ts.take i).map (fun t => fr s t) = ts.map (fun t => fr s t)) := Lib.hid (by rw [List.take_of_length_le (by rw [HNT.out]; omega)])
   have hil : nt ≤ i := by omega
   rw [HIE.out] at HR
   go_wp2_with fail
   all_goals (try rw [Exit.noGoto_ret])
   all_goals go_ret
   all_goals exact ⟨_, rfl, Kd.R_lower HR.out HX0.out.bel.size, (HX0.out.below HB.out).bel⟩
set_option maxRecDepth 100000 in
set_option maxHeartbeats 4000000 in
theorem table12_walk (w : World) (n m : Nat) (rA wA : Option Addr) (rc wc : Nat) (fr : Int → Int → Int) (hF : FarIs w (.agg #[.slice rA n rc, .slice wA m wc]) fr) (ss ts : List Int) (A B : Option Addr) (ca cb : Nat) (hS : Kd.C (Kd.int .i64) w A ss.length ss) (hT : Kd.C (Kd.int .i64) w B ts.length ts) (hsl : ss.length ≤ 1000) (htl : ts.length ≤ 1000) :
  Calls Tryz.prog 48 #[.agg #[.slice rA n rc, .slice wA m wc], .slice A ss.length ca, .slice B ts.length cb] w fun r w' => ∃ vr, r = .returned vr ∧ Kd.R (Kd.slice 3 (Kd.int .i64)) 28 w' w.heap.size (fun _ => True) vr (ss.map (fun s => ts.map (fun t => fr s t))) ∧ Below w.heap.size w w' := by
 have HX0 := Lib.hid (HBx.new w (.slice rA n rc) (.slice wA m wc))
 have HMY : Hid (∀ W, Below w.heap.size w W → ∀ s : Int, Calls Tryz.prog 101 #[.agg #[.slice rA n rc, .slice wA m wc], .int .i64 s, .slice B ts.length cb] W fun r w' => ∃ vr, r = .returned vr ∧ Kd.R (Kd.int .i64) 3 w' W.heap.size (fun _ => True) vr (ts.map (fun t => fr s t)) ∧ Below W.heap.size W w') := Lib.hid (fun W g s => many12_walk W n m rA wA rc wc fr (fun W' g' => hF W' (g.trans (g'.mono g.size))) s ts B cb (Kd.C_below hT g) htl)
 have HSC : Hid (∀ W, Below w.heap.size w W → Kd.C (Kd.int .i64) W A ss.length ss) := Lib.hid (fun W g => Kd.C_below hS g)
 obtain ⟨ns, hns⟩ : ∃ ns, ss.length = ns := ⟨_, rfl⟩
 obtain ⟨nt, hnt⟩ : ∃ nt, ts.length = nt := ⟨_, rfl⟩
 have HNS := Lib.hid hns
 rw [hns] at HSC hsl ⊢
 rw [hnt] at HMY ⊢
 clear hF hS hT hns hnt htl
 obtain ⟨c0, c1, l0⟩ := HX0.out.cells
 go_enter Tryz.func48, Tryz.ntmps48
 go_wp2_with fail
 generalize w.alloc (.cells #[.slice rA n rc, .slice wA m wc] 31) = W1 at *
 clear c0 c1 l0
 go_loopw [7, 8] (fun v7 v8 wr => ∃ i : Nat, v8 = .int .i64 i ∧ i ≤ ns ∧ Hid (Kd.R (Kd.slice 3 (Kd.int .i64)) 28 wr W1.heap.size (fun _ => True) v7 ((ss.take i).map (fun s => ts.map (fun t => fr s t)))) ∧ Hid (Below W1.heap.size W1 wr)) (fun _ v8 _ => ns - (intOf v8).toNat)
 case atStart => exact ⟨0, rfl, by omega, Lib.hid (Kd.R_nil _ _ _ _ _), Lib.hid (Below.refl _ _)⟩
 case round =>
  obtain ⟨i, rfl, hi, HR, HB⟩ := hrel
  by_cases hlt : i < ns
  ·have hi0 : (0 : Int) ≤ (i : Int) := Int.natCast_nonneg _
   have hi1 : (i : Int) < (ns : Int) := by omega
   have HGW : Hid (∀ W, Below W1.heap.size W1 W → Below w.heap.size w W) := Lib.hid (fun W g => (HX0.out.below g).bel)
   obtain ⟨ad, hA, r0⟩ := Kd.at_int (HSC.out wr (HGW.out _ HB.out)) (i : Int) (by omega) (by omega)
   have r0' : wr.cell? (ad.add i) = some (.int .i64 (rd ss (i : Int))) := r0
   subst hA
   have HCE : Hid (∀ W, Below wr.heap.size wr W → W.cell? ⟨w.heap.size, 0, none⟩ = some (.slice rA n rc) ∧ W.cell? ⟨w.heap.size, 1, none⟩ = some (.slice wA m wc) ∧ W.cell? (ad.add i) = some (.int .i64 (rd ss (i : Int)))) := Lib.hid (fun W g => by
    have h := (HX0.out.below (HB.out.trans (g.mono HB.out.size))).cells
    exact ⟨h.1, h.2.1, (g.cell (World.block_lt_of_cell? _ _ r0')).trans r0'⟩)
   have HAD : Hid (∀ W, Below W1.heap.size W1 W → W.cell? (ad.add i) = some (.int .i64 (rd ss (i : Int)))) := Lib.hid (fun W g => by
    obtain ⟨a2, e2, x2⟩ := Kd.at_int (HSC.out W (HGW.out _ g)) (i : Int) (by omega) (by omega)
    cases e2
    exact x2)
   clear r0
   have hil : i < ss.length := by rw [HNS.out]; exact hlt
   have HTK : Hid ((ss.take (i + 1)).map (fun s => ts.map (fun t => fr s t)) = (ss.take i).map (fun s => ts.map (fun t => fr s t)) ++ [ts.map (fun t => fr (rd ss (i : Int)) t)]) := Lib.hid (by
    rw [List.take_succ_eq_append_getElem hil, List.map_append, rd_get hil]
    rfl)
   have hlen : ((ss.take i).map (fun s => ts.map (fun t => fr s t))).length ≤ i := by simp; omega
   have HMC := Lib.hid (fun W (g : Below W1.heap.size W1 W) => HMY.out W (HGW.out W g) (rd ss (i : Int)))
   have HLT : Hid (∀ k, u7.ownBlock = some k → k < wr.heap.size) := Lib.hid (fun k hk => Kd.R_lt HR.out k hk)
   generalize ts.map (fun t => fr (rd ss (i : Int)) t) = row at *
   generalize (ss.take i).map (fun s => ts.map (fun t => fr s t)) = acc at *
   generalize rd ss (i : Int) = s at *
   clear hil r0'
   have hw1 : W1.heap.size ≤ wr.drew.heap.size := HB.out.size
   go_upto_region 5 with fail
   refine start_ (n := 11) (S := fun w' => w'.cell? ⟨w.heap.size, 0, none⟩ = some (.slice rA n rc) ∧ w'.cell? ⟨w.heap.size, 1, none⟩ = some (.slice wA m wc) ∧ w'.cell? (ad.add i) = some (.int .i64 s)) (ds := []) (bA_ 11 0) (by kernel_rfl) rfl rfl ⟨(HCE.out _ (Below.refl wr.heap.size wr).drew).1, (HCE.out _ (Below.refl wr.heap.size wr).drew).2.1, (HCE.out _ (Below.refl wr.heap.size wr).drew).2.2⟩ (fun hHeld => ?_)
   refine p2_ 0 15 (bA_ 11 1) ?_
   refine p2_ 2 17 (bA_ 11 5) ?_
   refine p2_ 3 18 (bA_ 11 13) ?_
   refine p2_ 4 19 (bA_ 11 29) ?_
   refine p2_ 6 21 (bA_ 11 93) ?_
   refine t2_ 1 16 (bA_ 11 95) hHeld ?_ (hy := by rintro w' ⟨s0, s1, s2⟩; go_simp; with_reducible rfl)
   refine t2_ 5 20 (bA_ 11 127) hHeld ?_ (hy := by rintro w' ⟨s0, s1, s2⟩; go_simp; with_reducible rfl)
   refine o2_ 7 22 (bA_ 11 255) (fun K hK => ?_)
   refine g2_ Tryz.func101 #[.agg #[.slice rA n rc, .slice wA m wc], .int .i64 s, .slice B nt cb] ?_
   with_reducible refine (HMC.out _ HB.out.drew).mono ?_
   rintro e w3 ⟨vr, rfl, hR2, g3⟩
   refine ⟨_, rfl, ?_⟩
   obtain ⟨Ra, rc', hvr, hrc, _⟩ := Kd.R_reads hR2
   subst hvr
   have HG3 := Lib.hid (((Below.refl wr.heap.size wr).drew).trans (g3.mono ((Below.refl wr.heap.size wr).drew).size))
   have HB3 := Lib.hid (HB.out.drew.trans (g3.mono HB.out.drew.size))
   have HRO := Lib.hid (Kd.R_below (Kd.R_below HR.out (Below.refl _ _).drew) g3)
   have HRP : Hid (Kd.R (Kd.int .i64) 3 w3 W1.heap.size (fun k => wr.drew.heap.size ≤ k) (.slice Ra row.length rc') row) := Lib.hid (Kd.R_lower (Kd.R_mono (Kd.R_bound hR2) (fun k hk => hk.2.1)) hw1)
   clear g3 hR2 hrc
   refine hK.out _ _ ⟨(HCE.out _ HG3.out).1, (HCE.out _ HG3.out).2.1, (HCE.out _ HG3.out).2.2⟩ (fun hHeld => ?_)
   clear hK K
   refine n2_ 22 ?_
   refine o2_ 8 23 (bA_ 11 511) (fun K hK => ?_)
   refine value_ (w1 := ?_) (v := ?_) (by rfl) rfl ?_ ?_
   rotate_left 2
   ·go_simp
    constructor
    ·rfl
    ·rfl
   refine hK.out _ _ ⟨(cellAllocZ ((HCE.out _ HG3.out).1)), (cellAllocZ ((HCE.out _ HG3.out).2.1)), (cellAllocZ ((HCE.out _ HG3.out).2.2))⟩ (fun hHeld => ?_)
   clear hK K
   refine n2_ 23 ?_
   refine o2_ 9 24 (bA_ 11 1023) (fun K hK => ?_)
   refine Kd.R_append_step (Kd.slice 3 (Kd.int .i64)) (w0 := W1) (W := w3) W1.heap.size (by rfl) (.tmp 15) (.tmp 23) 38 28 (.slice none 0 0) 24 rfl Tryz.underlying38 info28 rfl (by decide) (by omega) u7 acc row [.slice Ra row.length rc'] (fun _ => True) (fun k => wr.drew.heap.size ≤ k) rfl rfl ⟨_, rfl, HRP.out⟩ (fun k hk => ⟨trivial, fun e => by have := HLT.out k e.symm; change wr.heap.size ≤ k at hk; omega⟩) (fun _ _ => trivial) HRO.out HB3.out HB3.out.size (by omega) ?_
   intro q w4 hR hB hG hat
   have HR4 := Lib.hid hR
   have HB4 := Lib.hid hB
   clear hR hG hat
   refine hK.out _ _ ⟨(HX0.out.below HB4.out).cells.1, (HX0.out.below HB4.out).cells.2.1, HAD.out _ HB4.out⟩ (fun hHeld => ?_)
   clear hK K
   refine n2_ 24 ?_
   refine p2_ 10 7 (bA_ 11 2047) ?_
   refine done_ (by kernel_rfl) ?_
   go_wp2_with fail
   go_roundw
   case measure => simp [intOf]; omega
   case rel => exact ⟨i + 1, by go_num, by omega, Lib.hid (by rw [HTK.out]; exact HR4.out), HB4⟩
  ·have HIE : Hid ((ss.take i).map (fun s => ts.map (fun t => fr s t)) = ss.map (fun s => ts.map (fun t => fr s t))) := Lib.hid (by rw [List.take_of_length_le (by rw [HNS.out]; omega)])
   have hil : ns ≤ i := by omega
   rw [HIE.out] at HR
   go_wp2_with fail
   all_goals (try rw [Exit.noGoto_ret])
   all_goals go_ret
   all_goals exact ⟨_, rfl, Kd.R_lower HR.out HX0.out.bel.size, (HX0.out.below HB.out).bel⟩
end Go.Proofs.YtfkejflmhidnaaaGreat.PAll
