import Derived.Test.YtfkejflmhidnaaaGreatQZEqB
import Derived.Test.YtfkejflmhidnaaaGreatQZLgA
import Derived.Test.YtfkejflmhidnaaaGreatQZKwA
set_option linter.all false
namespace Go.Proofs.YtfkejflmhidnaaaGreat.PAll
open RowKit YW.PrintWords YW.PrintLast YW.PrintMore
open Hp hiding Good
set_option maxRecDepth 100000 in
set_option maxHeartbeats 8000000 in
theorem tsame_walk (w : World) (a b : TabAt) (t u : TabP) (hT : TabC w a t) (hU : TabC w b u) :
  Calls Tryz.prog 7 #[.agg (a.cells t), .agg (b.cells u)] w fun r w' => r = .returned (.bool true) ∧ Below w.heap.size w w' := by
 have HKN : Hid (∀ W, Calls Tryz.prog 22 #[] W fun r w' => r = .returned (.bool true) ∧ Below W.heap.size W w') := Lib.hid (fun W => known15_walk W)
 have HL1 : Hid (∀ W, Below w.heap.size w W → Calls Tryz.prog 28 #[.agg (a.cells t)] W fun r w' => r = .returned (.int .i64 (longT t)) ∧ Below W.heap.size W w') := Lib.hid (fun W g => longT_walk W a t (hT.below g))
 have HL2 : Hid (∀ W, Below w.heap.size w W → Calls Tryz.prog 28 #[.agg (b.cells u)] W fun r w' => r = .returned (.int .i64 (longT u)) ∧ Below W.heap.size W w') := Lib.hid (fun W g => longT_walk W b u (hU.below g))
 have HS1 : Hid (∀ W, Below w.heap.size w W → Calls Tryz.prog 27 #[.agg (a.cells t), .agg (b.cells u)] W (EqP (t = u) W)) := Lib.hid (fun W g => same27_walk W a b t u (hT.below g) (hU.below g))
 have HS2 : Hid (∀ W, Below w.heap.size w W → Calls Tryz.prog 26 #[.agg (a.cells t), .agg (b.cells u)] W (EqP (t = u) W)) := Lib.hid (fun W g => same26_walk W a b t u (hT.below g) (hU.below g))
 have HS3 : Hid (∀ W, Below w.heap.size w W → Calls Tryz.prog 27 #[.agg (a.cells t), .agg (a.cells t)] W fun r w' => r = .returned (.bool true) ∧ Below W.heap.size W w') := Lib.hid (fun W g => (same27_walk W a a t t (hT.below g) (hT.below g)).mono (fun _ _ h => EqP.yes rfl h))
 obtain ⟨A0, c0, A1, c1, A2, c2, A3, c3, A4, c4, A5, c5⟩ := a
 obtain ⟨B0, d0, B1, d1, B2, d2, B3, d3, B4, d4, B5, d5⟩ := b
 simp only [TabAt.cells] at HL1 HL2 HS1 HS2 HS3 ⊢
 clear hT hU
 generalize t.g.length = l0 at *
 generalize u.g.length = m0 at *
 generalize t.far.length = l1 at *
 generalize u.far.length = m1 at *
 generalize t.out.length = l2 at *
 generalize u.out.length = m2 at *
 generalize t.inn.length = l3 at *
 generalize u.inn.length = m3 at *
 generalize t.so.length = l4 at *
 generalize u.so.length = m4 at *
 generalize t.si.length = l5 at *
 generalize u.si.length = m5 at *
 generalize longT t = z1 at *
 generalize longT u = z2 at *
 obtain ⟨s, hs⟩ : ∃ s, IntKind.i64.wrap (z1 + z2) = s := ⟨_, rfl⟩
 obtain ⟨W, hW⟩ : ∃ W, (w.alloc (.cells #[.slice A0 l0 c0, .slice A1 l1 c1, .slice A2 l2 c2, .slice A3 l3 c3, .slice A4 l4 c4, .slice A5 l5 c5] 46)).alloc (.cells #[.slice B0 m0 d0, .slice B1 m1 d1, .slice B2 m2 d2, .slice B3 m3 d3, .slice B4 m4 d4, .slice B5 m5 d5] 46) = W := ⟨_, rfl⟩
 obtain ⟨hB, hba, hbb⟩ := two46 w _ _ W hW
 have HBB : Hid (∀ V, Below W.heap.size W V → (w.heap.size < V.heap.size ∧ w.heap.size + 1 < V.heap.size) ∧ V.cell? ⟨w.heap.size, 0, none⟩ = some (.slice A0 l0 c0) ∧ V.cell? ⟨w.heap.size, 1, none⟩ = some (.slice A1 l1 c1) ∧ V.cell? ⟨w.heap.size, 2, none⟩ = some (.slice A2 l2 c2) ∧ V.cell? ⟨w.heap.size, 3, none⟩ = some (.slice A3 l3 c3) ∧ V.cell? ⟨w.heap.size, 4, none⟩ = some (.slice A4 l4 c4) ∧ V.cell? ⟨w.heap.size, 5, none⟩ = some (.slice A5 l5 c5) ∧ V.cell? ⟨w.heap.size + 1, 0, none⟩ = some (.slice B0 m0 d0) ∧ V.cell? ⟨w.heap.size + 1, 1, none⟩ = some (.slice B1 m1 d1) ∧ V.cell? ⟨w.heap.size + 1, 2, none⟩ = some (.slice B2 m2 d2) ∧ V.cell? ⟨w.heap.size + 1, 3, none⟩ = some (.slice B3 m3 d3) ∧ V.cell? ⟨w.heap.size + 1, 4, none⟩ = some (.slice B4 m4 d4) ∧ V.cell? ⟨w.heap.size + 1, 5, none⟩ = some (.slice B5 m5 d5)) := Lib.hid (fun V g => by
  have ha := (g.block _ (blk_lt hba)).trans hba
  have hb := (g.block _ (blk_lt hbb)).trans hbb
  exact ⟨⟨blk_lt ha, blk_lt hb⟩, (blk_cell ha 0).trans rfl, (blk_cell ha 1).trans rfl, (blk_cell ha 2).trans rfl, (blk_cell ha 3).trans rfl, (blk_cell ha 4).trans rfl, (blk_cell ha 5).trans rfl, (blk_cell hb 0).trans rfl, (blk_cell hb 1).trans rfl, (blk_cell hb 2).trans rfl, (blk_cell hb 3).trans rfl, (blk_cell hb 4).trans rfl, (blk_cell hb 5).trans rfl⟩)
 have HB := Lib.hid hB
 have HW := Lib.hid hW
 clear hB hba hbb hW
 go_enter Tryz.func7, Tryz.ntmps7
 go_upto_region 1 with fail
 rw [HW.out]
 clear HW
 by_cases hbig : s > 1000
 ·have t0 : decide (s > 1000) = true := decide_eq_true hbig
  have t1 : decide (1000 < s) = true := decide_eq_true hbig
  refine start_ (n := 6) (S := fun w' => w'.cell? ⟨w.heap.size, 0, none⟩ = some (.slice A0 l0 c0) ∧ w'.cell? ⟨w.heap.size, 1, none⟩ = some (.slice A1 l1 c1) ∧ w'.cell? ⟨w.heap.size, 2, none⟩ = some (.slice A2 l2 c2) ∧ w'.cell? ⟨w.heap.size, 3, none⟩ = some (.slice A3 l3 c3) ∧ w'.cell? ⟨w.heap.size, 4, none⟩ = some (.slice A4 l4 c4) ∧ w'.cell? ⟨w.heap.size, 5, none⟩ = some (.slice A5 l5 c5) ∧ w'.cell? ⟨w.heap.size + 1, 0, none⟩ = some (.slice B0 m0 d0) ∧ w'.cell? ⟨w.heap.size + 1, 1, none⟩ = some (.slice B1 m1 d1) ∧ w'.cell? ⟨w.heap.size + 1, 2, none⟩ = some (.slice B2 m2 d2) ∧ w'.cell? ⟨w.heap.size + 1, 3, none⟩ = some (.slice B3 m3 d3) ∧ w'.cell? ⟨w.heap.size + 1, 4, none⟩ = some (.slice B4 m4 d4) ∧ w'.cell? ⟨w.heap.size + 1, 5, none⟩ = some (.slice B5 m5 d5)) (ds := []) (bA_ 6 0) (by kernel_rfl) rfl rfl ⟨(HBB.out _ (Below.refl W.heap.size W).drew).2.1, (HBB.out _ (Below.refl W.heap.size W).drew).2.2.1, (HBB.out _ (Below.refl W.heap.size W).drew).2.2.2.1, (HBB.out _ (Below.refl W.heap.size W).drew).2.2.2.2.1, (HBB.out _ (Below.refl W.heap.size W).drew).2.2.2.2.2.1, (HBB.out _ (Below.refl W.heap.size W).drew).2.2.2.2.2.2.1, (HBB.out _ (Below.refl W.heap.size W).drew).2.2.2.2.2.2.2.1, (HBB.out _ (Below.refl W.heap.size W).drew).2.2.2.2.2.2.2.2.1, (HBB.out _ (Below.refl W.heap.size W).drew).2.2.2.2.2.2.2.2.2.1, (HBB.out _ (Below.refl W.heap.size W).drew).2.2.2.2.2.2.2.2.2.2.1, (HBB.out _ (Below.refl W.heap.size W).drew).2.2.2.2.2.2.2.2.2.2.2.1, (HBB.out _ (Below.refl W.heap.size W).drew).2.2.2.2.2.2.2.2.2.2.2.2⟩ (fun hHeld => ?_)
  refine t2_ 0 5 (bA_ 6 1) hHeld ?_ (hy := by rintro w' ⟨s0, s1, s2, s3, s4, s5, s6, s7, s8, s9, s10, s11⟩; go_simp; with_reducible rfl)
  refine t2_ 2 7 (bA_ 6 5) hHeld ?_ (hy := by rintro w' ⟨s0, s1, s2, s3, s4, s5, s6, s7, s8, s9, s10, s11⟩; go_simp; with_reducible rfl)
  refine o2_ 1 6 (bA_ 6 7) (fun K hK => ?_)
  refine g2_ Tryz.func28 #[.agg #[.slice A0 l0 c0, .slice A1 l1 c1, .slice A2 l2 c2, .slice A3 l3 c3, .slice A4 l4 c4, .slice A5 l5 c5]] ?_
  with_reducible refine (HL1.out _ (HB.out.trans (((Below.refl W.heap.size W).drew).mono HB.out.size))).mono ?_
  rintro e w1 ⟨rfl, g⟩
  refine ⟨_, rfl, ?_⟩
  have HG1 := Lib.hid (((Below.refl W.heap.size W).drew).trans (g.mono ((Below.refl W.heap.size W).drew).size))
  clear g
  refine hK.out _ _ ⟨(HBB.out _ HG1.out).2.1, (HBB.out _ HG1.out).2.2.1, (HBB.out _ HG1.out).2.2.2.1, (HBB.out _ HG1.out).2.2.2.2.1, (HBB.out _ HG1.out).2.2.2.2.2.1, (HBB.out _ HG1.out).2.2.2.2.2.2.1, (HBB.out _ HG1.out).2.2.2.2.2.2.2.1, (HBB.out _ HG1.out).2.2.2.2.2.2.2.2.1, (HBB.out _ HG1.out).2.2.2.2.2.2.2.2.2.1, (HBB.out _ HG1.out).2.2.2.2.2.2.2.2.2.2.1, (HBB.out _ HG1.out).2.2.2.2.2.2.2.2.2.2.2.1, (HBB.out _ HG1.out).2.2.2.2.2.2.2.2.2.2.2.2⟩ (fun hHeld => ?_)
  clear hK K
  refine n2_ 6 ?_
  refine o2_ 3 8 (bA_ 6 15) (fun K hK => ?_)
  refine g2_ Tryz.func28 #[.agg #[.slice B0 m0 d0, .slice B1 m1 d1, .slice B2 m2 d2, .slice B3 m3 d3, .slice B4 m4 d4, .slice B5 m5 d5]] ?_
  with_reducible refine (HL2.out _ (HB.out.trans ((HG1.out).mono HB.out.size))).mono ?_
  rintro e w2 ⟨rfl, g⟩
  refine ⟨_, rfl, ?_⟩
  have HG2 := Lib.hid ((HG1.out).trans (g.mono (HG1.out).size))
  clear g
  refine hK.out _ _ ⟨(HBB.out _ HG2.out).2.1, (HBB.out _ HG2.out).2.2.1, (HBB.out _ HG2.out).2.2.2.1, (HBB.out _ HG2.out).2.2.2.2.1, (HBB.out _ HG2.out).2.2.2.2.2.1, (HBB.out _ HG2.out).2.2.2.2.2.2.1, (HBB.out _ HG2.out).2.2.2.2.2.2.2.1, (HBB.out _ HG2.out).2.2.2.2.2.2.2.2.1, (HBB.out _ HG2.out).2.2.2.2.2.2.2.2.2.1, (HBB.out _ HG2.out).2.2.2.2.2.2.2.2.2.2.1, (HBB.out _ HG2.out).2.2.2.2.2.2.2.2.2.2.2.1, (HBB.out _ HG2.out).2.2.2.2.2.2.2.2.2.2.2.2⟩ (fun hHeld => ?_)
  clear hK K
  refine n2_ 8 ?_
  refine p2_ 4 9 (bA_ 6 31) ?_
  refine p2_ 5 10 (bA_ 6 63) ?_
  refine done_ (by kernel_rfl) ?_
  go_wp2_with (first | (go_at_call 22; refine (HKN.out _).mono ?_; rintro e w3 ⟨rfl, g⟩; have HG3 := Lib.hid (HG2.out.trans (g.mono HG2.out.size)); clear g))
  go_ret
  exact ⟨rfl, HB.out.trans (HG3.out.mono HB.out.size)⟩
 have t0 : decide (s > 1000) = false := decide_eq_false hbig
 have t1 : decide (1000 < s) = false := decide_eq_false hbig
 refine start_ (n := 6) (S := fun w' => w'.cell? ⟨w.heap.size, 0, none⟩ = some (.slice A0 l0 c0) ∧ w'.cell? ⟨w.heap.size, 1, none⟩ = some (.slice A1 l1 c1) ∧ w'.cell? ⟨w.heap.size, 2, none⟩ = some (.slice A2 l2 c2) ∧ w'.cell? ⟨w.heap.size, 3, none⟩ = some (.slice A3 l3 c3) ∧ w'.cell? ⟨w.heap.size, 4, none⟩ = some (.slice A4 l4 c4) ∧ w'.cell? ⟨w.heap.size, 5, none⟩ = some (.slice A5 l5 c5) ∧ w'.cell? ⟨w.heap.size + 1, 0, none⟩ = some (.slice B0 m0 d0) ∧ w'.cell? ⟨w.heap.size + 1, 1, none⟩ = some (.slice B1 m1 d1) ∧ w'.cell? ⟨w.heap.size + 1, 2, none⟩ = some (.slice B2 m2 d2) ∧ w'.cell? ⟨w.heap.size + 1, 3, none⟩ = some (.slice B3 m3 d3) ∧ w'.cell? ⟨w.heap.size + 1, 4, none⟩ = some (.slice B4 m4 d4) ∧ w'.cell? ⟨w.heap.size + 1, 5, none⟩ = some (.slice B5 m5 d5)) (ds := []) (bA_ 6 0) (by kernel_rfl) rfl rfl ⟨(HBB.out _ (Below.refl W.heap.size W).drew).2.1, (HBB.out _ (Below.refl W.heap.size W).drew).2.2.1, (HBB.out _ (Below.refl W.heap.size W).drew).2.2.2.1, (HBB.out _ (Below.refl W.heap.size W).drew).2.2.2.2.1, (HBB.out _ (Below.refl W.heap.size W).drew).2.2.2.2.2.1, (HBB.out _ (Below.refl W.heap.size W).drew).2.2.2.2.2.2.1, (HBB.out _ (Below.refl W.heap.size W).drew).2.2.2.2.2.2.2.1, (HBB.out _ (Below.refl W.heap.size W).drew).2.2.2.2.2.2.2.2.1, (HBB.out _ (Below.refl W.heap.size W).drew).2.2.2.2.2.2.2.2.2.1, (HBB.out _ (Below.refl W.heap.size W).drew).2.2.2.2.2.2.2.2.2.2.1, (HBB.out _ (Below.refl W.heap.size W).drew).2.2.2.2.2.2.2.2.2.2.2.1, (HBB.out _ (Below.refl W.heap.size W).drew).2.2.2.2.2.2.2.2.2.2.2.2⟩ (fun hHeld => ?_)
 refine t2_ 0 5 (bA_ 6 1) hHeld ?_ (hy := by rintro w' ⟨s0, s1, s2, s3, s4, s5, s6, s7, s8, s9, s10, s11⟩; go_simp; with_reducible rfl)
 refine t2_ 2 7 (bA_ 6 5) hHeld ?_ (hy := by rintro w' ⟨s0, s1, s2, s3, s4, s5, s6, s7, s8, s9, s10, s11⟩; go_simp; with_reducible rfl)
 refine o2_ 1 6 (bA_ 6 7) (fun K hK => ?_)
 refine g2_ Tryz.func28 #[.agg #[.slice A0 l0 c0, .slice A1 l1 c1, .slice A2 l2 c2, .slice A3 l3 c3, .slice A4 l4 c4, .slice A5 l5 c5]] ?_
 with_reducible refine (HL1.out _ (HB.out.trans (((Below.refl W.heap.size W).drew).mono HB.out.size))).mono ?_
 rintro e w1 ⟨rfl, g⟩
 refine ⟨_, rfl, ?_⟩
 have HG1 := Lib.hid (((Below.refl W.heap.size W).drew).trans (g.mono ((Below.refl W.heap.size W).drew).size))
 clear g
 refine hK.out _ _ ⟨(HBB.out _ HG1.out).2.1, (HBB.out _ HG1.out).2.2.1, (HBB.out _ HG1.out).2.2.2.1, (HBB.out _ HG1.out).2.2.2.2.1, (HBB.out _ HG1.out).2.2.2.2.2.1, (HBB.out _ HG1.out).2.2.2.2.2.2.1, (HBB.out _ HG1.out).2.2.2.2.2.2.2.1, (HBB.out _ HG1.out).2.2.2.2.2.2.2.2.1, (HBB.out _ HG1.out).2.2.2.2.2.2.2.2.2.1, (HBB.out _ HG1.out).2.2.2.2.2.2.2.2.2.2.1, (HBB.out _ HG1.out).2.2.2.2.2.2.2.2.2.2.2.1, (HBB.out _ HG1.out).2.2.2.2.2.2.2.2.2.2.2.2⟩ (fun hHeld => ?_)
 clear hK K
 refine n2_ 6 ?_
 refine o2_ 3 8 (bA_ 6 15) (fun K hK => ?_)
 refine g2_ Tryz.func28 #[.agg #[.slice B0 m0 d0, .slice B1 m1 d1, .slice B2 m2 d2, .slice B3 m3 d3, .slice B4 m4 d4, .slice B5 m5 d5]] ?_
 with_reducible refine (HL2.out _ (HB.out.trans ((HG1.out).mono HB.out.size))).mono ?_
 rintro e w2 ⟨rfl, g⟩
 refine ⟨_, rfl, ?_⟩
 have HG2 := Lib.hid ((HG1.out).trans (g.mono (HG1.out).size))
 clear g
 refine hK.out _ _ ⟨(HBB.out _ HG2.out).2.1, (HBB.out _ HG2.out).2.2.1, (HBB.out _ HG2.out).2.2.2.1, (HBB.out _ HG2.out).2.2.2.2.1, (HBB.out _ HG2.out).2.2.2.2.2.1, (HBB.out _ HG2.out).2.2.2.2.2.2.1, (HBB.out _ HG2.out).2.2.2.2.2.2.2.1, (HBB.out _ HG2.out).2.2.2.2.2.2.2.2.1, (HBB.out _ HG2.out).2.2.2.2.2.2.2.2.2.1, (HBB.out _ HG2.out).2.2.2.2.2.2.2.2.2.2.1, (HBB.out _ HG2.out).2.2.2.2.2.2.2.2.2.2.2.1, (HBB.out _ HG2.out).2.2.2.2.2.2.2.2.2.2.2.2⟩ (fun hHeld => ?_)
 clear hK K
 refine n2_ 8 ?_
 refine p2_ 4 9 (bA_ 6 31) ?_
 refine p2_ 5 10 (bA_ 6 63) ?_
 refine done_ (by kernel_rfl) ?_
 go_upto_region 3 with fail
 clear t0 t1 hbig
 by_cases he : t = u
 ·refine start_ (n := 16) (S := fun w' => w'.cell? ⟨w.heap.size, 0, none⟩ = some (.slice A0 l0 c0) ∧ w'.cell? ⟨w.heap.size, 1, none⟩ = some (.slice A1 l1 c1) ∧ w'.cell? ⟨w.heap.size, 2, none⟩ = some (.slice A2 l2 c2) ∧ w'.cell? ⟨w.heap.size, 3, none⟩ = some (.slice A3 l3 c3) ∧ w'.cell? ⟨w.heap.size, 4, none⟩ = some (.slice A4 l4 c4) ∧ w'.cell? ⟨w.heap.size, 5, none⟩ = some (.slice A5 l5 c5) ∧ w'.cell? ⟨w.heap.size + 1, 0, none⟩ = some (.slice B0 m0 d0) ∧ w'.cell? ⟨w.heap.size + 1, 1, none⟩ = some (.slice B1 m1 d1) ∧ w'.cell? ⟨w.heap.size + 1, 2, none⟩ = some (.slice B2 m2 d2) ∧ w'.cell? ⟨w.heap.size + 1, 3, none⟩ = some (.slice B3 m3 d3) ∧ w'.cell? ⟨w.heap.size + 1, 4, none⟩ = some (.slice B4 m4 d4) ∧ w'.cell? ⟨w.heap.size + 1, 5, none⟩ = some (.slice B5 m5 d5)) (ds := []) (bA_ 16 0) (by kernel_rfl) rfl rfl ⟨(HBB.out _ HG2.out.drew).2.1, (HBB.out _ HG2.out.drew).2.2.1, (HBB.out _ HG2.out.drew).2.2.2.1, (HBB.out _ HG2.out.drew).2.2.2.2.1, (HBB.out _ HG2.out.drew).2.2.2.2.2.1, (HBB.out _ HG2.out.drew).2.2.2.2.2.2.1, (HBB.out _ HG2.out.drew).2.2.2.2.2.2.2.1, (HBB.out _ HG2.out.drew).2.2.2.2.2.2.2.2.1, (HBB.out _ HG2.out.drew).2.2.2.2.2.2.2.2.2.1, (HBB.out _ HG2.out.drew).2.2.2.2.2.2.2.2.2.2.1, (HBB.out _ HG2.out.drew).2.2.2.2.2.2.2.2.2.2.2.1, (HBB.out _ HG2.out.drew).2.2.2.2.2.2.2.2.2.2.2.2⟩ (fun hHeld => ?_)
  refine t2_ 0 12 (bA_ 16 1) hHeld ?_ (hy := by rintro w' ⟨s0, s1, s2, s3, s4, s5, s6, s7, s8, s9, s10, s11⟩; go_simp; with_reducible rfl)
  refine t2_ 1 13 (bA_ 16 3) hHeld ?_ (hy := by rintro w' ⟨s0, s1, s2, s3, s4, s5, s6, s7, s8, s9, s10, s11⟩; go_simp; with_reducible rfl)
  refine t2_ 3 15 (bA_ 16 11) hHeld ?_ (hy := by rintro w' ⟨s0, s1, s2, s3, s4, s5, s6, s7, s8, s9, s10, s11⟩; go_simp; with_reducible rfl)
  refine t2_ 4 16 (bA_ 16 27) hHeld ?_ (hy := by rintro w' ⟨s0, s1, s2, s3, s4, s5, s6, s7, s8, s9, s10, s11⟩; go_simp; with_reducible rfl)
  refine o2_ 2 14 (bA_ 16 31) (fun K hK => ?_)
  refine g2_ Tryz.func27 #[.agg #[.slice A0 l0 c0, .slice A1 l1 c1, .slice A2 l2 c2, .slice A3 l3 c3, .slice A4 l4 c4, .slice A5 l5 c5], .agg #[.slice B0 m0 d0, .slice B1 m1 d1, .slice B2 m2 d2, .slice B3 m3 d3, .slice B4 m4 d4, .slice B5 m5 d5]] ?_
  with_reducible refine (HS1.out _ (HB.out.trans ((HG2.out.drew).mono HB.out.size))).mono ?_
  rintro e w3 hh
  obtain ⟨rfl, g⟩ := EqP.yes he hh
  refine ⟨_, rfl, ?_⟩
  have HG3 := Lib.hid ((HG2.out.drew).trans (g.mono (HG2.out.drew).size))
  clear g hh
  refine hK.out _ _ ⟨(HBB.out _ HG3.out).2.1, (HBB.out _ HG3.out).2.2.1, (HBB.out _ HG3.out).2.2.2.1, (HBB.out _ HG3.out).2.2.2.2.1, (HBB.out _ HG3.out).2.2.2.2.2.1, (HBB.out _ HG3.out).2.2.2.2.2.2.1, (HBB.out _ HG3.out).2.2.2.2.2.2.2.1, (HBB.out _ HG3.out).2.2.2.2.2.2.2.2.1, (HBB.out _ HG3.out).2.2.2.2.2.2.2.2.2.1, (HBB.out _ HG3.out).2.2.2.2.2.2.2.2.2.2.1, (HBB.out _ HG3.out).2.2.2.2.2.2.2.2.2.2.2.1, (HBB.out _ HG3.out).2.2.2.2.2.2.2.2.2.2.2.2⟩ (fun hHeld => ?_)
  clear hK K
  refine n2_ 14 ?_
  refine o2_ 5 17 (bA_ 16 63) (fun K hK => ?_)
  refine g2_ Tryz.func26 #[.agg #[.slice A0 l0 c0, .slice A1 l1 c1, .slice A2 l2 c2, .slice A3 l3 c3, .slice A4 l4 c4, .slice A5 l5 c5], .agg #[.slice B0 m0 d0, .slice B1 m1 d1, .slice B2 m2 d2, .slice B3 m3 d3, .slice B4 m4 d4, .slice B5 m5 d5]] ?_
  with_reducible refine (HS2.out _ (HB.out.trans ((HG3.out).mono HB.out.size))).mono ?_
  rintro e w4 hh
  obtain ⟨rfl, g⟩ := EqP.yes he hh
  refine ⟨_, rfl, ?_⟩
  have HG4 := Lib.hid ((HG3.out).trans (g.mono (HG3.out).size))
  clear g hh
  refine hK.out _ _ ⟨(HBB.out _ HG4.out).2.1, (HBB.out _ HG4.out).2.2.1, (HBB.out _ HG4.out).2.2.2.1, (HBB.out _ HG4.out).2.2.2.2.1, (HBB.out _ HG4.out).2.2.2.2.2.1, (HBB.out _ HG4.out).2.2.2.2.2.2.1, (HBB.out _ HG4.out).2.2.2.2.2.2.2.1, (HBB.out _ HG4.out).2.2.2.2.2.2.2.2.1, (HBB.out _ HG4.out).2.2.2.2.2.2.2.2.2.1, (HBB.out _ HG4.out).2.2.2.2.2.2.2.2.2.2.1, (HBB.out _ HG4.out).2.2.2.2.2.2.2.2.2.2.2.1, (HBB.out _ HG4.out).2.2.2.2.2.2.2.2.2.2.2.2⟩ (fun hHeld => ?_)
  clear hK K
  refine n2_ 17 ?_
  refine p2_ 6 18 (bA_ 16 127) ?_
  refine p2_ 7 19 (bA_ 16 255) ?_
  refine t2_ 8 20 (bA_ 16 511) hHeld ?_ (hy := by rintro w' ⟨s0, s1, s2, s3, s4, s5, s6, s7, s8, s9, s10, s11⟩; go_simp; with_reducible rfl)
  refine t2_ 9 21 (bA_ 16 1023) hHeld ?_ (hy := by rintro w' ⟨s0, s1, s2, s3, s4, s5, s6, s7, s8, s9, s10, s11⟩; go_simp; with_reducible rfl)
  refine o2_ 10 22 (bA_ 16 2047) (fun K hK => ?_)
  refine g2_ Tryz.func27 #[.agg #[.slice A0 l0 c0, .slice A1 l1 c1, .slice A2 l2 c2, .slice A3 l3 c3, .slice A4 l4 c4, .slice A5 l5 c5], .agg #[.slice A0 l0 c0, .slice A1 l1 c1, .slice A2 l2 c2, .slice A3 l3 c3, .slice A4 l4 c4, .slice A5 l5 c5]] ?_
  with_reducible refine (HS3.out _ (HB.out.trans ((HG4.out).mono HB.out.size))).mono ?_
  rintro e w5 ⟨rfl, g⟩
  refine ⟨_, rfl, ?_⟩
  have HG5 := Lib.hid ((HG4.out).trans (g.mono (HG4.out).size))
  clear g
  refine hK.out _ _ ⟨(HBB.out _ HG5.out).2.1, (HBB.out _ HG5.out).2.2.1, (HBB.out _ HG5.out).2.2.2.1, (HBB.out _ HG5.out).2.2.2.2.1, (HBB.out _ HG5.out).2.2.2.2.2.1, (HBB.out _ HG5.out).2.2.2.2.2.2.1, (HBB.out _ HG5.out).2.2.2.2.2.2.2.1, (HBB.out _ HG5.out).2.2.2.2.2.2.2.2.1, (HBB.out _ HG5.out).2.2.2.2.2.2.2.2.2.1, (HBB.out _ HG5.out).2.2.2.2.2.2.2.2.2.2.1, (HBB.out _ HG5.out).2.2.2.2.2.2.2.2.2.2.2.1, (HBB.out _ HG5.out).2.2.2.2.2.2.2.2.2.2.2.2⟩ (fun hHeld => ?_)
  clear hK K
  refine n2_ 22 ?_
  refine p2_ 11 23 (bA_ 16 4095) ?_
  refine p2_ 12 24 (bA_ 16 8191) ?_
  refine o2_ 13 25 (bA_ 16 16383) (fun K hK => ?_)
  refine goes_ Tryz.func22 (by kernel_rfl) rfl #[] (by rfl) rfl rfl (by first | rfl | (simp only [List.map_toArray, List.map_cons, List.map_nil]; done)) ?_
  with_reducible refine (HKN.out _).mono ?_
  rintro e w6 ⟨rfl, g⟩
  refine ⟨_, rfl, ?_⟩
  have HG6 := Lib.hid (HG5.out.trans (g.mono HG5.out.size))
  clear g
  refine hK.out _ _ ⟨(HBB.out _ HG6.out).2.1, (HBB.out _ HG6.out).2.2.1, (HBB.out _ HG6.out).2.2.2.1, (HBB.out _ HG6.out).2.2.2.2.1, (HBB.out _ HG6.out).2.2.2.2.2.1, (HBB.out _ HG6.out).2.2.2.2.2.2.1, (HBB.out _ HG6.out).2.2.2.2.2.2.2.1, (HBB.out _ HG6.out).2.2.2.2.2.2.2.2.1, (HBB.out _ HG6.out).2.2.2.2.2.2.2.2.2.1, (HBB.out _ HG6.out).2.2.2.2.2.2.2.2.2.2.1, (HBB.out _ HG6.out).2.2.2.2.2.2.2.2.2.2.2.1, (HBB.out _ HG6.out).2.2.2.2.2.2.2.2.2.2.2.2⟩ (fun hHeld => ?_)
  clear hK K
  refine n2_ 25 ?_
  refine p2_ 14 26 (bA_ 16 32767) ?_
  refine p2_ 15 4 (bA_ 16 65535) ?_
  refine done_ (by kernel_rfl) ?_
  go_wp2_with fail
  go_ret
  exact ⟨rfl, HB.out.trans (HG6.out.mono HB.out.size)⟩
 ·refine start_ (n := 16) (S := fun w' => w'.cell? ⟨w.heap.size, 0, none⟩ = some (.slice A0 l0 c0) ∧ w'.cell? ⟨w.heap.size, 1, none⟩ = some (.slice A1 l1 c1) ∧ w'.cell? ⟨w.heap.size, 2, none⟩ = some (.slice A2 l2 c2) ∧ w'.cell? ⟨w.heap.size, 3, none⟩ = some (.slice A3 l3 c3) ∧ w'.cell? ⟨w.heap.size, 4, none⟩ = some (.slice A4 l4 c4) ∧ w'.cell? ⟨w.heap.size, 5, none⟩ = some (.slice A5 l5 c5) ∧ w'.cell? ⟨w.heap.size + 1, 0, none⟩ = some (.slice B0 m0 d0) ∧ w'.cell? ⟨w.heap.size + 1, 1, none⟩ = some (.slice B1 m1 d1) ∧ w'.cell? ⟨w.heap.size + 1, 2, none⟩ = some (.slice B2 m2 d2) ∧ w'.cell? ⟨w.heap.size + 1, 3, none⟩ = some (.slice B3 m3 d3) ∧ w'.cell? ⟨w.heap.size + 1, 4, none⟩ = some (.slice B4 m4 d4) ∧ w'.cell? ⟨w.heap.size + 1, 5, none⟩ = some (.slice B5 m5 d5)) (ds := []) (bA_ 16 0) (by kernel_rfl) rfl rfl ⟨(HBB.out _ HG2.out.drew).2.1, (HBB.out _ HG2.out.drew).2.2.1, (HBB.out _ HG2.out.drew).2.2.2.1, (HBB.out _ HG2.out.drew).2.2.2.2.1, (HBB.out _ HG2.out.drew).2.2.2.2.2.1, (HBB.out _ HG2.out.drew).2.2.2.2.2.2.1, (HBB.out _ HG2.out.drew).2.2.2.2.2.2.2.1, (HBB.out _ HG2.out.drew).2.2.2.2.2.2.2.2.1, (HBB.out _ HG2.out.drew).2.2.2.2.2.2.2.2.2.1, (HBB.out _ HG2.out.drew).2.2.2.2.2.2.2.2.2.2.1, (HBB.out _ HG2.out.drew).2.2.2.2.2.2.2.2.2.2.2.1, (HBB.out _ HG2.out.drew).2.2.2.2.2.2.2.2.2.2.2.2⟩ (fun hHeld => ?_)
  refine t2_ 0 12 (bA_ 16 1) hHeld ?_ (hy := by rintro w' ⟨s0, s1, s2, s3, s4, s5, s6, s7, s8, s9, s10, s11⟩; go_simp; with_reducible rfl)
  refine t2_ 1 13 (bA_ 16 3) hHeld ?_ (hy := by rintro w' ⟨s0, s1, s2, s3, s4, s5, s6, s7, s8, s9, s10, s11⟩; go_simp; with_reducible rfl)
  refine t2_ 3 15 (bA_ 16 11) hHeld ?_ (hy := by rintro w' ⟨s0, s1, s2, s3, s4, s5, s6, s7, s8, s9, s10, s11⟩; go_simp; with_reducible rfl)
  refine t2_ 4 16 (bA_ 16 27) hHeld ?_ (hy := by rintro w' ⟨s0, s1, s2, s3, s4, s5, s6, s7, s8, s9, s10, s11⟩; go_simp; with_reducible rfl)
  refine o2_ 2 14 (bA_ 16 31) (fun K hK => ?_)
  refine g2_ Tryz.func27 #[.agg #[.slice A0 l0 c0, .slice A1 l1 c1, .slice A2 l2 c2, .slice A3 l3 c3, .slice A4 l4 c4, .slice A5 l5 c5], .agg #[.slice B0 m0 d0, .slice B1 m1 d1, .slice B2 m2 d2, .slice B3 m3 d3, .slice B4 m4 d4, .slice B5 m5 d5]] ?_
  with_reducible refine (HS1.out _ (HB.out.trans ((HG2.out.drew).mono HB.out.size))).mono ?_
  rintro e w3 hh
  obtain ⟨rfl, g⟩ := EqP.no he hh
  refine ⟨_, rfl, ?_⟩
  have HG3 := Lib.hid ((HG2.out.drew).trans (g.mono (HG2.out.drew).size))
  clear g hh
  refine hK.out _ _ ⟨(HBB.out _ HG3.out).2.1, (HBB.out _ HG3.out).2.2.1, (HBB.out _ HG3.out).2.2.2.1, (HBB.out _ HG3.out).2.2.2.2.1, (HBB.out _ HG3.out).2.2.2.2.2.1, (HBB.out _ HG3.out).2.2.2.2.2.2.1, (HBB.out _ HG3.out).2.2.2.2.2.2.2.1, (HBB.out _ HG3.out).2.2.2.2.2.2.2.2.1, (HBB.out _ HG3.out).2.2.2.2.2.2.2.2.2.1, (HBB.out _ HG3.out).2.2.2.2.2.2.2.2.2.2.1, (HBB.out _ HG3.out).2.2.2.2.2.2.2.2.2.2.2.1, (HBB.out _ HG3.out).2.2.2.2.2.2.2.2.2.2.2.2⟩ (fun hHeld => ?_)
  clear hK K
  refine n2_ 14 ?_
  refine o2_ 5 17 (bA_ 16 63) (fun K hK => ?_)
  refine g2_ Tryz.func26 #[.agg #[.slice A0 l0 c0, .slice A1 l1 c1, .slice A2 l2 c2, .slice A3 l3 c3, .slice A4 l4 c4, .slice A5 l5 c5], .agg #[.slice B0 m0 d0, .slice B1 m1 d1, .slice B2 m2 d2, .slice B3 m3 d3, .slice B4 m4 d4, .slice B5 m5 d5]] ?_
  with_reducible refine (HS2.out _ (HB.out.trans ((HG3.out).mono HB.out.size))).mono ?_
  rintro e w4 hh
  obtain ⟨rfl, g⟩ := EqP.no he hh
  refine ⟨_, rfl, ?_⟩
  have HG4 := Lib.hid ((HG3.out).trans (g.mono (HG3.out).size))
  clear g hh
  refine hK.out _ _ ⟨(HBB.out _ HG4.out).2.1, (HBB.out _ HG4.out).2.2.1, (HBB.out _ HG4.out).2.2.2.1, (HBB.out _ HG4.out).2.2.2.2.1, (HBB.out _ HG4.out).2.2.2.2.2.1, (HBB.out _ HG4.out).2.2.2.2.2.2.1, (HBB.out _ HG4.out).2.2.2.2.2.2.2.1, (HBB.out _ HG4.out).2.2.2.2.2.2.2.2.1, (HBB.out _ HG4.out).2.2.2.2.2.2.2.2.2.1, (HBB.out _ HG4.out).2.2.2.2.2.2.2.2.2.2.1, (HBB.out _ HG4.out).2.2.2.2.2.2.2.2.2.2.2.1, (HBB.out _ HG4.out).2.2.2.2.2.2.2.2.2.2.2.2⟩ (fun hHeld => ?_)
  clear hK K
  refine n2_ 17 ?_
  refine p2_ 6 18 (bA_ 16 127) ?_
  refine p2_ 7 19 (bA_ 16 255) ?_
  refine t2_ 8 20 (bA_ 16 511) hHeld ?_ (hy := by rintro w' ⟨s0, s1, s2, s3, s4, s5, s6, s7, s8, s9, s10, s11⟩; go_simp; with_reducible rfl)
  refine t2_ 9 21 (bA_ 16 1023) hHeld ?_ (hy := by rintro w' ⟨s0, s1, s2, s3, s4, s5, s6, s7, s8, s9, s10, s11⟩; go_simp; with_reducible rfl)
  refine o2_ 10 22 (bA_ 16 2047) (fun K hK => ?_)
  refine g2_ Tryz.func27 #[.agg #[.slice A0 l0 c0, .slice A1 l1 c1, .slice A2 l2 c2, .slice A3 l3 c3, .slice A4 l4 c4, .slice A5 l5 c5], .agg #[.slice A0 l0 c0, .slice A1 l1 c1, .slice A2 l2 c2, .slice A3 l3 c3, .slice A4 l4 c4, .slice A5 l5 c5]] ?_
  with_reducible refine (HS3.out _ (HB.out.trans ((HG4.out).mono HB.out.size))).mono ?_
  rintro e w5 ⟨rfl, g⟩
  refine ⟨_, rfl, ?_⟩
  have HG5 := Lib.hid ((HG4.out).trans (g.mono (HG4.out).size))
  clear g
  refine hK.out _ _ ⟨(HBB.out _ HG5.out).2.1, (HBB.out _ HG5.out).2.2.1, (HBB.out _ HG5.out).2.2.2.1, (HBB.out _ HG5.out).2.2.2.2.1, (HBB.out _ HG5.out).2.2.2.2.2.1, (HBB.out _ HG5.out).2.2.2.2.2.2.1, (HBB.out _ HG5.out).2.2.2.2.2.2.2.1, (HBB.out _ HG5.out).2.2.2.2.2.2.2.2.1, (HBB.out _ HG5.out).2.2.2.2.2.2.2.2.2.1, (HBB.out _ HG5.out).2.2.2.2.2.2.2.2.2.2.1, (HBB.out _ HG5.out).2.2.2.2.2.2.2.2.2.2.2.1, (HBB.out _ HG5.out).2.2.2.2.2.2.2.2.2.2.2.2⟩ (fun hHeld => ?_)
  clear hK K
  refine n2_ 22 ?_
  refine p2_ 11 23 (bA_ 16 4095) ?_
  refine p2_ 12 24 (bA_ 16 8191) ?_
  refine o2_ 13 25 (bA_ 16 16383) (fun K hK => ?_)
  refine goes_ Tryz.func22 (by kernel_rfl) rfl #[] (by rfl) rfl rfl (by first | rfl | (simp only [List.map_toArray, List.map_cons, List.map_nil]; done)) ?_
  with_reducible refine (HKN.out _).mono ?_
  rintro e w6 ⟨rfl, g⟩
  refine ⟨_, rfl, ?_⟩
  have HG6 := Lib.hid (HG5.out.trans (g.mono HG5.out.size))
  clear g
  refine hK.out _ _ ⟨(HBB.out _ HG6.out).2.1, (HBB.out _ HG6.out).2.2.1, (HBB.out _ HG6.out).2.2.2.1, (HBB.out _ HG6.out).2.2.2.2.1, (HBB.out _ HG6.out).2.2.2.2.2.1, (HBB.out _ HG6.out).2.2.2.2.2.2.1, (HBB.out _ HG6.out).2.2.2.2.2.2.2.1, (HBB.out _ HG6.out).2.2.2.2.2.2.2.2.1, (HBB.out _ HG6.out).2.2.2.2.2.2.2.2.2.1, (HBB.out _ HG6.out).2.2.2.2.2.2.2.2.2.2.1, (HBB.out _ HG6.out).2.2.2.2.2.2.2.2.2.2.2.1, (HBB.out _ HG6.out).2.2.2.2.2.2.2.2.2.2.2.2⟩ (fun hHeld => ?_)
  clear hK K
  refine n2_ 25 ?_
  refine p2_ 14 26 (bA_ 16 32767) ?_
  refine p2_ 15 4 (bA_ 16 65535) ?_
  refine done_ (by kernel_rfl) ?_
  go_wp2_with fail
  go_ret
  exact ⟨rfl, HB.out.trans (HG6.out.mono HB.out.size)⟩
end Go.Proofs.YtfkejflmhidnaaaGreat.PAll
