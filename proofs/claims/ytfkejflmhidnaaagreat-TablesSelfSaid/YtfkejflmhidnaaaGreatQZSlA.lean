import Derived.Test.YtfkejflmhidnaaaGreatQZSlP
import Derived.Test.YtfkejflmhidnaaaGreatQZByB
set_option linter.all false
namespace Go.Proofs.YtfkejflmhidnaaaGreat.PAll
open RowKit YtfkejflmhidnaaaGreatW.PrintWords YtfkejflmhidnaaaGreatW.PrintLast YtfkejflmhidnaaaGreatW.PrintMore
open Hp hiding Good
set_option maxRecDepth 100000 in
set_option maxHeartbeats 8000000 in
theorem tself_walk (w : World) (a0 : Int) (A1 : Option Addr) (c1 : Nat) (l1 : List S85) (hr1 : Kd.C k85 w A1 l1.length l1) (hc1 : l1.length ≤ c1) (k : Int) (hk0 : 0 ≤ k) (hk1 : k ≤ 255) :
  Calls Tryz.prog 10 #[.int .i64 a0, .slice A1 l1.length c1, .int .u8 k] w fun r w' => r = .returned (.bool true) ∧ Below w.heap.size w w' := by
 obtain ⟨n, A, hok, hof⟩ := of7_walk w a0 A1 c1 l1 hr1 hc1
 have HOF := Lib.hid hof
 have HOK := Lib.hid hok
 have hn0 := hok.n0
 have hn1 := hok.n1
 obtain ⟨c, hc, hcn⟩ := tmod_natF hk0 (n + 1) (by omega)
 have hc' : Int.tmod k ((n : Int) + 1) = (c : Int) := by rw [← hc]; congr 1
 have HKN : Hid (∀ W, Calls Tryz.prog 22 #[] W fun r w' => r = .returned (.bool true) ∧ Below W.heap.size W w') := Lib.hid (fun W => known15_walk W)
 clear hof hok hr1 hc1 hc
 have hwk : IntKind.i64.wrap k = k := i64w rfl (by omega) (by omega)
 have hwn : IntKind.i64.wrap ((n : Int) + 1) = (n : Int) + 1 := i64w rfl (by omega) (by omega)
 have hwc : IntKind.i64.wrap (c : Int) = (c : Int) := i64w rfl (by omega) (by omega)
 have hnq : (n : Int) + 1 ≠ 0 := by omega
 have hnq2 : ((n : Int) + 1 == 0) = false := by simp; omega
 go_enter Tryz.func10, Tryz.ntmps10
 go_upto_region 2 with (first | (go_at_call 11; refine HOF.out.mono ?_; rintro e W2 ⟨Aa, ca, rfl, hca, hCA, g2⟩; have HCA := Lib.hid (And.intro hca hCA); have HG2 := Lib.hid g2; clear hca hCA g2))
 have HM3 := Lib.hid (blk_new W2 (.cells #[.int .i64 n, .slice Aa A.length ca] 24))
 have HG3 : Hid (Below w.heap.size w (W2.alloc (.cells #[.int .i64 n, .slice Aa A.length ca] 24))) := Lib.hid (HG2.out.alloc HG2.out.size _)
 have HCA3 : Hid (A.length ≤ ca ∧ Kd.C k85 (W2.alloc (.cells #[.int .i64 n, .slice Aa A.length ca] 24)) Aa A.length A) := Lib.hid ⟨HCA.out.1, Kd.C_alloc HCA.out.2 _⟩
 clear HCA HG2
 generalize W2.alloc (.cells #[.int .i64 n, .slice Aa A.length ca] 24) = W3 at *
 generalize W2.heap.size = gm at *
 have HMC : Hid (∀ W, Below W3.heap.size W3 W → W.cell? ⟨gm, 0, none⟩ = some (.int .i64 n) ∧ W.cell? ⟨gm, 1, none⟩ = some (.slice Aa A.length ca)) := Lib.hid (fun W g => by
  have hm := (g.block _ (blk_lt HM3.out)).trans HM3.out
  exact ⟨(blk_cell hm 0).trans rfl, (blk_cell hm 1).trans rfl⟩)
 have m0 := (HMC.out W3 (Below.refl _ _)).1
 have m1 := (HMC.out W3 (Below.refl _ _)).2
 have HO : Hid (∀ W, Below W3.heap.size W3 W → Calls Tryz.prog 13 #[.agg #[.int .i64 n, .slice Aa A.length ca]] W (OfPost9U n A W)) := Lib.hid (fun W g => of9_newU W n A Aa ca (Kd.C_below HCA3.out.2 g) HCA3.out.1 HOK.out)
 have HO9 := Lib.hid (HO.out W3.drew (Below.refl _ _).drew)
 generalize A.length = al at *
 refine start_ (n := 12) (S := fun w' => w'.cell? ⟨gm, 0, none⟩ = some (.int .i64 n) ∧ w'.cell? ⟨gm, 1, none⟩ = some (.slice Aa al ca)) (ds := [11]) (bA_ 12 0) (by kernel_rfl) rfl rfl ⟨(HMC.out _ (Below.refl _ _).drew).1, (HMC.out _ (Below.refl _ _).drew).2⟩ (fun hHeld => ?_)
 refine p2_ 3 18 (bA_ 12 8) ?_
 refine p2_ 4 19 (bA_ 12 24) ?_
 refine p2_ 5 20 (bA_ 12 56) ?_
 refine t2_ 0 15 (bA_ 12 57) hHeld ?_ (hy := by rintro w' ⟨s0, s1⟩; go_simp; with_reducible rfl)
 refine t2_ 6 21 (bA_ 12 121) hHeld ?_ (hy := by rintro w' ⟨s0, s1⟩; go_simp; with_reducible rfl)
 refine p2_ 7 22 (bA_ 12 249) ?_
 refine p2_ 8 23 (bA_ 12 505) ?_
 refine join_ (σ := Value × Value × Nat × HierP × TabAt × Nat) 1 (bA_ 12 2047) (fun s => [(16, .agg #[s.1, s.2.1]), (17, .pointer (some ⟨s.2.2.1, 0, none⟩)), (24, .agg (s.2.2.2.2.1.cells (buildT n s.2.2.2.1 c))), (8, .pointer (some ⟨s.2.2.2.2.2, 0, none⟩))]) (fun s w' => MH n (EA A) s.2.2.2.1 ∧ GrOk n s.2.2.2.1 ∧ TabR w' W3.heap.size (.agg (s.2.2.2.2.1.cells (buildT n s.2.2.2.1 c))) (buildT n s.2.2.2.1 c) ∧ w'.heap[s.2.2.2.2.2]? = some (.cells #[.slice none 0 0, .slice none 0 0, .slice none 0 0, .slice none 0 0, .slice none 0 0, .slice none 0 0] 46 (0, 0)) ∧ W3.heap.size ≤ s.2.2.2.2.2 ∧ Below W3.heap.size W3 w') ?_ ?_
 rotate_left
 ·intro hCont
  refine two_ (i := 1) (j := 10) (Ni := some 16) (Nj := some 8) (bA_ 12 507) (bA_ 12 1529) rfl rfl rfl rfl (by kernel_rfl) (by decide) (by decide) (fun K hK => ?_) (fun K hK => ?_)
  ·skip
   refine goes_ Tryz.func13 (by kernel_rfl) rfl #[.agg #[.int .i64 n, .slice Aa al ca]] (by rfl) rfl rfl (by simp only [List.map_toArray, List.map_cons, List.map_nil]; rfl) ?_
   with_reducible refine (HO9.out).mono ?_
   rintro e W4 ⟨S1, S2, rfl, g4, hnew⟩
   refine ⟨_, rfl, ?_⟩
   have HG4 : Hid (Below W3.heap.size W3 W4) := Lib.hid (((Below.refl W3.heap.size W3).drew).trans (g4.mono ((Below.refl W3.heap.size W3).drew).size))
   have HN9 := Lib.hid hnew
   have HNW := Lib.hid (HN9.out _ (Below.refl _ _))
   clear g4 hnew
   refine hK.out _ _ ⟨(HMC.out _ HG4.out).1, (HMC.out _ HG4.out).2⟩ (fun hHeld => ?_)
   clear hK K
   refine norm_ (a' := ?_) ?_ ?_
   rotate_left
   ·show Act.put _ (some 16) _ = _
    simp only [zN_]
    rfl
   refine two_ (i := 2) (j := 10) (Ni := some 17) (Nj := some 8) (bA_ 12 511) (bA_ 12 1531) rfl rfl rfl rfl (by kernel_rfl) (by decide) (by decide) (fun K hK => ?_) (fun K hK => ?_)
   ·skip
    refine goes_ Tryz.func12 (by kernel_rfl) rfl #[.agg #[S1, S2]] (by rfl) rfl rfl (by simp only [List.map_toArray, List.map_cons, List.map_nil]; rfl) ?_
    with_reducible refine (HNW.out).mono ?_
    rintro e W5 ⟨xb, h, rfl, hHR, hMH, hGR, g5⟩
    refine ⟨_, rfl, ?_⟩
    have HG5 : Hid (Below W3.heap.size W3 W5) := Lib.hid ((HG4.out).trans (g5.mono (HG4.out).size))
    have HMH := Lib.hid hMH
    have HGR := Lib.hid hGR
    have HB2 : Hid (∀ W, Below W5.heap.size W5 W → Calls Tryz.prog 20 #[.pointer (some ⟨xb, 0, none⟩), .int .i64 c] W fun r w' => ∃ v, r = .returned v ∧ TabR w' W.heap.size v (buildT n h c) ∧ Below W.heap.size W w') := Lib.hid (fun W g => tbuild_walk W xb n h _ (hHR.below g) hMH.ok (c : Int))
    have HBN := Lib.hid (HB2.out _ (Below.refl _ _))
    clear g5 hHR hMH hGR
    refine hK.out _ _ ⟨(HMC.out _ HG5.out).1, (HMC.out _ HG5.out).2⟩ (fun hHeld => ?_)
    clear hK K
    refine norm_ (a' := ?_) ?_ ?_
    rotate_left
    ·show Act.put _ (some 17) _ = _
     simp only [zN_]
     rfl
    refine two_ (i := 9) (j := 10) (Ni := some 24) (Nj := some 8) (bA_ 12 1023) (bA_ 12 1535) rfl rfl rfl rfl (by kernel_rfl) (by decide) (by decide) (fun K hK => ?_) (fun K hK => ?_)
    ·skip
     refine goes_ Tryz.func20 (by kernel_rfl) rfl #[.pointer (some ⟨xb, 0, none⟩), .int .i64 c] (by rfl) rfl rfl (by simp only [List.map_toArray, List.map_cons, List.map_nil]; rfl) ?_
     with_reducible refine (HBN.out).mono ?_
     rintro e W6 ⟨vT, rfl, hT, g6⟩
     refine ⟨_, rfl, ?_⟩
     obtain ⟨ta, hvT, _⟩ := hT.reads
     subst hvT
     have HG6 : Hid (Below W3.heap.size W3 W6) := Lib.hid ((HG5.out).trans (g6.mono (HG5.out).size))
     have HTC : Hid (TabR W6 W3.heap.size (.agg (ta.cells (buildT n h c))) (buildT n h c)) := Lib.hid (hT.lower (HG5.out).size)
     clear g6 hT
     refine hK.out _ _ ⟨(HMC.out _ HG6.out).1, (HMC.out _ HG6.out).2⟩ (fun hHeld => ?_)
     clear hK K
     refine norm_ (a' := ?_) ?_ ?_
     rotate_left
     ·show Act.put _ (some 24) _ = _
      simp only [zN_]
      rfl
     refine one_ (i := 10) (N := some 8) (bA_ 12 2047) rfl rfl (by kernel_rfl) (by decide) (fun K hK => ?_)
     refine value_ (w1 := ?_) (v := ?_) (by rfl) rfl ?_ ?_
     rotate_left 2
     ·go_simp
      constructor
      ·rfl
      ·rfl
     have HGB : Hid (Below W3.heap.size W3 (W6.alloc (.cells #[.slice none 0 0, .slice none 0 0, .slice none 0 0, .slice none 0 0, .slice none 0 0, .slice none 0 0] 46))) := Lib.hid ((HG6.out).alloc (HG6.out).size _)
     have HBX := Lib.hid (blk_new W6 (.cells #[.slice none 0 0, .slice none 0 0, .slice none 0 0, .slice none 0 0, .slice none 0 0, .slice none 0 0] 46))
     have HTB : Hid (W3.heap.size ≤ W6.heap.size) := Lib.hid (HG6.out).size
     refine hK.out _ _ ⟨(HMC.out _ HGB.out).1, (HMC.out _ HGB.out).2⟩ (fun hHeld => ?_)
     clear hK K
     refine norm_ (a' := ?_) ?_ ?_
     rotate_left
     ·show Act.put _ (some 8) _ = _
      simp only [zN_]
      rfl
     exact norm_ (by simp only [putAll, Act.put, List.setIfInBounds_toArray, List.set_cons_zero, List.set_cons_succ]) (hCont (S1, S2, xb, h, ta, W6.heap.size) _ ⟨HMH.out, HGR.out, (HTC.out.below ((Below.refl _ _).alloc (Nat.le_refl _) _)), HBX.out, HTB.out, HGB.out⟩)
    ·skip
     refine value_ (w1 := ?_) (v := ?_) (by rfl) rfl ?_ ?_
     rotate_left 2
     ·go_simp
      constructor
      ·rfl
      ·rfl
     have HGB : Hid (Below W3.heap.size W3 (W5.alloc (.cells #[.slice none 0 0, .slice none 0 0, .slice none 0 0, .slice none 0 0, .slice none 0 0, .slice none 0 0] 46))) := Lib.hid ((HG5.out).alloc (HG5.out).size _)
     have HBX := Lib.hid (blk_new W5 (.cells #[.slice none 0 0, .slice none 0 0, .slice none 0 0, .slice none 0 0, .slice none 0 0, .slice none 0 0] 46))
     have HTB : Hid (W3.heap.size ≤ W5.heap.size) := Lib.hid (HG5.out).size
     have HBN := Lib.hid (HB2.out (W5.alloc (.cells #[.slice none 0 0, .slice none 0 0, .slice none 0 0, .slice none 0 0, .slice none 0 0, .slice none 0 0] 46)) ((Below.refl _ _).alloc (Nat.le_refl _) _))
     refine hK.out _ _ ⟨(HMC.out _ HGB.out).1, (HMC.out _ HGB.out).2⟩ (fun hHeld => ?_)
     clear hK K
     refine norm_ (a' := ?_) ?_ ?_
     rotate_left
     ·show Act.put _ (some 8) _ = _
      simp only [zN_]
      rfl
     refine one_ (i := 9) (N := some 24) (bA_ 12 2047) rfl rfl (by kernel_rfl) (by decide) (fun K hK => ?_)
     refine goes_ Tryz.func20 (by kernel_rfl) rfl #[.pointer (some ⟨xb, 0, none⟩), .int .i64 c] (by rfl) rfl rfl (by simp only [List.map_toArray, List.map_cons, List.map_nil]; rfl) ?_
     with_reducible refine (HBN.out).mono ?_
     rintro e W6 ⟨vT, rfl, hT, g6⟩
     refine ⟨_, rfl, ?_⟩
     obtain ⟨ta, hvT, _⟩ := hT.reads
     subst hvT
     have HG6 : Hid (Below W3.heap.size W3 W6) := Lib.hid ((HGB.out).trans (g6.mono (HGB.out).size))
     have HBX := Lib.hid ((g6.block _ (blk_lt HBX.out)).trans HBX.out)
     have HTC : Hid (TabR W6 W3.heap.size (.agg (ta.cells (buildT n h c))) (buildT n h c)) := Lib.hid (hT.lower (HGB.out).size)
     clear g6 hT
     refine hK.out _ _ ⟨(HMC.out _ HG6.out).1, (HMC.out _ HG6.out).2⟩ (fun hHeld => ?_)
     clear hK K
     refine norm_ (a' := ?_) ?_ ?_
     rotate_left
     ·show Act.put _ (some 24) _ = _
      simp only [zN_]
      rfl
     exact norm_ (by simp only [putAll, Act.put, List.setIfInBounds_toArray, List.set_cons_zero, List.set_cons_succ]) (hCont (S1, S2, xb, h, ta, W5.heap.size) _ ⟨HMH.out, HGR.out, HTC.out, HBX.out, HTB.out, HG6.out⟩)
   ·skip
    refine value_ (w1 := ?_) (v := ?_) (by rfl) rfl ?_ ?_
    rotate_left 2
    ·go_simp
     constructor
     ·rfl
     ·rfl
    have HGB : Hid (Below W3.heap.size W3 (W4.alloc (.cells #[.slice none 0 0, .slice none 0 0, .slice none 0 0, .slice none 0 0, .slice none 0 0, .slice none 0 0] 46))) := Lib.hid ((HG4.out).alloc (HG4.out).size _)
    have HBX := Lib.hid (blk_new W4 (.cells #[.slice none 0 0, .slice none 0 0, .slice none 0 0, .slice none 0 0, .slice none 0 0, .slice none 0 0] 46))
    have HTB : Hid (W3.heap.size ≤ W4.heap.size) := Lib.hid (HG4.out).size
    have HNW := Lib.hid (HN9.out (W4.alloc (.cells #[.slice none 0 0, .slice none 0 0, .slice none 0 0, .slice none 0 0, .slice none 0 0, .slice none 0 0] 46)) ((Below.refl _ _).alloc (Nat.le_refl _) _))
    refine hK.out _ _ ⟨(HMC.out _ HGB.out).1, (HMC.out _ HGB.out).2⟩ (fun hHeld => ?_)
    clear hK K
    refine norm_ (a' := ?_) ?_ ?_
    rotate_left
    ·show Act.put _ (some 8) _ = _
     simp only [zN_]
     rfl
    refine one_ (i := 2) (N := some 17) (bA_ 12 1535) rfl rfl (by kernel_rfl) (by decide) (fun K hK => ?_)
    refine goes_ Tryz.func12 (by kernel_rfl) rfl #[.agg #[S1, S2]] (by rfl) rfl rfl (by simp only [List.map_toArray, List.map_cons, List.map_nil]; rfl) ?_
    with_reducible refine (HNW.out).mono ?_
    rintro e W5 ⟨xb, h, rfl, hHR, hMH, hGR, g5⟩
    refine ⟨_, rfl, ?_⟩
    have HG5 : Hid (Below W3.heap.size W3 W5) := Lib.hid ((HGB.out).trans (g5.mono (HGB.out).size))
    have HBX := Lib.hid ((g5.block _ (blk_lt HBX.out)).trans HBX.out)
    have HMH := Lib.hid hMH
    have HGR := Lib.hid hGR
    have HB2 : Hid (∀ W, Below W5.heap.size W5 W → Calls Tryz.prog 20 #[.pointer (some ⟨xb, 0, none⟩), .int .i64 c] W fun r w' => ∃ v, r = .returned v ∧ TabR w' W.heap.size v (buildT n h c) ∧ Below W.heap.size W w') := Lib.hid (fun W g => tbuild_walk W xb n h _ (hHR.below g) hMH.ok (c : Int))
    have HBN := Lib.hid (HB2.out _ (Below.refl _ _))
    clear g5 hHR hMH hGR
    refine hK.out _ _ ⟨(HMC.out _ HG5.out).1, (HMC.out _ HG5.out).2⟩ (fun hHeld => ?_)
    clear hK K
    refine norm_ (a' := ?_) ?_ ?_
    rotate_left
    ·show Act.put _ (some 17) _ = _
     simp only [zN_]
     rfl
    refine one_ (i := 9) (N := some 24) (bA_ 12 2047) rfl rfl (by kernel_rfl) (by decide) (fun K hK => ?_)
    refine goes_ Tryz.func20 (by kernel_rfl) rfl #[.pointer (some ⟨xb, 0, none⟩), .int .i64 c] (by rfl) rfl rfl (by simp only [List.map_toArray, List.map_cons, List.map_nil]; rfl) ?_
    with_reducible refine (HBN.out).mono ?_
    rintro e W6 ⟨vT, rfl, hT, g6⟩
    refine ⟨_, rfl, ?_⟩
    obtain ⟨ta, hvT, _⟩ := hT.reads
    subst hvT
    have HG6 : Hid (Below W3.heap.size W3 W6) := Lib.hid ((HG5.out).trans (g6.mono (HG5.out).size))
    have HBX := Lib.hid ((g6.block _ (blk_lt HBX.out)).trans HBX.out)
    have HTC : Hid (TabR W6 W3.heap.size (.agg (ta.cells (buildT n h c))) (buildT n h c)) := Lib.hid (hT.lower (HG5.out).size)
    clear g6 hT
    refine hK.out _ _ ⟨(HMC.out _ HG6.out).1, (HMC.out _ HG6.out).2⟩ (fun hHeld => ?_)
    clear hK K
    refine norm_ (a' := ?_) ?_ ?_
    rotate_left
    ·show Act.put _ (some 24) _ = _
     simp only [zN_]
     rfl
    exact norm_ (by simp only [putAll, Act.put, List.setIfInBounds_toArray, List.set_cons_zero, List.set_cons_succ]) (hCont (S1, S2, xb, h, ta, W4.heap.size) _ ⟨HMH.out, HGR.out, HTC.out, HBX.out, HTB.out, HG6.out⟩)
  ·skip
   refine value_ (w1 := ?_) (v := ?_) (by rfl) rfl ?_ ?_
   rotate_left 2
   ·go_simp
    constructor
    ·rfl
    ·rfl
   have HGB : Hid (Below W3.heap.size W3 (W3.alloc (.cells #[.slice none 0 0, .slice none 0 0, .slice none 0 0, .slice none 0 0, .slice none 0 0, .slice none 0 0] 46)).drew) := Lib.hid (((Below.refl W3.heap.size W3).alloc (Nat.le_refl _) _).drew)
   have HBX : Hid ((W3.alloc (.cells #[.slice none 0 0, .slice none 0 0, .slice none 0 0, .slice none 0 0, .slice none 0 0, .slice none 0 0] 46)).drew.heap[W3.heap.size]? = some (.cells #[.slice none 0 0, .slice none 0 0, .slice none 0 0, .slice none 0 0, .slice none 0 0, .slice none 0 0] 46 (0, 0))) := Lib.hid (blk_new W3 _)
   have HTB : Hid (W3.heap.size ≤ W3.heap.size) := Lib.hid (Nat.le_refl _)
   have HO9 := Lib.hid (HO.out _ HGB.out)
   refine hK.out _ _ ⟨(HMC.out _ HGB.out).1, (HMC.out _ HGB.out).2⟩ (fun hHeld => ?_)
   clear hK K
   refine norm_ (a' := ?_) ?_ ?_
   rotate_left
   ·show Act.put _ (some 8) _ = _
    simp only [zN_]
    rfl
   refine one_ (i := 1) (N := some 16) (bA_ 12 1531) rfl rfl (by kernel_rfl) (by decide) (fun K hK => ?_)
   refine goes_ Tryz.func13 (by kernel_rfl) rfl #[.agg #[.int .i64 n, .slice Aa al ca]] (by rfl) rfl rfl (by simp only [List.map_toArray, List.map_cons, List.map_nil]; rfl) ?_
   with_reducible refine (HO9.out).mono ?_
   rintro e W4 ⟨S1, S2, rfl, g4, hnew⟩
   refine ⟨_, rfl, ?_⟩
   have HG4 : Hid (Below W3.heap.size W3 W4) := Lib.hid ((HGB.out).trans (g4.mono (HGB.out).size))
   have HBX := Lib.hid ((g4.block _ (blk_lt HBX.out)).trans HBX.out)
   have HN9 := Lib.hid hnew
   have HNW := Lib.hid (HN9.out _ (Below.refl _ _))
   clear g4 hnew
   refine hK.out _ _ ⟨(HMC.out _ HG4.out).1, (HMC.out _ HG4.out).2⟩ (fun hHeld => ?_)
   clear hK K
   refine norm_ (a' := ?_) ?_ ?_
   rotate_left
   ·show Act.put _ (some 16) _ = _
    simp only [zN_]
    rfl
   refine one_ (i := 2) (N := some 17) (bA_ 12 1535) rfl rfl (by kernel_rfl) (by decide) (fun K hK => ?_)
   refine goes_ Tryz.func12 (by kernel_rfl) rfl #[.agg #[S1, S2]] (by rfl) rfl rfl (by simp only [List.map_toArray, List.map_cons, List.map_nil]; rfl) ?_
   with_reducible refine (HNW.out).mono ?_
   rintro e W5 ⟨xb, h, rfl, hHR, hMH, hGR, g5⟩
   refine ⟨_, rfl, ?_⟩
   have HG5 : Hid (Below W3.heap.size W3 W5) := Lib.hid ((HG4.out).trans (g5.mono (HG4.out).size))
   have HBX := Lib.hid ((g5.block _ (blk_lt HBX.out)).trans HBX.out)
   have HMH := Lib.hid hMH
   have HGR := Lib.hid hGR
   have HB2 : Hid (∀ W, Below W5.heap.size W5 W → Calls Tryz.prog 20 #[.pointer (some ⟨xb, 0, none⟩), .int .i64 c] W fun r w' => ∃ v, r = .returned v ∧ TabR w' W.heap.size v (buildT n h c) ∧ Below W.heap.size W w') := Lib.hid (fun W g => tbuild_walk W xb n h _ (hHR.below g) hMH.ok (c : Int))
   have HBN := Lib.hid (HB2.out _ (Below.refl _ _))
   clear g5 hHR hMH hGR
   refine hK.out _ _ ⟨(HMC.out _ HG5.out).1, (HMC.out _ HG5.out).2⟩ (fun hHeld => ?_)
   clear hK K
   refine norm_ (a' := ?_) ?_ ?_
   rotate_left
   ·show Act.put _ (some 17) _ = _
    simp only [zN_]
    rfl
   refine one_ (i := 9) (N := some 24) (bA_ 12 2047) rfl rfl (by kernel_rfl) (by decide) (fun K hK => ?_)
   refine goes_ Tryz.func20 (by kernel_rfl) rfl #[.pointer (some ⟨xb, 0, none⟩), .int .i64 c] (by rfl) rfl rfl (by simp only [List.map_toArray, List.map_cons, List.map_nil]; rfl) ?_
   with_reducible refine (HBN.out).mono ?_
   rintro e W6 ⟨vT, rfl, hT, g6⟩
   refine ⟨_, rfl, ?_⟩
   obtain ⟨ta, hvT, _⟩ := hT.reads
   subst hvT
   have HG6 : Hid (Below W3.heap.size W3 W6) := Lib.hid ((HG5.out).trans (g6.mono (HG5.out).size))
   have HBX := Lib.hid ((g6.block _ (blk_lt HBX.out)).trans HBX.out)
   have HTC : Hid (TabR W6 W3.heap.size (.agg (ta.cells (buildT n h c))) (buildT n h c)) := Lib.hid (hT.lower (HG5.out).size)
   clear g6 hT
   refine hK.out _ _ ⟨(HMC.out _ HG6.out).1, (HMC.out _ HG6.out).2⟩ (fun hHeld => ?_)
   clear hK K
   refine norm_ (a' := ?_) ?_ ?_
   rotate_left
   ·show Act.put _ (some 24) _ = _
    simp only [zN_]
    rfl
   exact norm_ (by simp only [putAll, Act.put, List.setIfInBounds_toArray, List.set_cons_zero, List.set_cons_succ]) (hCont (S1, S2, xb, h, ta, W3.heap.size) _ ⟨HMH.out, HGR.out, HTC.out, HBX.out, HTB.out, HG6.out⟩)
 rintro ⟨S1, S2, xb, h, ⟨B0, d0, B1, d1, B2, d2, B3, d3, B4, d4, B5, d5⟩, tb⟩ W6 ⟨hMH, hGR, hTC, hbx, htb, hg6⟩
 simp only [TabAt.cells] at hMH hGR hTC hbx htb
 have HMH := Lib.hid hMH
 have HGR := Lib.hid hGR
 have HTC := Lib.hid hTC
 have HBX := Lib.hid hbx
 have HG6 := Lib.hid hg6
 have hHeld : W6.cell? ⟨gm, 0, none⟩ = some (.int .i64 n) ∧ W6.cell? ⟨gm, 1, none⟩ = some (.slice Aa al ca) := HMC.out _ hg6
 have xf : ∀ j, W6.frozen? ⟨tb, j, none⟩ = false := fun j => blk_frozen HBX.out j
 have xl := blk_lt HBX.out
 have x0 := (blk_cell HBX.out 0).trans rfl
 have x1 := (blk_cell HBX.out 1).trans rfl
 have x2 := (blk_cell HBX.out 2).trans rfl
 have x3 := (blk_cell HBX.out 3).trans rfl
 have x4 := (blk_cell HBX.out 4).trans rfl
 have x5 := (blk_cell HBX.out 5).trans rfl
 clear hMH hGR hTC hbx hg6
 refine norm_ (a' := ?_) ?_ ?_
 rotate_left
 ·simp only [putAll, Act.put, List.setIfInBounds_toArray, List.set_cons_zero, List.set_cons_succ]
  rfl
 refine last_ (i := 11) (N := none) (bA_ 12 4095) rfl rfl (by kernel_rfl) (by decide) (fun K hK => ?_)
 refine skip_ (w1 := ?_) (by rfl) rfl ?_ ?_
 rotate_left
 ·go_simp
  rfl
 refine hK.out _ _ ?_
 clear hK K
 refine done_ (by kernel_rfl) ?_
 have hbox := HTC.out.box (a := ⟨B0, d0, B1, d1, B2, d2, B3, d3, B4, d4, B5, d5⟩) rfl HBX.out HG6.out htb
 simp only at hbox
 have HT7 := Lib.hid hbox
 clear hbox
 clear xf xl x0 x1 x2 x3 x4 x5 HTC HBX
 generalize (((((W6.setCell ⟨tb, 0, none⟩ (.slice B0 (buildT n h (c : Int)).g.length d0)).setCell ⟨tb, 1, none⟩ (.slice B1 (buildT n h (c : Int)).far.length d1)).setCell ⟨tb, 2, none⟩ (.slice B2 (buildT n h (c : Int)).out.length d2)).setCell ⟨tb, 3, none⟩ (.slice B3 (buildT n h (c : Int)).inn.length d3)).setCell ⟨tb, 4, none⟩ (.slice B4 (buildT n h (c : Int)).so.length d4)).setCell ⟨tb, 5, none⟩ (.slice B5 (buildT n h (c : Int)).si.length d5) = W7 at *
 have HM7 := Lib.hid ((HT7.out.2.2.block _ (blk_lt HM3.out)).trans HM3.out)
 have HB7 := Lib.hid (HG3.out.trans (HT7.out.2.2.mono HG3.out.size))
 have hokh := HMH.out.ok
 have HGD := Lib.hid (gd_build hokh (by omega) HGR.out (c : Int))
 have HSM := Lib.hid (sm_build (h := h) (show n ≤ 900 by omega) (c : Int))
 have HCK := Lib.hid (check_build hokh (by omega) HGR.out (c : Int))
 have HSG := Lib.hid (fun v hv hg => self_great hokh (by omega) HGR.out (c : Int) (v := v) hv hg)
 have HSL := Lib.hid (fun v hv hg => self_low hokh HGR.out (c : Int) (v := v) hv hg)
 have HGE : Hid (∀ v : Int, 0 ≤ idxP (buildT n h (c : Int)).g v ↔ v ∈ greatP n h (c : Int)) := Lib.hid (fun v => idxP_ge)
 have hlo : (buildT n h (c : Int)).out.length = n := by show ((List.range n).map _).length = n; simp
 have hli : (buildT n h (c : Int)).inn.length = n := by show ((List.range n).map _).length = n; simp
 have hls : (buildT n h (c : Int)).so.length = n := by show ((List.range n).map _).length = n; simp
 have hlt' : (buildT n h (c : Int)).si.length = n := by show ((List.range n).map _).length = n; simp
 clear HMH HGR hokh htb HG6 HM3 HG3 HCA3 HMC HO HO9 HOF hHeld m0 m1
 generalize greatP n h (c : Int) = GP at *
 generalize buildT n h (c : Int) = T at *
 have HBY : Hid (∀ W, Below W7.heap.size W7 W → ∀ v : Nat, v < n → Calls Tryz.prog 29 #[.agg #[.slice B0 T.g.length d0, .slice B1 T.far.length d1, .slice B2 n d2, .slice B3 n d3, .slice B4 n d4, .slice B5 n d5], .int .i64 v, .int .i64 v] W fun r w' => r = .returned (.tuple #[.int .i64 (byP T v v).1, .bool (byP T v v).2]) ∧ Below W.heap.size W w') := Lib.hid (fun W g v hv => by
  have := tby_walk W ⟨B0, d0, B1, d1, B2, d2, B3, d3, B4, d4, B5, d5⟩ T (HT7.out.1.below g) HSM.out HGD.out n hlo hli hls hlt' HCK.out v v hv hv
  simp only [TabAt.cells, hlo, hli, hls, hlt'] at this
  exact this)
 have HPL : Hid (∀ W, Below W7.heap.size W7 W → ∀ v : Int, Calls Tryz.prog 30 #[.agg #[.slice B0 T.g.length d0, .slice B1 T.far.length d1, .slice B2 n d2, .slice B3 n d3, .slice B4 n d4, .slice B5 n d5], .int .i64 v] W fun r w' => r = .returned (.int .i64 (idxP T.g v)) ∧ Below W.heap.size W w') := Lib.hid (fun W g v => by
  have := place2_walk W ⟨B0, d0, B1, d1, B2, d2, B3, d3, B4, d4, B5, d5⟩ T v (HT7.out.1.below g) (HGD.out.asc.imp (fun h => by omega)) HSM.out.g
  simp only [TabAt.cells, hlo, hli, hls, hlt'] at this
  exact this)
 have HXT : Hid (W7.heap[tb]? = some (.cells #[.slice B0 T.g.length d0, .slice B1 T.far.length d1, .slice B2 n d2, .slice B3 n d3, .slice B4 n d4, .slice B5 n d5] 46 (0, 0))) := Lib.hid (by have := HT7.out.2.1; simp only [TabAt.cells, hlo, hli, hls, hlt'] at this; exact this)
 clear HT7 HGD HSM HCK hlo hli hls hlt'
 have HCF : Hid (∀ W, Below W7.heap.size W7 W → (W.cell? ⟨gm, 0, none⟩ = some (.int .i64 n) ∧ gm < W.heap.size ∧ tb < W.heap.size) ∧ W.cell? ⟨tb, 0, none⟩ = some (.slice B0 T.g.length d0) ∧ W.cell? ⟨tb, 1, none⟩ = some (.slice B1 T.far.length d1) ∧ W.cell? ⟨tb, 2, none⟩ = some (.slice B2 n d2) ∧ W.cell? ⟨tb, 3, none⟩ = some (.slice B3 n d3) ∧ W.cell? ⟨tb, 4, none⟩ = some (.slice B4 n d4) ∧ W.cell? ⟨tb, 5, none⟩ = some (.slice B5 n d5)) := Lib.hid (fun W g => by
  have hm := (g.block _ (blk_lt HM7.out)).trans HM7.out
  have ht := (g.block _ (blk_lt HXT.out)).trans HXT.out
  exact ⟨⟨(blk_cell hm 0).trans rfl, blk_lt hm, blk_lt ht⟩, (blk_cell ht 0).trans rfl, (blk_cell ht 1).trans rfl, (blk_cell ht 2).trans rfl, (blk_cell ht 3).trans rfl, (blk_cell ht 4).trans rfl, (blk_cell ht 5).trans rfl⟩)
 obtain ⟨⟨m0, ml, tl⟩, t0, t1, t2, t3, t4, t5⟩ := HCF.out W7 (Below.refl _ _)
 have e0 : ((n : Int) != (n : Int)) = false := by simp
 go_wp2_with fail
 clear m0 ml tl t0 t1 t2 t3 t4 t5 e0
 go_loopw [9] (fun v9 wr => ∃ v : Nat, v9 = .int .i64 v ∧ v ≤ n ∧ Hid (Below W7.heap.size W7 wr)) (fun v9 _ => n - (intOf v9).toNat)
 case atStart => exact ⟨0, rfl, by omega, Lib.hid (Below.refl _ _)⟩
 case round =>
  obtain ⟨v, rfl, hv, HB⟩ := hrel
  obtain ⟨⟨m0, ml, tl⟩, t0, t1, t2, t3, t4, t5⟩ := HCF.out wr HB.out
  by_cases hlt : v < n
  rotate_left
  ·have hle : n ≤ v := by omega
   have HKW := Lib.hid (HKN.out wr)
   go_wp2_with (first | (go_at_call 22; refine HKW.out.mono ?_; rintro e w9 ⟨rfl, g9⟩; have HG9 := Lib.hid g9; clear g9))
   go_ret
   exact ⟨rfl, HB7.out.trans ((HB.out.trans (HG9.out.mono HB.out.size)).mono HB7.out.size)⟩
  have hv0 : (0 : Int) ≤ (v : Int) := Int.natCast_nonneg _
  have hv1 : (v : Int) < (n : Int) := by omega
  have HBV := Lib.hid (HBY.out wr HB.out v hlt)
  have HPV := Lib.hid (fun W g => HPL.out W g (v : Int))
  by_cases hg : (v : Int) ∈ GP
  ·have hb := HSG.out v hlt hg
   have hp : 0 ≤ idxP T.g (v : Int) := (HGE.out _).2 hg
   rw [hb] at HBV
   have p0 : decide (idxP T.g (v : Int) < 0) = false := by simp; omega
   generalize idxP T.g (v : Int) = pv at *
   clear hb hg
   go_upto_region 9 with (first | (go_at_call 29; refine HBV.out.mono ?_; rintro e w8 ⟨rfl, g8⟩; have HB8 := Lib.hid (HB.out.trans (g8.mono HB.out.size)); clear g8))
   clear m0 ml tl t0 t1 t2 t3 t4 t5
   obtain ⟨⟨m0, ml, tl⟩, t0, t1, t2, t3, t4, t5⟩ := HCF.out w8 HB8.out
   have HP8 := Lib.hid (HPV.out w8 HB8.out)
   go_wp2_with (first | (go_at_call 30; refine HP8.out.mono ?_; rintro e w9 ⟨rfl, g9⟩; have HB9 := Lib.hid (HB8.out.trans (g9.mono HB8.out.size)); clear g9))
   go_roundw
   case measure => simp [intOf]; omega
   case rel => exact ⟨v + 1, by go_num, by omega, HB9⟩
  ·have hb := HSL.out v hlt hg
   have hp : ¬ 0 ≤ idxP T.g (v : Int) := fun h => hg ((HGE.out _).1 h)
   rw [hb] at HBV
   have p0 : decide (idxP T.g (v : Int) < 0) = true := by simp; omega
   generalize idxP T.g (v : Int) = pv at *
   clear hb hg
   go_upto_region 9 with (first | (go_at_call 29; refine HBV.out.mono ?_; rintro e w8 ⟨rfl, g8⟩; have HB8 := Lib.hid (HB.out.trans (g8.mono HB.out.size)); clear g8))
   clear m0 ml tl t0 t1 t2 t3 t4 t5
   obtain ⟨⟨m0, ml, tl⟩, t0, t1, t2, t3, t4, t5⟩ := HCF.out w8 HB8.out
   have HP8 := Lib.hid (HPV.out w8 HB8.out)
   go_wp2_with (first | (go_at_call 30; refine HP8.out.mono ?_; rintro e w9 ⟨rfl, g9⟩; have HB9 := Lib.hid (HB8.out.trans (g9.mono HB8.out.size)); clear g9))
   go_roundw
   case measure => simp [intOf]; omega
   case rel => exact ⟨v + 1, by go_num, by omega, HB9⟩
end Go.Proofs.YtfkejflmhidnaaaGreat.PAll
