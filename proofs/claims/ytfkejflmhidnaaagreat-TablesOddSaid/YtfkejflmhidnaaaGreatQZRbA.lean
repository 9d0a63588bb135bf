import Derived.Test.YtfkejflmhidnaaaGreatQZRmA
import Derived.Test.YtfkejflmhidnaaaGreatQTlB
import Derived.Test.YtfkejflmhidnaaaGreatQZKwA
set_option linter.all false
namespace Go.Proofs.YtfkejflmhidnaaaGreat.PAll
open RowKit YtfkejflmhidnaaaGreatW.PrintWords YtfkejflmhidnaaaGreatW.PrintLast YtfkejflmhidnaaaGreatW.PrintMore
open Hp hiding Good
theorem tabR_lower {w : World} {b b' : Nat} {v : Value} {t : TabP} (h : TabR w b v t) (hb : b' ≤ b) : TabR w b' v t := by
 obtain ⟨vG, vF, vO, vI, vS, vT, e, h1, h2, h3, h4, h5, h6⟩ := h
 exact ⟨vG, vF, vO, vI, vS, vT, e, Kd.R_lower h1 hb, Kd.R_lower h2 hb, Kd.R_lower h3 hb, Kd.R_lower h4 hb, Kd.R_lower h5 hb, Kd.R_lower h6 hb⟩
theorem greatR_eq {n : Nat} {rank : List Int} {ways : List S71} (V : VH n rank ways) (x : List Int) (hx : ∀ u : Nat, u < n → rd x (rd rank u) = u) (k : Int) :
  intsOf (rowsP n (fun _ => some 0) (fun u => decide (lowAt n k ≤ rd rank (u : Int)))) = greatP n (newH n rank x ways) k := by
 have hc := clipP_in n k
 have hl : lowAt n k = (n : Int) - ((clipP n k).toNat : Nat) := by unfold lowAt; omega
 rw [hl]
 exact (great_eq V x hx (clipP n k).toNat (by omega)).symm
set_option maxRecDepth 100000 in
set_option maxHeartbeats 8000000 in
theorem rbuild_walk (w : World) (n m : Nat) (rank : List Int) (ways : List S71) (hm : ways.length = m) (V : VH n rank ways) (rA wA : Option Addr) (rc wc : Nat) (hr : Kd.C (Kd.int .i64) w rA n rank) (hw : Kd.C k71 w wA ways.length ways) (x : List Int) (hx : ∀ u : Nat, u < n → rd x (rd rank u) = u) (k : Int) :
  Calls Tryz.prog 23 #[.agg #[.slice rA n rc, .slice wA m wc], .int .i64 k] w fun r w' => ∃ v, r = .returned v ∧ TabR w' w.heap.size v (buildT n (newH n rank x ways) k) ∧ Below w.heap.size w w' := by
 have hn9 := V.small
 obtain ⟨h, hh⟩ : ∃ h, newH n rank x ways = h := ⟨_, rfl⟩
 obtain ⟨fO, hfO⟩ : ∃ fO : Nat → List S37, fO = fun v => outP n h v (lowAt n k) false := ⟨_, rfl⟩
 obtain ⟨fI, hfI⟩ : ∃ fI : Nat → List S37, fI = fun v => outP n h v (lowAt n k) true := ⟨_, rfl⟩
 obtain ⟨fS, hfS⟩ : ∃ fS : Nat → List Int, fS = fun v => subQ n h v k false := ⟨_, rfl⟩
 obtain ⟨fT, hfT⟩ : ∃ fT : Nat → List Int, fT = fun v => subQ n h v k true := ⟨_, rfl⟩
 have hof : ∀ back : Bool, ∀ W, Below w.heap.size w W → ∀ v : Nat, v < n → Calls Tryz.prog 49 #[.agg #[.slice rA n rc, .slice wA m wc], .int .i64 v, .int .i64 k, .bool back] W fun r w' => ∃ vr, r = .returned vr ∧ Kd.R k37 37 w' W.heap.size (fun _ => True) vr (outP n h v (lowAt n k) back) ∧ Below W.heap.size W w' := fun back W g v hv => by
  have := ofR_new V (Kd.C_below hr g) (Kd.C_below hw g) (rc := rc) (wc := wc) x (v : Int) k back
  rw [hm, hh] at this
  unfold highV climbV at this
  rw [if_pos ⟨by omega, by omega⟩, Int.toNat_natCast] at this
  exact this
 have hsf : ∀ back : Bool, ∀ W, Below w.heap.size w W → ∀ v : Nat, v < n → Calls Tryz.prog 50 #[.agg #[.slice rA n rc, .slice wA m wc], .int .i64 v, .int .i64 k, .bool back] W fun r w' => ∃ vr, r = .returned vr ∧ Kd.R (Kd.int .i64) 3 w' W.heap.size (fun _ => True) vr (subQ n h v k back) ∧ Below W.heap.size W w' := fun back W g v hv => by
  have := subR_new V (Kd.C_below hr g) (Kd.C_below hw g) (rc := rc) (wc := wc) x (v : Int) k back
  rw [hm, hh] at this
  unfold lowV climbV at this
  rw [if_pos ⟨by omega, by omega⟩, Int.toNat_natCast] at this
  exact this
 have HX0 := Lib.hid (HBx.new w (.slice rA n rc) (.slice wA m wc))
 obtain ⟨W0, hW0⟩ : ∃ W0, w.alloc (.cells #[.slice rA n rc, .slice wA m wc] 31) = W0 := ⟨_, rfl⟩
 have hs0 : W0.heap.size = w.heap.size + 1 := by rw [← hW0]; simp
 rw [hW0] at HX0
 have HLO : Hid (∀ W, Below W0.heap.size W0 W → Below w.heap.size w W) := Lib.hid (fun W g => (HX0.out.below g).bel)
 have HOO := Lib.hid (fun W (g : Below W0.heap.size W0 W) v hv => hof false W (HLO.out W g) v hv)
 have HOI := Lib.hid (fun W (g : Below W0.heap.size W0 W) v hv => hof true W (HLO.out W g) v hv)
 have HSO := Lib.hid (fun W (g : Below W0.heap.size W0 W) v hv => hsf false W (HLO.out W g) v hv)
 have HSI := Lib.hid (fun W (g : Below W0.heap.size W0 W) v hv => hsf true W (HLO.out W g) v hv)
 have hgl := greatP_len n h k
 have hcl := clipP_in n k
 have hgr := greatR_eq V x hx k
 rw [hh] at hgr
 have HGR : Hid (∀ W, Below W0.heap.size W0 W → Calls Tryz.prog 47 #[.agg #[.slice rA n rc, .slice wA m wc], .int .i64 k] W fun r w' => ∃ vr, r = .returned vr ∧ Kd.R (Kd.int .i64) 3 w' W.heap.size (fun _ => True) vr (greatP n h k) ∧ Below W.heap.size W w') := Lib.hid (fun W g => by
  have := great14_walk W n m hn9 rank rA wA rc wc V.rl (Kd.C_below hr (HLO.out W g)) k
  rw [hgr] at this
  exact this)
 have HTB : Hid (∀ W, Below W0.heap.size W0 W → ∀ (A : Option Addr) (c : Nat), Kd.C (Kd.int .i64) W A (greatP n h k).length (greatP n h k) → Calls Tryz.prog 48 #[.agg #[.slice rA n rc, .slice wA m wc], .slice A (greatP n h k).length c, .slice A (greatP n h k).length c] W fun r w' => ∃ vr, r = .returned vr ∧ Kd.R kII 28 w' W.heap.size (fun _ => True) vr (tableP n h (greatP n h k) (greatP n h k)) ∧ Below W.heap.size W w') := Lib.hid (fun W g A c hC => by
  have hf := farIs_new V (Kd.C_below hr (HLO.out W g)) (Kd.C_below hw (HLO.out W g)) (rc := rc) (wc := wc) x
  rw [hm, hh] at hf
  exact table12_walk W n m rA wA rc wc (farP n h) hf _ _ A A c c hC hC (by omega) (by omega))
 have HBT : Hid (buildT n h k = ⟨greatP n h k, tableP n h (greatP n h k) (greatP n h k), rowsOf fO n, rowsOf fI n, rowsOf fS n, rowsOf fT n⟩) := Lib.hid (by rw [hfO, hfI, hfS, hfT]; rfl)
 have hO : ∀ v, fO v = outP n h v (lowAt n k) false := fun v => by rw [hfO]
 have hI : ∀ v, fI v = outP n h v (lowAt n k) true := fun v => by rw [hfI]
 have hS : ∀ v, fS v = subQ n h v k false := fun v => by rw [hfS]
 have hT : ∀ v, fT v = subQ n h v k true := fun v => by rw [hfT]
 simp only [← hO] at HOO
 simp only [← hI] at HOI
 simp only [← hS] at HSO
 simp only [← hT] at HSI
 have HBX0 := Lib.hid (blk_new W0 (.cells #[.slice none 0 0, .slice none 0 0, .slice none 0 0, .slice none 0 0, .slice none 0 0, .slice none 0 0] 46))
 have HB0 : Hid (Below W0.heap.size W0 (W0.alloc (.cells #[.slice none 0 0, .slice none 0 0, .slice none 0 0, .slice none 0 0, .slice none 0 0, .slice none 0 0] 46))) := Lib.hid ((Below.refl _ _).alloc (Nat.le_refl _) _)
 rw [hh]
 clear hof hsf hfO hfI hfS hfT hO hI hS hT hr hw V hx hgr hh
 generalize buildT n h k = TT at *
 generalize tableP n h (greatP n h k) (greatP n h k) = far at *
 generalize greatP n h k = g at *
 obtain ⟨mg, hmg⟩ : ∃ mg, g.length = mg := ⟨_, rfl⟩
 rw [hmg] at HTB hgl
 have hm9 : mg ≤ 900 := by omega
 clear hgl hcl hm
 obtain ⟨h0, h1, hl⟩ := (HX0.out.below HB0.out).cells
 go_enter Tryz.func23, Tryz.ntmps23
 go_upto_region 1 with fail
 try rw [hW0]
 rw [← hs0]
 have HG1 := Lib.hid (HGR.out _ HB0.out)
 clear hW0 hs0 HGR
 generalize W0.alloc (.cells #[.slice none 0 0, .slice none 0 0, .slice none 0 0, .slice none 0 0, .slice none 0 0, .slice none 0 0] 46) = W1 at *
 go_wp2_with fail
 refine HG1.out.mono ?_
 rintro e W2 ⟨vr, rfl, hR1, g1⟩
 obtain ⟨Ga, gc, hvr, hgc, hGC⟩ := Kd.R_reads hR1
 rw [hmg] at hvr hGC
 subst hvr
 have HR2 := Lib.hid (Kd.R_lower hR1 HB0.out.size)
 have HB2 := Lib.hid (HB0.out.trans (g1.mono HB0.out.size))
 have HX2 := Lib.hid ((g1.block _ (blk_lt HBX0.out)).trans HBX0.out)
 have HTC := Lib.hid (HTB.out W2 HB2.out Ga gc hGC)
 clear hgc hGC hR1 g1 HG1 HTB HB0 HBX0 h0 h1 hl
 obtain ⟨h0, h1, hl⟩ := (HX0.out.below HB2.out).cells
 go_wp2_with fail
 refine HTC.out.mono ?_
 rintro e W3 ⟨vF, rfl, hRF, g3⟩
 obtain ⟨Fa, fc, hvF, hfc, hFC⟩ := Kd.R_reads hRF
 obtain ⟨nf, hnf⟩ : ∃ nf, far.length = nf := ⟨_, rfl⟩
 rw [hnf] at hvF
 subst hvF
 have HB3 := Lib.hid (HB2.out.trans (g3.mono HB2.out.size))
 have HX3 := Lib.hid ((g3.block _ (blk_lt HX2.out)).trans HX2.out)
 have hF3 : Kd.R kII 28 W3 W0.heap.size (fun k => (Value.slice none 0 0).ownBlock ≠ some k ∧ (Value.slice none 0 0).ownBlock ≠ some k) (.slice Fa nf fc) far := Kd.R_lower (Kd.R_mono hRF (fun k _ => ⟨(by intro e; cases e), (by intro e; cases e)⟩)) HB2.out.size
 have HT3 : Hid (TRw W0 W3 (.slice Ga mg gc) (.slice Fa nf fc) (.slice none 0 0) (.slice none 0 0) (.slice none 0 0) (.slice none 0 0) g far (rowsOf fO 0) (rowsOf fI 0) (rowsOf fS 0) (rowsOf fT 0)) := Lib.hid
  ⟨HB3.out, Kd.R_below HR2.out g3, hF3, Kd.R_nil _ _ _ _ _, Kd.R_nil _ _ _ _ _, Kd.R_nil _ _ _ _ _, Kd.R_nil _ _ _ _ _⟩
 clear hRF hF3 g3 hfc hFC hnf HB2 HX2 HR2 HTC h0 h1 hl
 have HBT4 := Lib.hid (blk_new W3 (.cells #[.slice Ga mg gc, .slice Fa nf fc, .slice none 0 0, .slice none 0 0, .slice none 0 0, .slice none 0 0] 46))
 have hg34 : Below W3.heap.size W3 (W3.alloc (.cells #[.slice Ga mg gc, .slice Fa nf fc, .slice none 0 0, .slice none 0 0, .slice none 0 0, .slice none 0 0] 46)) := (Below.refl _ _).alloc (Nat.le_refl _) _
 have HT4 := Lib.hid (HT3.out.below hg34)
 have HX4 := Lib.hid ((hg34.block _ (blk_lt HX3.out)).trans HX3.out)
 have HGT : Hid (W0.heap.size < W3.heap.size) := Lib.hid (blk_lt HX3.out)
 go_upto_region 3 with fail
 generalize W3.alloc (.cells #[.slice Ga mg gc, .slice Fa nf fc, .slice none 0 0, .slice none 0 0, .slice none 0 0, .slice none 0 0] 46) = W4 at *
 generalize W3.heap.size = gt at *
 have HGE : Hid (W0.heap.size ≤ gt) := Lib.hid (Nat.le_of_lt HGT.out)
 clear HT3 HX3 HB3 hg34
 obtain ⟨h0, h1, hl⟩ := (HX0.out.below HT4.out.bel).cells
 go_wp2_with fail
 clear h0 h1 hl
 go_loopw [7] (fun v7 wr => ∃ (v : Nat) (vO vI vS vT : Value), v7 = .int .i64 v ∧ v ≤ n ∧ Hid (TRw W0 wr (.slice Ga mg gc) (.slice Fa nf fc) vO vI vS vT g far (rowsOf fO v) (rowsOf fI v) (rowsOf fS v) (rowsOf fT v)) ∧ Hid (wr.heap[gt]? = some (.cells #[.slice Ga mg gc, .slice Fa nf fc, vO, vI, vS, vT] 46 (0, 0))) ∧
   Hid (wr.heap[W0.heap.size]? = some (.cells #[.slice none 0 0, .slice none 0 0, .slice none 0 0, .slice none 0 0, .slice none 0 0, .slice none 0 0] 46 (0, 0)))) (fun v7 _ => n - (intOf v7).toNat)
 case atStart => exact ⟨0, _, _, _, _, rfl, by omega, HT4, HBT4, HX4⟩
 case round =>
  obtain ⟨v, vO, vI, vS, vT, rfl, hv, HT, HBT5, HX⟩ := hrel
  clear HT4 HBT4 HX4
  obtain ⟨h0, h1, hl⟩ := (HX0.out.below HT.out.bel).cells
  by_cases hlt : v < n
  ·have hv0 : (0 : Int) ≤ (v : Int) := Int.natCast_nonneg _
   have hv1 : (v : Int) < (n : Int) := by omega
   have hlO : (rowsOf fO v).length ≤ 900 := by rw [rowsOf_len]; omega
   have hlI : (rowsOf fI v).length ≤ 900 := by rw [rowsOf_len]; omega
   have hlS : (rowsOf fS v).length ≤ 900 := by rw [rowsOf_len]; omega
   have hlT : (rowsOf fT v).length ≤ 900 := by rw [rowsOf_len]; omega
   have HSU : Hid (rowsOf fO (v + 1) = rowsOf fO v ++ [fO v] ∧ rowsOf fI (v + 1) = rowsOf fI v ++ [fI v] ∧ rowsOf fS (v + 1) = rowsOf fS v ++ [fS v] ∧ rowsOf fT (v + 1) = rowsOf fT v ++ [fT v]) := Lib.hid ⟨rowsOf_succ _ _, rowsOf_succ _ _, rowsOf_succ _ _, rowsOf_succ _ _⟩
   have HOv := Lib.hid (fun W (g : Below W0.heap.size W0 W) => HOO.out W g v hlt)
   have HIv := Lib.hid (fun W (g : Below W0.heap.size W0 W) => HOI.out W g v hlt)
   have HSv := Lib.hid (fun W (g : Below W0.heap.size W0 W) => HSO.out W g v hlt)
   have HTv := Lib.hid (fun W (g : Below W0.heap.size W0 W) => HSI.out W g v hlt)
   generalize fO v = xO at *
   generalize fI v = xI at *
   generalize fS v = xS at *
   generalize fT v = xT at *
   generalize rowsOf fO v = oO at *
   generalize rowsOf fI v = oI at *
   generalize rowsOf fS v = oS at *
   generalize rowsOf fT v = oT at *
   have HT0 : Hid (TRw W0 wr.drew (.slice Ga mg gc) (.slice Fa nf fc) vO vI vS vT g far oO oI oS oT) := Lib.hid (HT.out.below (Below.refl _ _).drew)
   have HBX0 : Hid (wr.drew.heap[gt]? = some (.cells #[.slice Ga mg gc, .slice Fa nf fc, vO, vI, vS, vT] 46 (0, 0))) := Lib.hid HBT5.out
   have HXX0 : Hid (wr.drew.heap[W0.heap.size]? = some (.cells #[.slice none 0 0, .slice none 0 0, .slice none 0 0, .slice none 0 0, .slice none 0 0, .slice none 0 0] 46 (0, 0))) := Lib.hid HX.out
   clear HT HBT5 HX
   go_upto_region 6 with fail
   clear h0 h1 hl
   refine start_ (n := 10) (S := fun w' => w'.cell? ⟨w.heap.size, 0, none⟩ = some (.slice rA n rc) ∧ w'.cell? ⟨w.heap.size, 1, none⟩ = some (.slice wA m wc) ∧ w'.cell? ⟨gt, 2, none⟩ = some vO) (ds := [9]) (bA_ 10 0) (by kernel_rfl) rfl rfl ⟨(HX0.out.below HT0.out.bel).cells.1, (HX0.out.below HT0.out.bel).cells.2.1, ((blk_cell HBX0.out 2).trans rfl)⟩ (fun hHeld => ?_)
   refine p2_ 0 24 (bA_ 10 1) ?_
   refine p2_ 3 27 (bA_ 10 9) ?_
   refine p2_ 4 28 (bA_ 10 25) ?_
   refine t2_ 1 25 (bA_ 10 27) hHeld ?_ (hy := by rintro w' ⟨s0, s1, s2⟩; go_simp; with_reducible rfl)
   refine t2_ 2 26 (bA_ 10 31) hHeld ?_ (hy := by rintro w' ⟨s0, s1, s2⟩; go_simp; with_reducible rfl)
   refine o2_ 5 29 (bA_ 10 63) (fun K hK => ?_)
   refine g2_ Tryz.func49 #[.agg #[.slice rA n rc, .slice wA m wc], .int .i64 v, .int .i64 k, .bool false] ?_
   with_reducible refine (HOv.out _ HT0.out.bel).mono ?_
   rintro e w1 ⟨v1, rfl, hR, g1⟩
   refine ⟨_, rfl, ?_⟩
   have HT1 := Lib.hid (HT0.out.below g1)
   have HBX1 := Lib.hid ((g1.block _ (blk_lt HBX0.out)).trans HBX0.out)
   have HXX1 := Lib.hid ((g1.block _ (blk_lt HXX0.out)).trans HXX0.out)
   obtain ⟨A1, k1, hv1, hk1, _⟩ := Kd.R_reads hR
   subst hv1
   have HP1 : Hid (Kd.R k37 37 w1 W0.heap.size (fun k => wr.drew.heap.size ≤ k) (.slice A1 xO.length k1) xO) := Lib.hid (Kd.R_lower (Kd.R_mono (Kd.R_bound hR) (fun k hk => hk.2.1)) HT0.out.bel.size)
   clear hR g1 hk1
   refine hK.out _ _ ⟨(HX0.out.below HT1.out.bel).cells.1, (HX0.out.below HT1.out.bel).cells.2.1, ((blk_cell HBX1.out 2).trans rfl)⟩ (fun hHeld => ?_)
   clear hK K
   refine n2_ 29 ?_
   refine o2_ 6 30 (bA_ 10 127) (fun K hK => ?_)
   refine value_ (w1 := ?_) (v := ?_) (by rfl) rfl ?_ ?_
   rotate_left 2
   ·go_simp
    constructor
    ·rfl
    ·rfl
   refine hK.out _ _ ⟨(cellAllocZ ((HX0.out.below HT1.out.bel).cells.1)), (cellAllocZ ((HX0.out.below HT1.out.bel).cells.2.1)), (cellAllocZ (((blk_cell HBX1.out 2).trans rfl)))⟩ (fun hHeld => ?_)
   clear hK K
   refine n2_ 30 ?_
   refine o2_ 7 31 (bA_ 10 255) (fun K hK => ?_)
   refine Kd.R_append_step kRR (w0 := W0) (W := w1) W0.heap.size (by rfl) (.tmp 25) (.tmp 30) 44 33 (.slice none 0 0) 24 rfl Tryz.underlying44 info33 rfl (by decide) (by omega) vO oO xO [.slice A1 xO.length k1] (fun k => vI.ownBlock ≠ some k) (fun k => wr.drew.heap.size ≤ k) rfl rfl ⟨_, rfl, HP1.out⟩ (fun k hk => ⟨fun e => by have := R_lt' HT0.out.rI k e; omega, fun e => by have := R_lt' HT0.out.rO k e.symm; omega⟩) (fun k hk e => by have := R_lt' HT1.out.rI k e; omega) HT1.out.rO HT1.out.bel HT1.out.bel.size (by omega) ?_
   intro q w2 hR hB hG hat
   obtain ⟨q2A, q2C, hq⟩ := Kd.R_slice hR
   generalize hqm : (oO ++ [xO]).length = q2M at hq
   subst hq
   clear hqm
   have HT2 := Lib.hid (HT1.out.appO hR hB hG hat)
   have HBX2 := Lib.hid (box_grown HBX1.out HT1.out.rO (by decide) hG)
   have HXX2 := Lib.hid (box_grown HXX1.out HT1.out.rO (by decide) hG)
   clear hR hB hG hat
   have xf : ∀ j, w2.frozen? ⟨gt, j, none⟩ = false := fun j => blk_frozen HBX2.out j
   have xl := blk_lt HBX2.out
   have x2c : w2.cell? ⟨gt, 2, none⟩ = some vO := (blk_cell HBX2.out 2).trans rfl
   refine hK.out _ _ ⟨(HX0.out.below HT2.out.bel).cells.1, (HX0.out.below HT2.out.bel).cells.2.1, ((blk_cell HBX2.out 2).trans rfl)⟩ (fun hHeld => ?_)
   clear hK K
   refine n2_ 31 ?_
   refine p2_ 8 32 (bA_ 10 511) ?_
   refine last_ (i := 9) (N := none) (bA_ 10 1023) rfl rfl (by kernel_rfl) (by decide) (fun K hK => ?_)
   refine skip_ (w1 := ?_) (by rfl) rfl ?_ ?_
   rotate_left
   ·go_simp
    rfl
   refine hK.out _ _ ?_
   clear hK K
   refine done_ (by kernel_rfl) ?_
   have HT1' := Lib.hid (HT2.out.set HBX2.out HGE.out 2 (Value.slice q2A q2M q2C))
   have HB1' := Lib.hid (blk_put HBX2.out 2 (Value.slice q2A q2M q2C) rfl)
   have HX1' := Lib.hid (blk_far HXX2.out (p := ⟨gt, 2, none⟩) (by have := HGT.out; show W0.heap.size ≠ gt; omega) (Value.slice q2A q2M q2C))
   clear HT0 HBX0 HXX0 HT1 HBX1 HXX1 HT2 HBX2 HXX2 hHeld xf xl x2c HP1
   generalize w2.setCell ⟨gt, 2, none⟩ (Value.slice q2A q2M q2C) = WR1 at *
   have HT0 : Hid (TRw W0 WR1.drew (.slice Ga mg gc) (.slice Fa nf fc) (Value.slice q2A q2M q2C) vI vS vT g far (oO ++ [xO]) oI oS oT) := Lib.hid (HT1'.out.below (Below.refl _ _).drew)
   have HBX0 : Hid (WR1.drew.heap[gt]? = some (.cells #[.slice Ga mg gc, .slice Fa nf fc, (Value.slice q2A q2M q2C), vI, vS, vT] 46 (0, 0))) := Lib.hid HB1'.out
   have HXX0 : Hid (WR1.drew.heap[W0.heap.size]? = some (.cells #[.slice none 0 0, .slice none 0 0, .slice none 0 0, .slice none 0 0, .slice none 0 0, .slice none 0 0] 46 (0, 0))) := Lib.hid HX1'.out
   clear HT1' HB1' HX1'
   go_upto_region 7 with fail
   refine start_ (n := 10) (S := fun w' => w'.cell? ⟨w.heap.size, 0, none⟩ = some (.slice rA n rc) ∧ w'.cell? ⟨w.heap.size, 1, none⟩ = some (.slice wA m wc) ∧ w'.cell? ⟨gt, 3, none⟩ = some vI) (ds := [9]) (bA_ 10 0) (by kernel_rfl) rfl rfl ⟨(HX0.out.below HT0.out.bel).cells.1, (HX0.out.below HT0.out.bel).cells.2.1, ((blk_cell HBX0.out 3).trans rfl)⟩ (fun hHeld => ?_)
   refine p2_ 0 33 (bA_ 10 1) ?_
   refine p2_ 3 36 (bA_ 10 9) ?_
   refine p2_ 4 37 (bA_ 10 25) ?_
   refine t2_ 1 34 (bA_ 10 27) hHeld ?_ (hy := by rintro w' ⟨s0, s1, s2⟩; go_simp; with_reducible rfl)
   refine t2_ 2 35 (bA_ 10 31) hHeld ?_ (hy := by rintro w' ⟨s0, s1, s2⟩; go_simp; with_reducible rfl)
   refine o2_ 5 38 (bA_ 10 63) (fun K hK => ?_)
   refine g2_ Tryz.func49 #[.agg #[.slice rA n rc, .slice wA m wc], .int .i64 v, .int .i64 k, .bool true] ?_
   with_reducible refine (HIv.out _ HT0.out.bel).mono ?_
   rintro e w1 ⟨v1, rfl, hR, g1⟩
   refine ⟨_, rfl, ?_⟩
   have HT1 := Lib.hid (HT0.out.below g1)
   have HBX1 := Lib.hid ((g1.block _ (blk_lt HBX0.out)).trans HBX0.out)
   have HXX1 := Lib.hid ((g1.block _ (blk_lt HXX0.out)).trans HXX0.out)
   obtain ⟨A1, k1, hv1, hk1, _⟩ := Kd.R_reads hR
   subst hv1
   have HP1 : Hid (Kd.R k37 37 w1 W0.heap.size (fun k => WR1.drew.heap.size ≤ k) (.slice A1 xI.length k1) xI) := Lib.hid (Kd.R_lower (Kd.R_mono (Kd.R_bound hR) (fun k hk => hk.2.1)) HT0.out.bel.size)
   clear hR g1 hk1
   refine hK.out _ _ ⟨(HX0.out.below HT1.out.bel).cells.1, (HX0.out.below HT1.out.bel).cells.2.1, ((blk_cell HBX1.out 3).trans rfl)⟩ (fun hHeld => ?_)
   clear hK K
   refine n2_ 38 ?_
   refine o2_ 6 39 (bA_ 10 127) (fun K hK => ?_)
   refine value_ (w1 := ?_) (v := ?_) (by rfl) rfl ?_ ?_
   rotate_left 2
   ·go_simp
    constructor
    ·rfl
    ·rfl
   refine hK.out _ _ ⟨(cellAllocZ ((HX0.out.below HT1.out.bel).cells.1)), (cellAllocZ ((HX0.out.below HT1.out.bel).cells.2.1)), (cellAllocZ (((blk_cell HBX1.out 3).trans rfl)))⟩ (fun hHeld => ?_)
   clear hK K
   refine n2_ 39 ?_
   refine o2_ 7 40 (bA_ 10 255) (fun K hK => ?_)
   refine Kd.R_append_step kRR (w0 := W0) (W := w1) W0.heap.size (by rfl) (.tmp 34) (.tmp 39) 44 33 (.slice none 0 0) 24 rfl Tryz.underlying44 info33 rfl (by decide) (by omega) vI oI xI [.slice A1 xI.length k1] (fun k => (Value.slice q2A q2M q2C).ownBlock ≠ some k) (fun k => WR1.drew.heap.size ≤ k) rfl rfl ⟨_, rfl, HP1.out⟩ (fun k hk => ⟨fun e => by have := R_lt' HT0.out.rO k e; omega, fun e => by have := R_lt' HT0.out.rI k e.symm; omega⟩) (fun k hk e => by have := R_lt' HT1.out.rO k e; omega) HT1.out.rI HT1.out.bel HT1.out.bel.size (by omega) ?_
   intro q w2 hR hB hG hat
   obtain ⟨q3A, q3C, hq⟩ := Kd.R_slice hR
   generalize hqm : (oI ++ [xI]).length = q3M at hq
   subst hq
   clear hqm
   have HT2 := Lib.hid (HT1.out.appI hR hB hG hat)
   have HBX2 := Lib.hid (box_grown HBX1.out HT1.out.rI (by decide) hG)
   have HXX2 := Lib.hid (box_grown HXX1.out HT1.out.rI (by decide) hG)
   clear hR hB hG hat
   have xf : ∀ j, w2.frozen? ⟨gt, j, none⟩ = false := fun j => blk_frozen HBX2.out j
   have xl := blk_lt HBX2.out
   have x2c : w2.cell? ⟨gt, 3, none⟩ = some vI := (blk_cell HBX2.out 3).trans rfl
   refine hK.out _ _ ⟨(HX0.out.below HT2.out.bel).cells.1, (HX0.out.below HT2.out.bel).cells.2.1, ((blk_cell HBX2.out 3).trans rfl)⟩ (fun hHeld => ?_)
   clear hK K
   refine n2_ 40 ?_
   refine p2_ 8 41 (bA_ 10 511) ?_
   refine last_ (i := 9) (N := none) (bA_ 10 1023) rfl rfl (by kernel_rfl) (by decide) (fun K hK => ?_)
   refine skip_ (w1 := ?_) (by rfl) rfl ?_ ?_
   rotate_left
   ·go_simp
    rfl
   refine hK.out _ _ ?_
   clear hK K
   refine done_ (by kernel_rfl) ?_
   have HT2' := Lib.hid (HT2.out.set HBX2.out HGE.out 3 (Value.slice q3A q3M q3C))
   have HB2' := Lib.hid (blk_put HBX2.out 3 (Value.slice q3A q3M q3C) rfl)
   have HX2' := Lib.hid (blk_far HXX2.out (p := ⟨gt, 3, none⟩) (by have := HGT.out; show W0.heap.size ≠ gt; omega) (Value.slice q3A q3M q3C))
   clear HT0 HBX0 HXX0 HT1 HBX1 HXX1 HT2 HBX2 HXX2 hHeld xf xl x2c HP1
   generalize w2.setCell ⟨gt, 3, none⟩ (Value.slice q3A q3M q3C) = WR2 at *
   have HT0 : Hid (TRw W0 WR2.drew (.slice Ga mg gc) (.slice Fa nf fc) (Value.slice q2A q2M q2C) (Value.slice q3A q3M q3C) vS vT g far (oO ++ [xO]) (oI ++ [xI]) oS oT) := Lib.hid (HT2'.out.below (Below.refl _ _).drew)
   have HBX0 : Hid (WR2.drew.heap[gt]? = some (.cells #[.slice Ga mg gc, .slice Fa nf fc, (Value.slice q2A q2M q2C), (Value.slice q3A q3M q3C), vS, vT] 46 (0, 0))) := Lib.hid HB2'.out
   have HXX0 : Hid (WR2.drew.heap[W0.heap.size]? = some (.cells #[.slice none 0 0, .slice none 0 0, .slice none 0 0, .slice none 0 0, .slice none 0 0, .slice none 0 0] 46 (0, 0))) := Lib.hid HX2'.out
   clear HT2' HB2' HX2'
   go_upto_region 8 with fail
   refine start_ (n := 10) (S := fun w' => w'.cell? ⟨w.heap.size, 0, none⟩ = some (.slice rA n rc) ∧ w'.cell? ⟨w.heap.size, 1, none⟩ = some (.slice wA m wc) ∧ w'.cell? ⟨gt, 4, none⟩ = some vS) (ds := [9]) (bA_ 10 0) (by kernel_rfl) rfl rfl ⟨(HX0.out.below HT0.out.bel).cells.1, (HX0.out.below HT0.out.bel).cells.2.1, ((blk_cell HBX0.out 4).trans rfl)⟩ (fun hHeld => ?_)
   refine p2_ 0 42 (bA_ 10 1) ?_
   refine p2_ 3 45 (bA_ 10 9) ?_
   refine p2_ 4 46 (bA_ 10 25) ?_
   refine t2_ 1 43 (bA_ 10 27) hHeld ?_ (hy := by rintro w' ⟨s0, s1, s2⟩; go_simp; with_reducible rfl)
   refine t2_ 2 44 (bA_ 10 31) hHeld ?_ (hy := by rintro w' ⟨s0, s1, s2⟩; go_simp; with_reducible rfl)
   refine o2_ 5 47 (bA_ 10 63) (fun K hK => ?_)
   refine g2_ Tryz.func50 #[.agg #[.slice rA n rc, .slice wA m wc], .int .i64 v, .int .i64 k, .bool false] ?_
   with_reducible refine (HSv.out _ HT0.out.bel).mono ?_
   rintro e w1 ⟨v1, rfl, hR, g1⟩
   refine ⟨_, rfl, ?_⟩
   have HT1 := Lib.hid (HT0.out.below g1)
   have HBX1 := Lib.hid ((g1.block _ (blk_lt HBX0.out)).trans HBX0.out)
   have HXX1 := Lib.hid ((g1.block _ (blk_lt HXX0.out)).trans HXX0.out)
   obtain ⟨A1, k1, hv1, hk1, _⟩ := Kd.R_reads hR
   subst hv1
   have HP1 : Hid (Kd.R (Kd.int .i64) 3 w1 W0.heap.size (fun k => WR2.drew.heap.size ≤ k) (.slice A1 xS.length k1) xS) := Lib.hid (Kd.R_lower (Kd.R_mono (Kd.R_bound hR) (fun k hk => hk.2.1)) HT0.out.bel.size)
   clear hR g1 hk1
   refine hK.out _ _ ⟨(HX0.out.below HT1.out.bel).cells.1, (HX0.out.below HT1.out.bel).cells.2.1, ((blk_cell HBX1.out 4).trans rfl)⟩ (fun hHeld => ?_)
   clear hK K
   refine n2_ 47 ?_
   refine o2_ 6 48 (bA_ 10 127) (fun K hK => ?_)
   refine value_ (w1 := ?_) (v := ?_) (by rfl) rfl ?_ ?_
   rotate_left 2
   ·go_simp
    constructor
    ·rfl
    ·rfl
   refine hK.out _ _ ⟨(cellAllocZ ((HX0.out.below HT1.out.bel).cells.1)), (cellAllocZ ((HX0.out.below HT1.out.bel).cells.2.1)), (cellAllocZ (((blk_cell HBX1.out 4).trans rfl)))⟩ (fun hHeld => ?_)
   clear hK K
   refine n2_ 48 ?_
   refine o2_ 7 49 (bA_ 10 255) (fun K hK => ?_)
   refine Kd.R_append_step kII (w0 := W0) (W := w1) W0.heap.size (by rfl) (.tmp 43) (.tmp 48) 38 28 (.slice none 0 0) 24 rfl Tryz.underlying38 info28 rfl (by decide) (by omega) vS oS xS [.slice A1 xS.length k1] (fun k => vT.ownBlock ≠ some k) (fun k => WR2.drew.heap.size ≤ k) rfl rfl ⟨_, rfl, HP1.out⟩ (fun k hk => ⟨fun e => by have := R_lt' HT0.out.rT k e; omega, fun e => by have := R_lt' HT0.out.rS k e.symm; omega⟩) (fun k hk e => by have := R_lt' HT1.out.rT k e; omega) HT1.out.rS HT1.out.bel HT1.out.bel.size (by omega) ?_
   intro q w2 hR hB hG hat
   obtain ⟨q4A, q4C, hq⟩ := Kd.R_slice hR
   generalize hqm : (oS ++ [xS]).length = q4M at hq
   subst hq
   clear hqm
   have HT2 := Lib.hid (HT1.out.appS hR hB hG hat)
   have HBX2 := Lib.hid (box_grown HBX1.out HT1.out.rS (by decide) hG)
   have HXX2 := Lib.hid (box_grown HXX1.out HT1.out.rS (by decide) hG)
   clear hR hB hG hat
   have xf : ∀ j, w2.frozen? ⟨gt, j, none⟩ = false := fun j => blk_frozen HBX2.out j
   have xl := blk_lt HBX2.out
   have x2c : w2.cell? ⟨gt, 4, none⟩ = some vS := (blk_cell HBX2.out 4).trans rfl
   refine hK.out _ _ ⟨(HX0.out.below HT2.out.bel).cells.1, (HX0.out.below HT2.out.bel).cells.2.1, ((blk_cell HBX2.out 4).trans rfl)⟩ (fun hHeld => ?_)
   clear hK K
   refine n2_ 49 ?_
   refine p2_ 8 50 (bA_ 10 511) ?_
   refine last_ (i := 9) (N := none) (bA_ 10 1023) rfl rfl (by kernel_rfl) (by decide) (fun K hK => ?_)
   refine skip_ (w1 := ?_) (by rfl) rfl ?_ ?_
   rotate_left
   ·go_simp
    rfl
   refine hK.out _ _ ?_
   clear hK K
   refine done_ (by kernel_rfl) ?_
   have HT3' := Lib.hid (HT2.out.set HBX2.out HGE.out 4 (Value.slice q4A q4M q4C))
   have HB3' := Lib.hid (blk_put HBX2.out 4 (Value.slice q4A q4M q4C) rfl)
   have HX3' := Lib.hid (blk_far HXX2.out (p := ⟨gt, 4, none⟩) (by have := HGT.out; show W0.heap.size ≠ gt; omega) (Value.slice q4A q4M q4C))
   clear HT0 HBX0 HXX0 HT1 HBX1 HXX1 HT2 HBX2 HXX2 hHeld xf xl x2c HP1
   generalize w2.setCell ⟨gt, 4, none⟩ (Value.slice q4A q4M q4C) = WR3 at *
   have HT0 : Hid (TRw W0 WR3.drew (.slice Ga mg gc) (.slice Fa nf fc) (Value.slice q2A q2M q2C) (Value.slice q3A q3M q3C) (Value.slice q4A q4M q4C) vT g far (oO ++ [xO]) (oI ++ [xI]) (oS ++ [xS]) oT) := Lib.hid (HT3'.out.below (Below.refl _ _).drew)
   have HBX0 : Hid (WR3.drew.heap[gt]? = some (.cells #[.slice Ga mg gc, .slice Fa nf fc, (Value.slice q2A q2M q2C), (Value.slice q3A q3M q3C), (Value.slice q4A q4M q4C), vT] 46 (0, 0))) := Lib.hid HB3'.out
   have HXX0 : Hid (WR3.drew.heap[W0.heap.size]? = some (.cells #[.slice none 0 0, .slice none 0 0, .slice none 0 0, .slice none 0 0, .slice none 0 0, .slice none 0 0] 46 (0, 0))) := Lib.hid HX3'.out
   clear HT3' HB3' HX3'
   go_upto_region 9 with fail
   refine start_ (n := 10) (S := fun w' => w'.cell? ⟨w.heap.size, 0, none⟩ = some (.slice rA n rc) ∧ w'.cell? ⟨w.heap.size, 1, none⟩ = some (.slice wA m wc) ∧ w'.cell? ⟨gt, 5, none⟩ = some vT) (ds := [9]) (bA_ 10 0) (by kernel_rfl) rfl rfl ⟨(HX0.out.below HT0.out.bel).cells.1, (HX0.out.below HT0.out.bel).cells.2.1, ((blk_cell HBX0.out 5).trans rfl)⟩ (fun hHeld => ?_)
   refine p2_ 0 51 (bA_ 10 1) ?_
   refine p2_ 3 54 (bA_ 10 9) ?_
   refine p2_ 4 55 (bA_ 10 25) ?_
   refine t2_ 1 52 (bA_ 10 27) hHeld ?_ (hy := by rintro w' ⟨s0, s1, s2⟩; go_simp; with_reducible rfl)
   refine t2_ 2 53 (bA_ 10 31) hHeld ?_ (hy := by rintro w' ⟨s0, s1, s2⟩; go_simp; with_reducible rfl)
   refine o2_ 5 56 (bA_ 10 63) (fun K hK => ?_)
   refine g2_ Tryz.func50 #[.agg #[.slice rA n rc, .slice wA m wc], .int .i64 v, .int .i64 k, .bool true] ?_
   with_reducible refine (HTv.out _ HT0.out.bel).mono ?_
   rintro e w1 ⟨v1, rfl, hR, g1⟩
   refine ⟨_, rfl, ?_⟩
   have HT1 := Lib.hid (HT0.out.below g1)
   have HBX1 := Lib.hid ((g1.block _ (blk_lt HBX0.out)).trans HBX0.out)
   have HXX1 := Lib.hid ((g1.block _ (blk_lt HXX0.out)).trans HXX0.out)
   obtain ⟨A1, k1, hv1, hk1, _⟩ := Kd.R_reads hR
   subst hv1
   have HP1 : Hid (Kd.R (Kd.int .i64) 3 w1 W0.heap.size (fun k => WR3.drew.heap.size ≤ k) (.slice A1 xT.length k1) xT) := Lib.hid (Kd.R_lower (Kd.R_mono (Kd.R_bound hR) (fun k hk => hk.2.1)) HT0.out.bel.size)
   clear hR g1 hk1
   refine hK.out _ _ ⟨(HX0.out.below HT1.out.bel).cells.1, (HX0.out.below HT1.out.bel).cells.2.1, ((blk_cell HBX1.out 5).trans rfl)⟩ (fun hHeld => ?_)
   clear hK K
   refine n2_ 56 ?_
   refine o2_ 6 57 (bA_ 10 127) (fun K hK => ?_)
   refine value_ (w1 := ?_) (v := ?_) (by rfl) rfl ?_ ?_
   rotate_left 2
   ·go_simp
    constructor
    ·rfl
    ·rfl
   refine hK.out _ _ ⟨(cellAllocZ ((HX0.out.below HT1.out.bel).cells.1)), (cellAllocZ ((HX0.out.below HT1.out.bel).cells.2.1)), (cellAllocZ (((blk_cell HBX1.out 5).trans rfl)))⟩ (fun hHeld => ?_)
   clear hK K
   refine n2_ 57 ?_
   refine o2_ 7 58 (bA_ 10 255) (fun K hK => ?_)
   refine Kd.R_append_step kII (w0 := W0) (W := w1) W0.heap.size (by rfl) (.tmp 52) (.tmp 57) 38 28 (.slice none 0 0) 24 rfl Tryz.underlying38 info28 rfl (by decide) (by omega) vT oT xT [.slice A1 xT.length k1] (fun k => (Value.slice q4A q4M q4C).ownBlock ≠ some k) (fun k => WR3.drew.heap.size ≤ k) rfl rfl ⟨_, rfl, HP1.out⟩ (fun k hk => ⟨fun e => by have := R_lt' HT0.out.rS k e; omega, fun e => by have := R_lt' HT0.out.rT k e.symm; omega⟩) (fun k hk e => by have := R_lt' HT1.out.rS k e; omega) HT1.out.rT HT1.out.bel HT1.out.bel.size (by omega) ?_
   intro q w2 hR hB hG hat
   obtain ⟨q5A, q5C, hq⟩ := Kd.R_slice hR
   generalize hqm : (oT ++ [xT]).length = q5M at hq
   subst hq
   clear hqm
   have HT2 := Lib.hid (HT1.out.appT hR hB hG hat)
   have HBX2 := Lib.hid (box_grown HBX1.out HT1.out.rT (by decide) hG)
   have HXX2 := Lib.hid (box_grown HXX1.out HT1.out.rT (by decide) hG)
   clear hR hB hG hat
   have xf : ∀ j, w2.frozen? ⟨gt, j, none⟩ = false := fun j => blk_frozen HBX2.out j
   have xl := blk_lt HBX2.out
   have x2c : w2.cell? ⟨gt, 5, none⟩ = some vT := (blk_cell HBX2.out 5).trans rfl
   refine hK.out _ _ ⟨(HX0.out.below HT2.out.bel).cells.1, (HX0.out.below HT2.out.bel).cells.2.1, ((blk_cell HBX2.out 5).trans rfl)⟩ (fun hHeld => ?_)
   clear hK K
   refine n2_ 58 ?_
   refine p2_ 8 59 (bA_ 10 511) ?_
   refine last_ (i := 9) (N := none) (bA_ 10 1023) rfl rfl (by kernel_rfl) (by decide) (fun K hK => ?_)
   refine skip_ (w1 := ?_) (by rfl) rfl ?_ ?_
   rotate_left
   ·go_simp
    rfl
   refine hK.out _ _ ?_
   clear hK K
   refine done_ (by kernel_rfl) ?_
   have HT4' := Lib.hid (HT2.out.set HBX2.out HGE.out 5 (Value.slice q5A q5M q5C))
   have HB4' := Lib.hid (blk_put HBX2.out 5 (Value.slice q5A q5M q5C) rfl)
   have HX4' := Lib.hid (blk_far HXX2.out (p := ⟨gt, 5, none⟩) (by have := HGT.out; show W0.heap.size ≠ gt; omega) (Value.slice q5A q5M q5C))
   clear HT0 HBX0 HXX0 HT1 HBX1 HXX1 HT2 HBX2 HXX2 hHeld xf xl x2c HP1
   generalize w2.setCell ⟨gt, 5, none⟩ (Value.slice q5A q5M q5C) = WR4 at *
   go_wp2_with fail
   go_roundw
   case measure => simp [intOf]; omega
   case rel => exact ⟨v + 1, (Value.slice q2A q2M q2C), (Value.slice q3A q3M q3C), (Value.slice q4A q4M q4C), (Value.slice q5A q5M q5C), by go_num, by omega, Lib.hid (by rw [HSU.out.1, HSU.out.2.1, HSU.out.2.2.1, HSU.out.2.2.2]; exact HT4'.out), HB4', HX4'⟩
  ·have HVE : Hid (v = n) := Lib.hid (by omega)
   have hvl : n ≤ v := by omega
   obtain ⟨OA, OC, hvO⟩ := Kd.R_slice HT.out.rO
   generalize (rowsOf fO v).length = OM at hvO
   obtain ⟨IA, IC, hvI⟩ := Kd.R_slice HT.out.rI
   generalize (rowsOf fI v).length = IM at hvI
   obtain ⟨SA, SC, hvS⟩ := Kd.R_slice HT.out.rS
   generalize (rowsOf fS v).length = SM at hvS
   obtain ⟨TA, TC, hvT⟩ := Kd.R_slice HT.out.rT
   generalize (rowsOf fT v).length = TM at hvT
   subst hvO hvI hvS hvT
   have c0 := (blk_cell HBT5.out 0).trans rfl
   have c1 := (blk_cell HBT5.out 1).trans rfl
   have c2 := (blk_cell HBT5.out 2).trans rfl
   have c3 := (blk_cell HBT5.out 3).trans rfl
   have c4 := (blk_cell HBT5.out 4).trans rfl
   have c5 := (blk_cell HBT5.out 5).trans rfl
   have cl := blk_lt HBT5.out
   have d0 := (blk_cell HX.out 0).trans rfl
   have d1 := (blk_cell HX.out 1).trans rfl
   have d2 := (blk_cell HX.out 2).trans rfl
   have d3 := (blk_cell HX.out 3).trans rfl
   have d4 := (blk_cell HX.out 4).trans rfl
   have d5 := (blk_cell HX.out 5).trans rfl
   have dl := blk_lt HX.out
   have df : ∀ j, wr.frozen? ⟨W0.heap.size, j, none⟩ = false := fun j => blk_frozen HX.out j
   rw [HVE.out] at HT
   have HT6 := Lib.hid (HT.out.set6 HX.out (Nat.le_refl _) (.slice Ga mg gc) (.slice Fa nf fc) (.slice OA OM OC) (.slice IA IM IC) (.slice SA SM SC) (.slice TA TM TC))
   have HP6 := Lib.hid (blk_put (blk_put (blk_put (blk_put (blk_put (blk_put HX.out 0 (.slice Ga mg gc) rfl) 1 (.slice Fa nf fc) rfl) 2 (.slice OA OM OC) rfl) 3 (.slice IA IM IC) rfl) 4 (.slice SA SM SC) rfl) 5 (.slice TA TM TC) rfl)
   go_wp2_with fail
   all_goals (try rw [Exit.noGoto_ret])
   all_goals (refine bodyPost_ret (results_cell_row rfl _ _ W0.heap.size 46 #[.slice Ga mg gc, .slice Fa nf fc, .slice OA OM OC, .slice IA IM IC, .slice SA SM SC, .slice TA TM TC] (0, 0) _ rfl HP6.out Tryz.underlying46 rfl (by kernel_rfl)) rfl ?_)
   all_goals exact ⟨_, rfl, by rw [HBT.out]; exact tabR_lower HT6.out.tab HX0.out.bel.size, HLO.out _ HT6.out.bel⟩
end Go.Proofs.YtfkejflmhidnaaaGreat.PAll
