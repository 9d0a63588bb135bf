import Derived.Test.YtfkejflmhidnaaaQTlB
set_option linter.all false
namespace Go.Proofs.Ytfkejflmhidnaaa.PAll
open Go.RowKit Go.Proofs.YtfkejflmhidnaaaW.PrintWords Go.Proofs.YtfkejflmhidnaaaW.PrintLast Go.Proofs.YtfkejflmhidnaaaW.PrintMore
open Hp hiding Good
theorem drawn0_below {w w' : World} (h : Drawn0 w w') : Below w.heap.size w w' := by
  obtain ⟨⟨j, rfl⟩⟩ := h
  exact pw_below_drewN (Below.refl _ _) j
theorem same17 (W : World) (l : List S39) (m : Nat) (hm : l.length = m) (hs : m ≤ 1000000) (A0 A1 : Option Addr) (c0 c1 : Nat) (h0 : Kd.C k39 W A0 m l) (hc0 : m ≤ c0) (h1 : Kd.C k39 W A1 m l) (hc1 : m ≤ c1) :
    Calls Try.prog 17 #[.slice A0 m c0, .slice A1 m c1] W fun r w' => r = .returned (.bool true) ∧ Below W.heap.size W w' := by
  subst hm
  refine (samePairs_walk W A0 A1 c0 c1 l l h0 hc0 h1 hc1 hs).mono ?_
  rintro r w' ⟨b, rfl, hb, hd⟩
  rw [hb.2 rfl]
  exact ⟨rfl, drawn0_below hd⟩
theorem same21 (W : World) (l : List Int) (m : Nat) (hm : l.length = m) (hs : m ≤ 1000000) (A0 A1 : Option Addr) (c0 c1 : Nat) (h0 : Kd.C (Kd.int .i64) W A0 m l) (hc0 : m ≤ c0) (h1 : Kd.C (Kd.int .i64) W A1 m l) (hc1 : m ≤ c1) :
    Calls Try.prog 21 #[.slice A0 m c0, .slice A1 m c1] W fun r w' => r = .returned (.bool true) ∧ Below W.heap.size W w' := by
  subst hm
  refine (sameInts_walk W A0 A1 c0 c1 l l h0 hc0 h1 hc1 hs).mono ?_
  rintro r w' ⟨rfl, hd⟩
  exact ⟨by simp, drawn0_below hd⟩
set_option maxRecDepth 100000 in
set_option maxHeartbeats 8000000 in
theorem tells_walk (w : World) (rA wA : Option Addr) (rc wc : Nat) (rank : List Int) (ways : List S66) (k : Int) (back : Bool) (hr : Kd.C (Kd.int .i64) w rA rank.length rank) (hw : Kd.C k66 w wA ways.length ways) :
    Calls Try.prog 4 #[.agg #[.slice rA rank.length rc, .slice wA ways.length wc], .int .i64 k, .bool back] w fun r w' => r = .returned (.bool true) ∧ Below w.heap.size w w' := by
  have HT1 := Lib.hid (HBx.new w (.slice rA rank.length rc) (.slice wA ways.length wc))
  have HFIT : Hid (∀ W, Below w.heap.size w W → Calls Try.prog 16 #[.agg #[.slice rA rank.length rc, .slice wA ways.length wc]] W fun r w' => FPost W rank.length rank ways r w') := Lib.hid (fun W g => fit_walk W rA wA rc wc rank ways (Kd.C_below hr g) (Kd.C_below hw g))
  have HNEW : Hid (∀ W, Below w.heap.size w W → VH rank.length rank ways → Calls Try.prog 9 #[.agg #[.slice rA rank.length rc, .slice wA ways.length wc]] W fun r w' => ∃ xb x, r = .returned (.pointer (some ⟨xb, 0, none⟩)) ∧ HierRep w' xb rank.length (newH rank.length rank x ways) ∧ (∀ u : Nat, u < rank.length → rd x (rd rank u) = u) ∧ Below W.heap.size W w') := Lib.hid (fun W g V => hnew_walk W rank.length rank ways V rA wA rc wc (Kd.C_below hr g) (Kd.C_below hw g))
  have HKN : Hid (∀ W, Calls Try.prog 15 #[] W fun r w' => r = .returned (.bool true) ∧ Below W.heap.size W w') := Lib.hid (fun W => known_walk W)
  have HRK := Lib.hid hr
  have HWK := Lib.hid hw
  clear hr hw
  obtain ⟨c0, c1, l0⟩ := HT1.out.cells
  generalize hn : rank.length = n at *
  have HNN := Lib.hid hn
  clear hn
  obtain ⟨len, hlen⟩ : ∃ len, ways.length = len := ⟨_, rfl⟩
  have HLE := Lib.hid hlen
  rw [hlen] at HT1 HFIT HNEW c1 ⊢
  clear hlen
  go_enter Try.func4, Try.ntmps4
  go_wp2_with fail
  generalize w.alloc (.cells #[.slice rA n rc, .slice wA len wc] 31) = W1 at *
  refine (HFIT.out W1 HT1.out.bel).mono ?_
  rintro e W2 ⟨bf, rfl, hV, g⟩
  have HT2 := Lib.hid (HT1.out.below g)
  have HV := Lib.hid hV
  clear g hV HT1 HFIT c0 c1 l0
  obtain ⟨c0, c1, l0⟩ := HT2.out.cells
  cases bf with
  | false =>
    go_wp2_with fail
    refine (HKN.out _).mono ?_
    rintro e WK ⟨rfl, gk⟩
    have HBK := Lib.hid (HT2.out.bel.trans (gk.mono HT2.out.bel.size))
    clear gk
    go_wp2_with fail
    all_goals (try rw [Exit.noGoto_ret])
    all_goals go_ret
    all_goals exact ⟨rfl, HBK.out⟩
  | true =>
    have HVH := Lib.hid (HV.out rfl)
    clear HV
    go_wp2_with fail
    refine (HNEW.out W2 HT2.out.bel HVH.out).mono ?_
    rintro e W3 ⟨xb, x, rfl, hR, hx, g⟩
    have HT3 := Lib.hid (HT2.out.below g)
    have HR3 := Lib.hid hR
    have HX := Lib.hid hx
    clear hR hx g c0 c1 l0 HNEW
    have hsm := HVH.out.small
    have HOK := Lib.hid (hok_new HVH.out x)
    have HW3 : Hid (∀ W, Below W3.heap.size W3 W → Below w.heap.size w W) := Lib.hid (fun W g => HT3.out.bel.trans (g.mono HT3.out.bel.size))
    have HC3 : Hid (∀ W, Below W3.heap.size W3 W → Kd.C (Kd.int .i64) W rA n rank) := Lib.hid (fun W g => Kd.C_below HRK.out (HW3.out W g))
    have HD3 : Hid (∀ W, Below W3.heap.size W3 W → Kd.C k66 W wA ways.length ways) := Lib.hid (fun W g => Kd.C_below HWK.out (HW3.out W g))
    have HCE : Hid (∀ W, Below W3.heap.size W3 W → W.cell? ⟨w.heap.size, 0, none⟩ = some (.slice rA n rc) ∧ W.cell? ⟨w.heap.size, 1, none⟩ = some (.slice wA len wc) ∧ w.heap.size < W.heap.size) := Lib.hid (fun W g => (HT3.out.below g).cells)
    have HRAW : Hid (∀ W, Below W3.heap.size W3 W → ∀ v : Int, Calls Try.prog 13 #[.pointer (some ⟨xb, 0, none⟩), .int .i64 v, .int .i64 k, .bool back] W fun r w' => ∃ vr, r = .returned vr ∧ Kd.R k39 39 w' W.heap.size (fun _ => True) vr (highV n (newH n rank x ways) v (lowAt n k) back) ∧ Below W.heap.size W w') := Lib.hid (fun W g v => raw_gen W xb n _ _ (HR3.out.below g) HOK.out v k back)
    have HOF : Hid (∀ W, Below W3.heap.size W3 W → ∀ v : Int, Calls Try.prog 19 #[.pointer (some ⟨xb, 0, none⟩), .int .i64 v, .int .i64 k, .bool back] W fun r w' => ∃ vr, r = .returned vr ∧ Kd.R k39 39 w' W.heap.size (fun _ => True) vr (pruneP n (newH n rank x ways) back (highV n (newH n rank x ways) v (lowAt n k) back)) ∧ Below W.heap.size W w') := Lib.hid (fun W g v => of_gen W xb n _ _ (HR3.out.below g) HOK.out v k back)
    have HSUB : Hid (∀ W, Below W3.heap.size W3 W → ∀ v : Int, Calls Try.prog 11 #[.pointer (some ⟨xb, 0, none⟩), .int .i64 v, .int .i64 k, .bool back] W fun r w' => ∃ vr, r = .returned vr ∧ Kd.R (Kd.int .i64) 3 w' W.heap.size (fun _ => True) vr ((lowV n (newH n rank x ways) v (lowAt n k) back).map (·.f0)) ∧ Below W.heap.size W w') := Lib.hid (fun W g v => sub_gen W xb n _ _ (HR3.out.below g) HOK.out v k back)
    have HRAWR : Hid (∀ W, Below W3.heap.size W3 W → ∀ v : Int, Calls Try.prog 18 #[.agg #[.slice rA n rc, .slice wA len wc], .int .i64 v, .int .i64 k, .bool back] W fun r w' => ∃ vr, r = .returned vr ∧ Kd.R k39 39 w' W.heap.size (fun _ => True) vr (highV n (newH n rank x ways) v (lowAt n k) back) ∧ Below W.heap.size W w') := Lib.hid (fun W g v => by
      have := rawR_new HVH.out (rc := rc) (wc := wc) (HC3.out W g) (HD3.out W g) x v k back
      rwa [HLE.out] at this)
    have HOFR : Hid (∀ W, Below W3.heap.size W3 W → ∀ v : Int, Calls Try.prog 20 #[.agg #[.slice rA n rc, .slice wA len wc], .int .i64 v, .int .i64 k, .bool back] W fun r w' => ∃ vr, r = .returned vr ∧ Kd.R k39 39 w' W.heap.size (fun _ => True) vr (pruneP n (newH n rank x ways) back (highV n (newH n rank x ways) v (lowAt n k) back)) ∧ Below W.heap.size W w') := Lib.hid (fun W g v => by
      have := ofR_new HVH.out (rc := rc) (wc := wc) (HC3.out W g) (HD3.out W g) x v k back
      rwa [HLE.out] at this)
    have HSUBR : Hid (∀ W, Below W3.heap.size W3 W → ∀ v : Int, Calls Try.prog 22 #[.agg #[.slice rA n rc, .slice wA len wc], .int .i64 v, .int .i64 k, .bool back] W fun r w' => ∃ vr, r = .returned vr ∧ Kd.R (Kd.int .i64) 3 w' W.heap.size (fun _ => True) vr ((lowV n (newH n rank x ways) v (lowAt n k) back).map (·.f0)) ∧ Below W.heap.size W w') := Lib.hid (fun W g v => by
      have := subR_new HVH.out (rc := rc) (wc := wc) (HC3.out W g) (HD3.out W g) x v k back
      rwa [HLE.out] at this)
    have hcl := clipP_in n k
    obtain ⟨m, hm⟩ := Int.eq_ofNat_of_zero_le hcl.1
    have hmn : m ≤ n := by omega
    have HLL : Hid ((sortP (greatL n x m)).length = m) := Lib.hid (by rw [sortP_len, greatL_len])
    have HGRT : Hid (∀ W, Below W3.heap.size W3 W → Calls Try.prog 23 #[.pointer (some ⟨xb, 0, none⟩), .int .i64 k] W fun r w' => ∃ vr, r = .returned vr ∧ Kd.R (Kd.int .i64) 3 w' W.heap.size (fun _ => True) vr (sortP (greatL n x m)) ∧ Below W.heap.size W w') := Lib.hid (fun W g => by
      have hg := great_walk W xb n _ (HR3.out.below g) k
      rw [hm] at hg
      refine hg.mono ?_
      rintro r w' ⟨vr, rfl, hO, gB⟩
      exact ⟨vr, rfl, Kd.R_of_own (by rw [HLL.out]; exact hO) (fun _ _ => trivial), gB⟩)
    have HGRTR : Hid (∀ W, Below W3.heap.size W3 W → Calls Try.prog 24 #[.agg #[.slice rA n rc, .slice wA len wc], .int .i64 k] W fun r w' => ∃ vr, r = .returned vr ∧ Kd.R (Kd.int .i64) 3 w' W.heap.size (fun _ => True) vr (sortP (greatL n x m)) ∧ Below W.heap.size W w') := Lib.hid (fun W g => by
      have hg := great14_walk W n len hsm rank rA wA rc wc HVH.out.rl (HC3.out W g) k
      have e : lowAt n k = (n : Int) - m := by unfold lowAt; rw [hm]
      rw [e, ← great_eq HVH.out x HX.out m hmn] at hg
      exact hg)
    have HL1 : Hid (∀ v : Int, (highV n (newH n rank x ways) v (lowAt n k) back).length ≤ 1000) := Lib.hid (fun v => (highV_in HOK.out hsm v (lowAt n k) back).1)
    have HL2 : Hid (∀ v : Int, (pruneP n (newH n rank x ways) back (highV n (newH n rank x ways) v (lowAt n k) back)).length ≤ 1000) := Lib.hid (fun v => Nat.le_trans (List.length_filter_le _ _) (HL1.out v))
    have HL3 : Hid (∀ v : Int, ((lowV n (newH n rank x ways) v (lowAt n k) back).map (·.f0)).length ≤ 1000) := Lib.hid (fun v => by rw [List.length_map]; exact Nat.le_trans (rowsP_len _ _ _) (by omega))
    clear hm hcl HC3 HD3 HR3 HX HOK HVH HRK HWK HNN HLE
    generalize sortP (greatL n x m) = gl at *
    have hn0 : (0 : Int) ≤ (n : Int) := Int.natCast_nonneg _
    go_wp2_with fail
    go_loopw [8] (fun v8 wr => ∃ v : Int, v8 = .int .i64 v ∧ -1 ≤ v ∧ v ≤ n + 1 ∧ Hid (Below W3.heap.size W3 wr)) (fun v8 _ => ((n : Int) + 1 - intOf v8).toNat)
    case atStart => exact ⟨-1, rfl, by omega, by omega, Lib.hid (Below.refl _ _)⟩
    case round =>
      obtain ⟨v, rfl, hv0, hv1, HBr⟩ := hrel
      obtain ⟨c0, c1, l0⟩ := HCE.out wr HBr.out
      have G0 := Lib.hid HBr.out.drew
      by_cases hvn : v ≤ (n : Int)
      · have HA1 : Hid (∀ W, Below W3.heap.size W3 W → Calls Try.prog 13 #[.pointer (some ⟨xb, 0, none⟩), .int .i64 v, .int .i64 k, .bool back] W fun r w' => ∃ vr, r = .returned vr ∧ Kd.R k39 39 w' W.heap.size (fun _ => True) vr (highV n (newH n rank x ways) v (lowAt n k) back) ∧ Below W.heap.size W w') := Lib.hid (fun W g => HRAW.out W g v)
        have HA2 : Hid (∀ W, Below W3.heap.size W3 W → Calls Try.prog 18 #[.agg #[.slice rA n rc, .slice wA len wc], .int .i64 v, .int .i64 k, .bool back] W fun r w' => ∃ vr, r = .returned vr ∧ Kd.R k39 39 w' W.heap.size (fun _ => True) vr (highV n (newH n rank x ways) v (lowAt n k) back) ∧ Below W.heap.size W w') := Lib.hid (fun W g => HRAWR.out W g v)
        have HA3 : Hid (∀ W, Below W3.heap.size W3 W → Calls Try.prog 19 #[.pointer (some ⟨xb, 0, none⟩), .int .i64 v, .int .i64 k, .bool back] W fun r w' => ∃ vr, r = .returned vr ∧ Kd.R k39 39 w' W.heap.size (fun _ => True) vr (pruneP n (newH n rank x ways) back (highV n (newH n rank x ways) v (lowAt n k) back)) ∧ Below W.heap.size W w') := Lib.hid (fun W g => HOF.out W g v)
        have HA4 : Hid (∀ W, Below W3.heap.size W3 W → Calls Try.prog 20 #[.agg #[.slice rA n rc, .slice wA len wc], .int .i64 v, .int .i64 k, .bool back] W fun r w' => ∃ vr, r = .returned vr ∧ Kd.R k39 39 w' W.heap.size (fun _ => True) vr (pruneP n (newH n rank x ways) back (highV n (newH n rank x ways) v (lowAt n k) back)) ∧ Below W.heap.size W w') := Lib.hid (fun W g => HOFR.out W g v)
        have HA5 : Hid (∀ W, Below W3.heap.size W3 W → Calls Try.prog 11 #[.pointer (some ⟨xb, 0, none⟩), .int .i64 v, .int .i64 k, .bool back] W fun r w' => ∃ vr, r = .returned vr ∧ Kd.R (Kd.int .i64) 3 w' W.heap.size (fun _ => True) vr ((lowV n (newH n rank x ways) v (lowAt n k) back).map (·.f0)) ∧ Below W.heap.size W w') := Lib.hid (fun W g => HSUB.out W g v)
        have HA6 : Hid (∀ W, Below W3.heap.size W3 W → Calls Try.prog 22 #[.agg #[.slice rA n rc, .slice wA len wc], .int .i64 v, .int .i64 k, .bool back] W fun r w' => ∃ vr, r = .returned vr ∧ Kd.R (Kd.int .i64) 3 w' W.heap.size (fun _ => True) vr ((lowV n (newH n rank x ways) v (lowAt n k) back).map (·.f0)) ∧ Below W.heap.size W w') := Lib.hid (fun W g => HSUBR.out W g v)
        have hl1 := HL1.out v
        have hl2 := HL2.out v
        have hl3 := HL3.out v
        generalize pruneP n (newH n rank x ways) back (highV n (newH n rank x ways) v (lowAt n k) back) = l2 at HA3 HA4 hl2
        generalize highV n (newH n rank x ways) v (lowAt n k) back = l1 at HA1 HA2 hl1
        generalize (lowV n (newH n rank x ways) v (lowAt n k) back).map (·.f0) = l3 at HA5 HA6 hl3
        obtain ⟨m1, hm1⟩ : ∃ m, l1.length = m := ⟨_, rfl⟩
        obtain ⟨m2, hm2⟩ : ∃ m, l2.length = m := ⟨_, rfl⟩
        obtain ⟨m3, hm3⟩ : ∃ m, l3.length = m := ⟨_, rfl⟩
        have HM1 := Lib.hid hm1
        have HM2 := Lib.hid hm2
        have HM3 := Lib.hid hm3
        rw [hm1] at hl1
        rw [hm2] at hl2
        rw [hm3] at hl3
        clear hm1 hm2 hm3
        go_upto_region 7 with fail
        refine start_ (n := 40) (S := fun w' => w'.cell? ⟨w.heap.size, 0, none⟩ = some (.slice rA n rc) ∧ w'.cell? ⟨w.heap.size, 1, none⟩ = some (.slice wA len wc)) (ds := []) #[false, false, false, false, false, false, false, false, false, false, false, false, false, false, false, false, false, false, false, false, false, false, false, false, false, false, false, false, false, false, false, false, false, false, false, false, false, false, false, false] (by kernel_rfl) rfl rfl ⟨c0, c1⟩ (fun hHeld => ?_)
        refine p_ 0 22 ?_ #[true, false, false, false, false, false, false, false, false, false, false, false, false, false, false, false, false, false, false, false, false, false, false, false, false, false, false, false, false, false, false, false, false, false, false, false, false, false, false, false] rfl rfl (by kernel_rfl) (fun _ _ _ h => h) (by rfl) ?_ ?_ ?_ ?_
        rotate_left; · intro w'; go_simp; with_reducible rfl
        rotate_left; · simp only [zN_]; rfl
        refine p_ 1 23 ?_ #[true, true, false, false, false, false, false, false, false, false, false, false, false, false, false, false, false, false, false, false, false, false, false, false, false, false, false, false, false, false, false, false, false, false, false, false, false, false, false, false] rfl rfl (by kernel_rfl) (fun _ _ _ h => h) (by rfl) ?_ ?_ ?_ ?_
        rotate_left; · intro w'; go_simp; with_reducible rfl
        rotate_left; · simp only [zN_]; rfl
        refine p_ 2 24 ?_ #[true, true, true, false, false, false, false, false, false, false, false, false, false, false, false, false, false, false, false, false, false, false, false, false, false, false, false, false, false, false, false, false, false, false, false, false, false, false, false, false] rfl rfl (by kernel_rfl) (fun _ _ _ h => h) (by rfl) ?_ ?_ ?_ ?_
        rotate_left; · intro w'; go_simp; with_reducible rfl
        rotate_left; · simp only [zN_]; rfl
        refine p_ 3 25 ?_ #[true, true, true, true, false, false, false, false, false, false, false, false, false, false, false, false, false, false, false, false, false, false, false, false, false, false, false, false, false, false, false, false, false, false, false, false, false, false, false, false] rfl rfl (by kernel_rfl) (fun _ _ _ h => h) (by rfl) ?_ ?_ ?_ ?_
        rotate_left; · intro w'; go_simp; with_reducible rfl
        rotate_left; · simp only [zN_]; rfl
        refine p_ 6 28 ?_ #[true, true, true, true, false, false, true, false, false, false, false, false, false, false, false, false, false, false, false, false, false, false, false, false, false, false, false, false, false, false, false, false, false, false, false, false, false, false, false, false] rfl rfl (by kernel_rfl) (fun _ _ _ h => h) (by rfl) ?_ ?_ ?_ ?_
        rotate_left; · intro w'; go_simp; with_reducible rfl
        rotate_left; · simp only [zN_]; rfl
        refine p_ 7 29 ?_ #[true, true, true, true, false, false, true, true, false, false, false, false, false, false, false, false, false, false, false, false, false, false, false, false, false, false, false, false, false, false, false, false, false, false, false, false, false, false, false, false] rfl rfl (by kernel_rfl) (fun _ _ _ h => h) (by rfl) ?_ ?_ ?_ ?_
        rotate_left; · intro w'; go_simp; with_reducible rfl
        rotate_left; · simp only [zN_]; rfl
        refine p_ 8 30 ?_ #[true, true, true, true, false, false, true, true, true, false, false, false, false, false, false, false, false, false, false, false, false, false, false, false, false, false, false, false, false, false, false, false, false, false, false, false, false, false, false, false] rfl rfl (by kernel_rfl) (fun _ _ _ h => h) (by rfl) ?_ ?_ ?_ ?_
        rotate_left; · intro w'; go_simp; with_reducible rfl
        rotate_left; · simp only [zN_]; rfl
        refine take_ (i := 5) (N := some 27) (v := ?_) (a' := ?_) #[true, true, true, true, false, true, true, true, true, false, false, false, false, false, false, false, false, false, false, false, false, false, false, false, false, false, false, false, false, false, false, false, false, false, false, false, false, false, false, false] rfl rfl (by kernel_rfl) (fun _ _ _ h => h) (Or.inl ⟨by rfl, ?_⟩) hHeld ?_ ?_
        rotate_left
        · rintro w' ⟨s0, s1⟩
          go_simp
          with_reducible rfl
        rotate_left; · simp only [zN_]; rfl
        refine one_ (i := 4) (N := some 26) #[true, true, true, true, true, true, true, true, true, false, false, false, false, false, false, false, false, false, false, false, false, false, false, false, false, false, false, false, false, false, false, false, false, false, false, false, false, false, false, false] rfl rfl (by kernel_rfl) (by decide) (fun K hK => ?_)
        refine goes_ Try.func13 (by kernel_rfl) rfl #[.pointer (some ⟨xb, 0, none⟩), .int .i64 v, .int .i64 k, .bool back] (by rfl) rfl rfl (by simp only [List.map_toArray, List.map_cons, List.map_nil]; rfl) ?_
        with_reducible refine (HA1.out _ G0.out).mono ?_
        rintro e a1 ⟨v1, rfl, hR, g⟩
        refine ⟨_, rfl, ?_⟩
        have G1 := Lib.hid (G0.out.trans (g.mono G0.out.size))
        obtain ⟨A1, k1, rfl, hk1, hC⟩ := Kd.R_reads hR
        rw [HM1.out] at hC hk1
        rw [HM1.out]
        have HC1 := Lib.hid hC
        clear hR hC g
        refine hK.out _ _ ⟨(HCE.out _ G1.out).1, (HCE.out _ G1.out).2.1⟩ (fun hHeld => ?_)
        clear hK K
        refine norm_ (a' := ?_) ?_ ?_
        rotate_left
        · show Act.put _ (some 26) _ = _
          simp only [zN_]
          rfl
        refine one_ (i := 9) (N := some 31) #[true, true, true, true, true, true, true, true, true, true, false, false, false, false, false, false, false, false, false, false, false, false, false, false, false, false, false, false, false, false, false, false, false, false, false, false, false, false, false, false] rfl rfl (by kernel_rfl) (by decide) (fun K hK => ?_)
        refine goes_ Try.func18 (by kernel_rfl) rfl #[.agg #[.slice rA n rc, .slice wA len wc], .int .i64 v, .int .i64 k, .bool back] (by rfl) rfl rfl (by simp only [List.map_toArray, List.map_cons, List.map_nil]; rfl) ?_
        with_reducible refine (HA2.out _ G1.out).mono ?_
        rintro e a2 ⟨v2, rfl, hR, g⟩
        refine ⟨_, rfl, ?_⟩
        have G2 := Lib.hid (G1.out.trans (g.mono G1.out.size))
        have HC1b := Lib.hid (Kd.C_below HC1.out g)
        obtain ⟨A2, k2, rfl, hk2, hC⟩ := Kd.R_reads hR
        rw [HM1.out] at hC hk2
        rw [HM1.out]
        have HC2 := Lib.hid hC
        clear hR hC g
        refine hK.out _ _ ⟨(HCE.out _ G2.out).1, (HCE.out _ G2.out).2.1⟩ (fun hHeld => ?_)
        clear hK K
        refine norm_ (a' := ?_) ?_ ?_
        rotate_left
        · show Act.put _ (some 31) _ = _
          simp only [zN_]
          rfl
        refine one_ (i := 10) (N := some 32) #[true, true, true, true, true, true, true, true, true, true, true, false, false, false, false, false, false, false, false, false, false, false, false, false, false, false, false, false, false, false, false, false, false, false, false, false, false, false, false, false] rfl rfl (by kernel_rfl) (by decide) (fun K hK => ?_)
        refine goes_ Try.func17 (by kernel_rfl) rfl #[.slice A1 m1 k1, .slice A2 m1 k2] (by rfl) rfl rfl (by simp only [List.map_toArray, List.map_cons, List.map_nil]; rfl) ?_
        with_reducible refine (same17 _ l1 m1 HM1.out (by omega) A1 A2 k1 k2 HC1b.out hk1 HC2.out hk2).mono ?_
        rintro e a3 ⟨rfl, g⟩
        refine ⟨_, rfl, ?_⟩
        have G3 := Lib.hid (G2.out.trans (g.mono G2.out.size))
        clear g
        refine hK.out _ _ ⟨(HCE.out _ G3.out).1, (HCE.out _ G3.out).2.1⟩ (fun hHeld => ?_)
        clear hK K
        refine norm_ (a' := ?_) ?_ ?_
        rotate_left
        · show Act.put _ (some 32) _ = _
          simp only [zN_]
          rfl
        refine p_ 11 33 ?_ #[true, true, true, true, true, true, true, true, true, true, true, true, false, false, false, false, false, false, false, false, false, false, false, false, false, false, false, false, false, false, false, false, false, false, false, false, false, false, false, false] rfl rfl (by kernel_rfl) (fun _ _ _ h => h) (by rfl) ?_ ?_ ?_ ?_
        rotate_left; · intro w'; go_simp; with_reducible rfl
        rotate_left; · simp only [zN_]; rfl
        refine p_ 12 34 ?_ #[true, true, true, true, true, true, true, true, true, true, true, true, true, false, false, false, false, false, false, false, false, false, false, false, false, false, false, false, false, false, false, false, false, false, false, false, false, false, false, false] rfl rfl (by kernel_rfl) (fun _ _ _ h => h) (by rfl) ?_ ?_ ?_ ?_
        rotate_left; · intro w'; go_simp; with_reducible rfl
        rotate_left; · simp only [zN_]; rfl
        refine p_ 13 35 ?_ #[true, true, true, true, true, true, true, true, true, true, true, true, true, true, false, false, false, false, false, false, false, false, false, false, false, false, false, false, false, false, false, false, false, false, false, false, false, false, false, false] rfl rfl (by kernel_rfl) (fun _ _ _ h => h) (by rfl) ?_ ?_ ?_ ?_
        rotate_left; · intro w'; go_simp; with_reducible rfl
        rotate_left; · simp only [zN_]; rfl
        refine p_ 14 36 ?_ #[true, true, true, true, true, true, true, true, true, true, true, true, true, true, true, false, false, false, false, false, false, false, false, false, false, false, false, false, false, false, false, false, false, false, false, false, false, false, false, false] rfl rfl (by kernel_rfl) (fun _ _ _ h => h) (by rfl) ?_ ?_ ?_ ?_
        rotate_left; · intro w'; go_simp; with_reducible rfl
        rotate_left; · simp only [zN_]; rfl
        refine p_ 15 37 ?_ #[true, true, true, true, true, true, true, true, true, true, true, true, true, true, true, true, false, false, false, false, false, false, false, false, false, false, false, false, false, false, false, false, false, false, false, false, false, false, false, false] rfl rfl (by kernel_rfl) (fun _ _ _ h => h) (by rfl) ?_ ?_ ?_ ?_
        rotate_left; · intro w'; go_simp; with_reducible rfl
        rotate_left; · simp only [zN_]; rfl
        refine p_ 16 38 ?_ #[true, true, true, true, true, true, true, true, true, true, true, true, true, true, true, true, true, false, false, false, false, false, false, false, false, false, false, false, false, false, false, false, false, false, false, false, false, false, false, false] rfl rfl (by kernel_rfl) (fun _ _ _ h => h) (by rfl) ?_ ?_ ?_ ?_
        rotate_left; · intro w'; go_simp; with_reducible rfl
        rotate_left; · simp only [zN_]; rfl
        refine p_ 19 41 ?_ #[true, true, true, true, true, true, true, true, true, true, true, true, true, true, true, true, true, false, false, true, false, false, false, false, false, false, false, false, false, false, false, false, false, false, false, false, false, false, false, false] rfl rfl (by kernel_rfl) (fun _ _ _ h => h) (by rfl) ?_ ?_ ?_ ?_
        rotate_left; · intro w'; go_simp; with_reducible rfl
        rotate_left; · simp only [zN_]; rfl
        refine p_ 20 42 ?_ #[true, true, true, true, true, true, true, true, true, true, true, true, true, true, true, true, true, false, false, true, true, false, false, false, false, false, false, false, false, false, false, false, false, false, false, false, false, false, false, false] rfl rfl (by kernel_rfl) (fun _ _ _ h => h) (by rfl) ?_ ?_ ?_ ?_
        rotate_left; · intro w'; go_simp; with_reducible rfl
        rotate_left; · simp only [zN_]; rfl
        refine p_ 21 43 ?_ #[true, true, true, true, true, true, true, true, true, true, true, true, true, true, true, true, true, false, false, true, true, true, false, false, false, false, false, false, false, false, false, false, false, false, false, false, false, false, false, false] rfl rfl (by kernel_rfl) (fun _ _ _ h => h) (by rfl) ?_ ?_ ?_ ?_
        rotate_left; · intro w'; go_simp; with_reducible rfl
        rotate_left; · simp only [zN_]; rfl
        refine take_ (i := 18) (N := some 40) (v := ?_) (a' := ?_) #[true, true, true, true, true, true, true, true, true, true, true, true, true, true, true, true, true, false, true, true, true, true, false, false, false, false, false, false, false, false, false, false, false, false, false, false, false, false, false, false] rfl rfl (by kernel_rfl) (fun _ _ _ h => h) (Or.inl ⟨by rfl, ?_⟩) hHeld ?_ ?_
        rotate_left
        · rintro w' ⟨s0, s1⟩
          go_simp
          with_reducible rfl
        rotate_left; · simp only [zN_]; rfl
        refine one_ (i := 17) (N := some 39) #[true, true, true, true, true, true, true, true, true, true, true, true, true, true, true, true, true, true, true, true, true, true, false, false, false, false, false, false, false, false, false, false, false, false, false, false, false, false, false, false] rfl rfl (by kernel_rfl) (by decide) (fun K hK => ?_)
        refine goes_ Try.func19 (by kernel_rfl) rfl #[.pointer (some ⟨xb, 0, none⟩), .int .i64 v, .int .i64 k, .bool back] (by rfl) rfl rfl (by simp only [List.map_toArray, List.map_cons, List.map_nil]; rfl) ?_
        with_reducible refine (HA3.out _ G3.out).mono ?_
        rintro e a4 ⟨v3, rfl, hR, g⟩
        refine ⟨_, rfl, ?_⟩
        have G4 := Lib.hid (G3.out.trans (g.mono G3.out.size))
        obtain ⟨A3, k3, rfl, hk3, hC⟩ := Kd.R_reads hR
        rw [HM2.out] at hC hk3
        rw [HM2.out]
        have HC3 := Lib.hid hC
        clear hR hC g
        refine hK.out _ _ ⟨(HCE.out _ G4.out).1, (HCE.out _ G4.out).2.1⟩ (fun hHeld => ?_)
        clear hK K
        refine norm_ (a' := ?_) ?_ ?_
        rotate_left
        · show Act.put _ (some 39) _ = _
          simp only [zN_]
          rfl
        refine one_ (i := 22) (N := some 44) #[true, true, true, true, true, true, true, true, true, true, true, true, true, true, true, true, true, true, true, true, true, true, true, false, false, false, false, false, false, false, false, false, false, false, false, false, false, false, false, false] rfl rfl (by kernel_rfl) (by decide) (fun K hK => ?_)
        refine goes_ Try.func20 (by kernel_rfl) rfl #[.agg #[.slice rA n rc, .slice wA len wc], .int .i64 v, .int .i64 k, .bool back] (by rfl) rfl rfl (by simp only [List.map_toArray, List.map_cons, List.map_nil]; rfl) ?_
        with_reducible refine (HA4.out _ G4.out).mono ?_
        rintro e a5 ⟨v4, rfl, hR, g⟩
        refine ⟨_, rfl, ?_⟩
        have G5 := Lib.hid (G4.out.trans (g.mono G4.out.size))
        have HC3b := Lib.hid (Kd.C_below HC3.out g)
        obtain ⟨A4, k4, rfl, hk4, hC⟩ := Kd.R_reads hR
        rw [HM2.out] at hC hk4
        rw [HM2.out]
        have HC4 := Lib.hid hC
        clear hR hC g
        refine hK.out _ _ ⟨(HCE.out _ G5.out).1, (HCE.out _ G5.out).2.1⟩ (fun hHeld => ?_)
        clear hK K
        refine norm_ (a' := ?_) ?_ ?_
        rotate_left
        · show Act.put _ (some 44) _ = _
          simp only [zN_]
          rfl
        refine one_ (i := 23) (N := some 45) #[true, true, true, true, true, true, true, true, true, true, true, true, true, true, true, true, true, true, true, true, true, true, true, true, false, false, false, false, false, false, false, false, false, false, false, false, false, false, false, false] rfl rfl (by kernel_rfl) (by decide) (fun K hK => ?_)
        refine goes_ Try.func17 (by kernel_rfl) rfl #[.slice A3 m2 k3, .slice A4 m2 k4] (by rfl) rfl rfl (by simp only [List.map_toArray, List.map_cons, List.map_nil]; rfl) ?_
        with_reducible refine (same17 _ l2 m2 HM2.out (by omega) A3 A4 k3 k4 HC3b.out hk3 HC4.out hk4).mono ?_
        rintro e a6 ⟨rfl, g⟩
        refine ⟨_, rfl, ?_⟩
        have G6 := Lib.hid (G5.out.trans (g.mono G5.out.size))
        clear g
        refine hK.out _ _ ⟨(HCE.out _ G6.out).1, (HCE.out _ G6.out).2.1⟩ (fun hHeld => ?_)
        clear hK K
        refine norm_ (a' := ?_) ?_ ?_
        rotate_left
        · show Act.put _ (some 45) _ = _
          simp only [zN_]
          rfl
        refine p_ 24 46 ?_ #[true, true, true, true, true, true, true, true, true, true, true, true, true, true, true, true, true, true, true, true, true, true, true, true, true, false, false, false, false, false, false, false, false, false, false, false, false, false, false, false] rfl rfl (by kernel_rfl) (fun _ _ _ h => h) (by rfl) ?_ ?_ ?_ ?_
        rotate_left; · intro w'; go_simp; with_reducible rfl
        rotate_left; · simp only [zN_]; rfl
        refine p_ 25 47 ?_ #[true, true, true, true, true, true, true, true, true, true, true, true, true, true, true, true, true, true, true, true, true, true, true, true, true, true, false, false, false, false, false, false, false, false, false, false, false, false, false, false] rfl rfl (by kernel_rfl) (fun _ _ _ h => h) (by rfl) ?_ ?_ ?_ ?_
        rotate_left; · intro w'; go_simp; with_reducible rfl
        rotate_left; · simp only [zN_]; rfl
        refine p_ 26 48 ?_ #[true, true, true, true, true, true, true, true, true, true, true, true, true, true, true, true, true, true, true, true, true, true, true, true, true, true, true, false, false, false, false, false, false, false, false, false, false, false, false, false] rfl rfl (by kernel_rfl) (fun _ _ _ h => h) (by rfl) ?_ ?_ ?_ ?_
        rotate_left; · intro w'; go_simp; with_reducible rfl
        rotate_left; · simp only [zN_]; rfl
        refine p_ 27 49 ?_ #[true, true, true, true, true, true, true, true, true, true, true, true, true, true, true, true, true, true, true, true, true, true, true, true, true, true, true, true, false, false, false, false, false, false, false, false, false, false, false, false] rfl rfl (by kernel_rfl) (fun _ _ _ h => h) (by rfl) ?_ ?_ ?_ ?_
        rotate_left; · intro w'; go_simp; with_reducible rfl
        rotate_left; · simp only [zN_]; rfl
        refine p_ 28 50 ?_ #[true, true, true, true, true, true, true, true, true, true, true, true, true, true, true, true, true, true, true, true, true, true, true, true, true, true, true, true, true, false, false, false, false, false, false, false, false, false, false, false] rfl rfl (by kernel_rfl) (fun _ _ _ h => h) (by rfl) ?_ ?_ ?_ ?_
        rotate_left; · intro w'; go_simp; with_reducible rfl
        rotate_left; · simp only [zN_]; rfl
        refine p_ 29 51 ?_ #[true, true, true, true, true, true, true, true, true, true, true, true, true, true, true, true, true, true, true, true, true, true, true, true, true, true, true, true, true, true, false, false, false, false, false, false, false, false, false, false] rfl rfl (by kernel_rfl) (fun _ _ _ h => h) (by rfl) ?_ ?_ ?_ ?_
        rotate_left; · intro w'; go_simp; with_reducible rfl
        rotate_left; · simp only [zN_]; rfl
        refine p_ 30 52 ?_ #[true, true, true, true, true, true, true, true, true, true, true, true, true, true, true, true, true, true, true, true, true, true, true, true, true, true, true, true, true, true, true, false, false, false, false, false, false, false, false, false] rfl rfl (by kernel_rfl) (fun _ _ _ h => h) (by rfl) ?_ ?_ ?_ ?_
        rotate_left; · intro w'; go_simp; with_reducible rfl
        rotate_left; · simp only [zN_]; rfl
        refine p_ 33 55 ?_ #[true, true, true, true, true, true, true, true, true, true, true, true, true, true, true, true, true, true, true, true, true, true, true, true, true, true, true, true, true, true, true, false, false, true, false, false, false, false, false, false] rfl rfl (by kernel_rfl) (fun _ _ _ h => h) (by rfl) ?_ ?_ ?_ ?_
        rotate_left; · intro w'; go_simp; with_reducible rfl
        rotate_left; · simp only [zN_]; rfl
        refine p_ 34 56 ?_ #[true, true, true, true, true, true, true, true, true, true, true, true, true, true, true, true, true, true, true, true, true, true, true, true, true, true, true, true, true, true, true, false, false, true, true, false, false, false, false, false] rfl rfl (by kernel_rfl) (fun _ _ _ h => h) (by rfl) ?_ ?_ ?_ ?_
        rotate_left; · intro w'; go_simp; with_reducible rfl
        rotate_left; · simp only [zN_]; rfl
        refine p_ 35 57 ?_ #[true, true, true, true, true, true, true, true, true, true, true, true, true, true, true, true, true, true, true, true, true, true, true, true, true, true, true, true, true, true, true, false, false, true, true, true, false, false, false, false] rfl rfl (by kernel_rfl) (fun _ _ _ h => h) (by rfl) ?_ ?_ ?_ ?_
        rotate_left; · intro w'; go_simp; with_reducible rfl
        rotate_left; · simp only [zN_]; rfl
        refine take_ (i := 32) (N := some 54) (v := ?_) (a' := ?_) #[true, true, true, true, true, true, true, true, true, true, true, true, true, true, true, true, true, true, true, true, true, true, true, true, true, true, true, true, true, true, true, false, true, true, true, true, false, false, false, false] rfl rfl (by kernel_rfl) (fun _ _ _ h => h) (Or.inl ⟨by rfl, ?_⟩) hHeld ?_ ?_
        rotate_left
        · rintro w' ⟨s0, s1⟩
          go_simp
          with_reducible rfl
        rotate_left; · simp only [zN_]; rfl
        refine one_ (i := 31) (N := some 53) #[true, true, true, true, true, true, true, true, true, true, true, true, true, true, true, true, true, true, true, true, true, true, true, true, true, true, true, true, true, true, true, true, true, true, true, true, false, false, false, false] rfl rfl (by kernel_rfl) (by decide) (fun K hK => ?_)
        refine goes_ Try.func11 (by kernel_rfl) rfl #[.pointer (some ⟨xb, 0, none⟩), .int .i64 v, .int .i64 k, .bool back] (by rfl) rfl rfl (by simp only [List.map_toArray, List.map_cons, List.map_nil]; rfl) ?_
        with_reducible refine (HA5.out _ G6.out).mono ?_
        rintro e a7 ⟨v5, rfl, hR, g⟩
        refine ⟨_, rfl, ?_⟩
        have G7 := Lib.hid (G6.out.trans (g.mono G6.out.size))
        obtain ⟨A5, k5, rfl, hk5, hC⟩ := Kd.R_reads hR
        rw [HM3.out] at hC hk5
        rw [HM3.out]
        have HC5 := Lib.hid hC
        clear hR hC g
        refine hK.out _ _ ⟨(HCE.out _ G7.out).1, (HCE.out _ G7.out).2.1⟩ (fun hHeld => ?_)
        clear hK K
        refine norm_ (a' := ?_) ?_ ?_
        rotate_left
        · show Act.put _ (some 53) _ = _
          simp only [zN_]
          rfl
        refine one_ (i := 36) (N := some 58) #[true, true, true, true, true, true, true, true, true, true, true, true, true, true, true, true, true, true, true, true, true, true, true, true, true, true, true, true, true, true, true, true, true, true, true, true, true, false, false, false] rfl rfl (by kernel_rfl) (by decide) (fun K hK => ?_)
        refine goes_ Try.func22 (by kernel_rfl) rfl #[.agg #[.slice rA n rc, .slice wA len wc], .int .i64 v, .int .i64 k, .bool back] (by rfl) rfl rfl (by simp only [List.map_toArray, List.map_cons, List.map_nil]; rfl) ?_
        with_reducible refine (HA6.out _ G7.out).mono ?_
        rintro e a8 ⟨v6, rfl, hR, g⟩
        refine ⟨_, rfl, ?_⟩
        have G8 := Lib.hid (G7.out.trans (g.mono G7.out.size))
        have HC5b := Lib.hid (Kd.C_below HC5.out g)
        obtain ⟨A6, k6, rfl, hk6, hC⟩ := Kd.R_reads hR
        rw [HM3.out] at hC hk6
        rw [HM3.out]
        have HC6 := Lib.hid hC
        clear hR hC g
        refine hK.out _ _ ⟨(HCE.out _ G8.out).1, (HCE.out _ G8.out).2.1⟩ (fun hHeld => ?_)
        clear hK K
        refine norm_ (a' := ?_) ?_ ?_
        rotate_left
        · show Act.put _ (some 58) _ = _
          simp only [zN_]
          rfl
        refine one_ (i := 37) (N := some 59) #[true, true, true, true, true, true, true, true, true, true, true, true, true, true, true, true, true, true, true, true, true, true, true, true, true, true, true, true, true, true, true, true, true, true, true, true, true, true, false, false] rfl rfl (by kernel_rfl) (by decide) (fun K hK => ?_)
        refine goes_ Try.func21 (by kernel_rfl) rfl #[.slice A5 m3 k5, .slice A6 m3 k6] (by rfl) rfl rfl (by simp only [List.map_toArray, List.map_cons, List.map_nil]; rfl) ?_
        with_reducible refine (same21 _ l3 m3 HM3.out (by omega) A5 A6 k5 k6 HC5b.out hk5 HC6.out hk6).mono ?_
        rintro e a9 ⟨rfl, g⟩
        refine ⟨_, rfl, ?_⟩
        have G9 := Lib.hid (G8.out.trans (g.mono G8.out.size))
        clear g
        refine hK.out _ _ ⟨(HCE.out _ G9.out).1, (HCE.out _ G9.out).2.1⟩ (fun hHeld => ?_)
        clear hK K
        refine norm_ (a' := ?_) ?_ ?_
        rotate_left
        · show Act.put _ (some 59) _ = _
          simp only [zN_]
          rfl
        refine p_ 38 60 ?_ #[true, true, true, true, true, true, true, true, true, true, true, true, true, true, true, true, true, true, true, true, true, true, true, true, true, true, true, true, true, true, true, true, true, true, true, true, true, true, true, false] rfl rfl (by kernel_rfl) (fun _ _ _ h => h) (by rfl) ?_ ?_ ?_ ?_
        rotate_left; · intro w'; go_simp; with_reducible rfl
        rotate_left; · simp only [zN_]; rfl
        refine p_ 39 61 ?_ #[true, true, true, true, true, true, true, true, true, true, true, true, true, true, true, true, true, true, true, true, true, true, true, true, true, true, true, true, true, true, true, true, true, true, true, true, true, true, true, true] rfl rfl (by kernel_rfl) (fun _ _ _ h => h) (by rfl) ?_ ?_ ?_ ?_
        rotate_left; · intro w'; go_simp; with_reducible rfl
        rotate_left; · simp only [zN_]; rfl
        refine done_ (by kernel_rfl) ?_
        all_goals (try go_wp2_with fail)
        go_roundw
        case measure => simp [intOf]; omega
        case rel => exact ⟨v + 1, by go_num, by omega, by omega, G9⟩
      · have e1 : decide (v ≤ (n : Int)) = false := by simpa using hvn
        obtain ⟨mg, hmg⟩ : ∃ m, gl.length = m := ⟨_, rfl⟩
        have hgl : mg ≤ 900 := by have := HLL.out; omega
        have HMG := Lib.hid hmg
        clear hmg
        go_upto_region 9 with fail
        refine start_ (n := 11) (S := fun w' => w'.cell? ⟨w.heap.size, 0, none⟩ = some (.slice rA n rc) ∧ w'.cell? ⟨w.heap.size, 1, none⟩ = some (.slice wA len wc)) (ds := []) #[false, false, false, false, false, false, false, false, false, false, false] (by kernel_rfl) rfl rfl ⟨c0, c1⟩ (fun hHeld => ?_)
        refine p_ 0 62 ?_ #[true, false, false, false, false, false, false, false, false, false, false] rfl rfl (by kernel_rfl) (fun _ _ _ h => h) (by rfl) ?_ ?_ ?_ ?_
        rotate_left; · intro w'; go_simp; with_reducible rfl
        rotate_left; · simp only [zN_]; rfl
        refine p_ 1 63 ?_ #[true, true, false, false, false, false, false, false, false, false, false] rfl rfl (by kernel_rfl) (fun _ _ _ h => h) (by rfl) ?_ ?_ ?_ ?_
        rotate_left; · intro w'; go_simp; with_reducible rfl
        rotate_left; · simp only [zN_]; rfl
        refine p_ 4 66 ?_ #[true, true, false, false, true, false, false, false, false, false, false] rfl rfl (by kernel_rfl) (fun _ _ _ h => h) (by rfl) ?_ ?_ ?_ ?_
        rotate_left; · intro w'; go_simp; with_reducible rfl
        rotate_left; · simp only [zN_]; rfl
        refine take_ (i := 3) (N := some 65) (v := ?_) (a' := ?_) #[true, true, false, true, true, false, false, false, false, false, false] rfl rfl (by kernel_rfl) (fun _ _ _ h => h) (Or.inl ⟨by rfl, ?_⟩) hHeld ?_ ?_
        rotate_left
        · rintro w' ⟨s0, s1⟩
          go_simp
          with_reducible rfl
        rotate_left; · simp only [zN_]; rfl
        refine one_ (i := 2) (N := some 64) #[true, true, true, true, true, false, false, false, false, false, false] rfl rfl (by kernel_rfl) (by decide) (fun K hK => ?_)
        refine goes_ Try.func23 (by kernel_rfl) rfl #[.pointer (some ⟨xb, 0, none⟩), .int .i64 k] (by rfl) rfl rfl (by simp only [List.map_toArray, List.map_cons, List.map_nil]; rfl) ?_
        with_reducible refine (HGRT.out _ G0.out).mono ?_
        rintro e a1 ⟨v1, rfl, hR, g⟩
        refine ⟨_, rfl, ?_⟩
        have H1 := Lib.hid (G0.out.trans (g.mono G0.out.size))
        obtain ⟨A1, k1, rfl, hk1, hC⟩ := Kd.R_reads hR
        rw [HMG.out] at hC hk1
        rw [HMG.out]
        have HC1 := Lib.hid hC
        clear hR hC g
        refine hK.out _ _ ⟨(HCE.out _ H1.out).1, (HCE.out _ H1.out).2.1⟩ (fun hHeld => ?_)
        clear hK K
        refine norm_ (a' := ?_) ?_ ?_
        rotate_left
        · show Act.put _ (some 64) _ = _
          simp only [zN_]
          rfl
        refine one_ (i := 5) (N := some 67) #[true, true, true, true, true, true, false, false, false, false, false] rfl rfl (by kernel_rfl) (by decide) (fun K hK => ?_)
        refine goes_ Try.func24 (by kernel_rfl) rfl #[.agg #[.slice rA n rc, .slice wA len wc], .int .i64 k] (by rfl) rfl rfl (by simp only [List.map_toArray, List.map_cons, List.map_nil]; rfl) ?_
        with_reducible refine (HGRTR.out _ H1.out).mono ?_
        rintro e a2 ⟨v2, rfl, hR, g⟩
        refine ⟨_, rfl, ?_⟩
        have H2 := Lib.hid (H1.out.trans (g.mono H1.out.size))
        have HC1b := Lib.hid (Kd.C_below HC1.out g)
        obtain ⟨A2, k2, rfl, hk2, hC⟩ := Kd.R_reads hR
        rw [HMG.out] at hC hk2
        rw [HMG.out]
        have HC2 := Lib.hid hC
        clear hR hC g
        refine hK.out _ _ ⟨(HCE.out _ H2.out).1, (HCE.out _ H2.out).2.1⟩ (fun hHeld => ?_)
        clear hK K
        refine norm_ (a' := ?_) ?_ ?_
        rotate_left
        · show Act.put _ (some 67) _ = _
          simp only [zN_]
          rfl
        refine one_ (i := 6) (N := some 68) #[true, true, true, true, true, true, true, false, false, false, false] rfl rfl (by kernel_rfl) (by decide) (fun K hK => ?_)
        refine goes_ Try.func21 (by kernel_rfl) rfl #[.slice A1 mg k1, .slice A2 mg k2] (by rfl) rfl rfl (by simp only [List.map_toArray, List.map_cons, List.map_nil]; rfl) ?_
        with_reducible refine (same21 _ gl mg HMG.out (by omega) A1 A2 k1 k2 HC1b.out hk1 HC2.out hk2).mono ?_
        rintro e a3 ⟨rfl, g⟩
        refine ⟨_, rfl, ?_⟩
        have H3 := Lib.hid (H2.out.trans (g.mono H2.out.size))
        clear g
        refine hK.out _ _ ⟨(HCE.out _ H3.out).1, (HCE.out _ H3.out).2.1⟩ (fun hHeld => ?_)
        clear hK K
        refine norm_ (a' := ?_) ?_ ?_
        rotate_left
        · show Act.put _ (some 68) _ = _
          simp only [zN_]
          rfl
        refine p_ 7 69 ?_ #[true, true, true, true, true, true, true, true, false, false, false] rfl rfl (by kernel_rfl) (fun _ _ _ h => h) (by rfl) ?_ ?_ ?_ ?_
        rotate_left; · intro w'; go_simp; with_reducible rfl
        rotate_left; · simp only [zN_]; rfl
        refine one_ (i := 8) (N := some 70) #[true, true, true, true, true, true, true, true, true, false, false] rfl rfl (by kernel_rfl) (by decide) (fun K hK => ?_)
        refine goes_ Try.func15 (by kernel_rfl) rfl #[] (by rfl) rfl rfl (by simp only [List.map_toArray, List.map_cons, List.map_nil]) ?_
        with_reducible refine (HKN.out _).mono ?_
        rintro e a4 ⟨rfl, g⟩
        refine ⟨_, rfl, ?_⟩
        have H4 := Lib.hid (H3.out.trans (g.mono H3.out.size))
        clear g
        refine hK.out _ _ ⟨(HCE.out _ H4.out).1, (HCE.out _ H4.out).2.1⟩ (fun hHeld => ?_)
        clear hK K
        refine norm_ (a' := ?_) ?_ ?_
        rotate_left
        · show Act.put _ (some 70) _ = _
          simp only [zN_]
          rfl
        refine p_ 9 71 ?_ #[true, true, true, true, true, true, true, true, true, true, false] rfl rfl (by kernel_rfl) (fun _ _ _ h => h) (by rfl) ?_ ?_ ?_ ?_
        rotate_left; · intro w'; go_simp; with_reducible rfl
        rotate_left; · simp only [zN_]; rfl
        refine p_ 10 6 ?_ #[true, true, true, true, true, true, true, true, true, true, true] rfl rfl (by kernel_rfl) (fun _ _ _ h => h) (by rfl) ?_ ?_ ?_ ?_
        rotate_left; · intro w'; go_simp; with_reducible rfl
        rotate_left; · simp only [zN_]; rfl
        refine done_ (by kernel_rfl) ?_
        all_goals (try go_wp2_with fail)
        all_goals go_ret
        all_goals exact ⟨rfl, HW3.out _ H4.out⟩
end Go.Proofs.Ytfkejflmhidnaaa.PAll
namespace Go.Proofs.Ytfkejflmhidnaaa.PAll
open Go.RowKit Go.Proofs.YtfkejflmhidnaaaW.PrintWords Go.Proofs.YtfkejflmhidnaaaW.PrintLast Go.Proofs.YtfkejflmhidnaaaW.PrintMore
theorem tells_walkC (w : World) (rA wA : Option Addr) (rc wc : Nat) (rank : List Int) (ways : List S66) (k : Int) (back : Bool) (hr : Kd.C (Kd.int .i64) w rA rank.length rank) (hw : Kd.C k66 w wA ways.length ways) (_hk : (Lit.int .i64 k).wf = true) :
    Calls Try.prog 4 #[.agg #[.slice rA rank.length rc, .slice wA ways.length wc], .int .i64 k, .bool back] w fun r w' => r = .returned (.bool true) ∧ Below w.heap.size w w' := tells_walk w rA wA rc wc rank ways k back hr hw
end Go.Proofs.Ytfkejflmhidnaaa.PAll
