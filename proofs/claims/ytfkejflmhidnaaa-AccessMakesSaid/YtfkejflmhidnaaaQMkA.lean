import Derived.Test.YtfkejflmhidnaaaQNwA
import Derived.Test.YtfkejflmhidnaaaQMkP
import Derived.Test.YtfkejflmhidnaaaQKnE
set_option linter.all false
namespace Go.Proofs.Ytfkejflmhidnaaa.PAll
open Go.RowKit Go.Proofs.YtfkejflmhidnaaaW.PrintWords Go.Proofs.YtfkejflmhidnaaaW.PrintLast Go.Proofs.YtfkejflmhidnaaaW.PrintMore
open Hp hiding Good
theorem tmod_natM {a : Int} (h0 : 0 ≤ a) (n : Nat) (hn : 0 < n) : ∃ v : Nat, Int.tmod a n = v ∧ v < n := by
  have h1 : Int.tmod a n < n := Int.tmod_lt_of_pos a (by omega)
  have h2 : 0 ≤ Int.tmod a n := Int.tmod_nonneg _ h0
  exact ⟨(Int.tmod a n).toNat, by omega, by omega⟩
theorem anyM_take {α : Type} (f : α → Bool) (l : List α) (j : Nat) (hj : j < l.length) : (l.take (j + 1)).any f = ((l.take j).any f || f l[j]) := by
  rw [List.take_succ_eq_append_getElem hj, List.any_append]
  simp
def condM (n : Nat) (h : HierP) (back : Bool) (z p : S39) : Bool := decide (distP n h back p.f0 z.f0 ≥ 0) && decide (p.f1 + distP n h back p.f0 z.f0 ≤ z.f1)
set_option maxRecDepth 100000 in
set_option maxHeartbeats 8000000 in
theorem makes_walk (w : World) (a0 : Int) (A1 : Option Addr) (c1 : Nat) (l1 : List S79) (hr1 : Kd.C k79 w A1 l1.length l1) (hc1 : l1.length ≤ c1) (a k : Int) (ha0 : 0 ≤ a) (ha1 : a ≤ 255) (hk0 : 0 ≤ k) (hk1 : k ≤ 255) (back : Bool) :
    Calls Try.prog 6 #[.int .i64 a0, .slice A1 l1.length c1, .int .u8 a, .int .u8 k, .bool back] w fun r w' => r = .returned (.bool true) ∧ Below w.heap.size w w' := by
  obtain ⟨n, A, hE, hok⟩ := of_ok a0 l1
  obtain ⟨kf, hkf⟩ := hE.at
  have HOF : Hid (Calls Try.prog 8 #[.int .i64 a0, .slice A1 l1.length c1] w fun e w' => ∃ Aa ca, e = .returned (.agg #[.int .i64 n, .slice Aa A.length ca]) ∧ A.length ≤ ca ∧ Kd.C k79 w' Aa A.length A ∧ Below w.heap.size w w') := Lib.hid ((postroadref07_Of.calls kf a0 A1 c1 l1 n A w hr1 hc1 hkf).mono (fun e w' ⟨v1, h1, h2, h3⟩ => by
    obtain ⟨Aa, ca, hv, hca, hC⟩ := Kd.R_reads h2
    exact ⟨Aa, ca, by rw [h1, hv], hca, hC, h3⟩))
  have HOK := Lib.hid hok
  have hn0 := hok.n0
  have hn1 := hok.n1
  obtain ⟨v, hv, hvn⟩ := tmod_natM ha0 n (by omega)
  obtain ⟨c, hc, hcn⟩ := tmod_natM hk0 (n + 1) (by omega)
  have hc' : Int.tmod k ((n : Int) + 1) = (c : Int) := by rw [← hc]; congr 1
  have HKN : Hid (∀ W, Calls Try.prog 15 #[] W fun r w' => r = .returned (.bool true) ∧ Below W.heap.size W w') := Lib.hid (fun W => known_walk W)
  clear hE hkf hok hr1 hc1
  have hwa : IntKind.i64.wrap a = a := i64w rfl (by omega) (by omega)
  have hwk : IntKind.i64.wrap k = k := i64w rfl (by omega) (by omega)
  have hwn : IntKind.i64.wrap ((n : Int) + 1) = (n : Int) + 1 := i64w rfl (by omega) (by omega)
  have hnq : (n : Int) + 1 ≠ 0 := by omega
  have hnq2 : ((n : Int) + 1 == 0) = false := by simp; omega
  have hnz : ((n : Int) == 0) = false := by simp; omega
  have hnz' : (n : Int) ≠ 0 := by omega
  have hnz2 : (n == 0) = false := by simp; omega
  go_enter Try.func6, Try.ntmps6
  go_upto_region 2 with (first | (go_at_call 8; refine HOF.out.mono ?_; rintro e W2 ⟨Aa, ca, rfl, hca, hCA, g2⟩; have HCA := Lib.hid (And.intro hca hCA); have HG2 := Lib.hid g2; clear hca hCA g2))
  have HM3 := Lib.hid (blk_new W2 (.cells #[.int .i64 n, .slice Aa A.length ca] 24))
  have HG3 : Hid (Below w.heap.size w (W2.alloc (.cells #[.int .i64 n, .slice Aa A.length ca] 24))) := Lib.hid (HG2.out.alloc HG2.out.size _)
  have HCA3 : Hid (A.length ≤ ca ∧ Kd.C k79 (W2.alloc (.cells #[.int .i64 n, .slice Aa A.length ca] 24)) Aa A.length A) := Lib.hid ⟨HCA.out.1, Kd.C_alloc HCA.out.2 _⟩
  clear HCA HG2
  generalize W2.alloc (.cells #[.int .i64 n, .slice Aa A.length ca] 24) = W3 at *
  generalize W2.heap.size = gm at *
  have m0 := (blk_cell HM3.out 0).trans rfl
  have m1 := (blk_cell HM3.out 1).trans rfl
  have ml := blk_lt HM3.out
  have HO9 := Lib.hid (of9_walk W3 n A Aa ca HCA3.out.2 HCA3.out.1 HOK.out)
  go_upto_region 3 with (first | (go_at_call 10; refine HO9.out.mono ?_; rintro e W4 ⟨vr, vw, t, rk, H, rfl, hBI, hRr, hRw, g4⟩; obtain ⟨rA, rc, hvr, hrc, hrC⟩ := Kd.R_reads hRr; obtain ⟨wA, wc, hvw, hwc', hwC⟩ := Kd.R_reads hRw; subst hvr hvw; have hrl : rk.length = n := hBI.rl; rw [hrl] at hrC hrc ⊢; have HBI := Lib.hid hBI; have HG4 := Lib.hid g4; have HNW := Lib.hid (hnew_walk W4 n rk H (hBI.vh hn1) rA wA rc wc hrC hwC); clear hBI hRr hRw g4 hrC hwC hrc hwc' hrl) | (go_at_call 9; refine HNW.out.mono ?_; rintro e W5 ⟨xb, x, rfl, hHR, hX, g5⟩; have HHR := Lib.hid hHR; have HG5 := Lib.hid g5; clear hHR hX g5))
  clear hc
  have HB5 := Lib.hid (HG3.out.trans ((HG4.out.trans (HG5.out.mono HG4.out.size)).mono HG3.out.size))
  have hm5 : W5.heap[gm]? = some (.cells #[.int .i64 n, .slice Aa A.length ca] 24 (0, 0)) := (HG5.out.block _ (blk_lt ((HG4.out.block _ (blk_lt HM3.out)).trans HM3.out))).trans ((HG4.out.block _ (blk_lt HM3.out)).trans HM3.out)
  have HM5 := Lib.hid hm5
  have HHH : Hid (∃ h : HierP, (⟨rk, x, buildB rk H n H.length true, buildB rk H n H.length false⟩ : HierP) = h ∧ HierRep W5 xb n h ∧ HOk n 1125899906842624 h ∧ Exact n (EA A) h) := Lib.hid ⟨_, rfl, HHR.out, hok_new (HBI.out.vh hn1) x, HBI.out.exact hn1 x⟩
  obtain ⟨h, _, hrep, hokh, hex⟩ := HHH.out
  have HRA : Hid (∀ W, Below W5.heap.size W5 W → Calls Try.prog 13 #[.pointer (some ⟨xb, 0, none⟩), .int .i64 v, .int .i64 c, .bool back] W fun r w' => ∃ v2, r = .returned v2 ∧ Kd.R k39 39 w' W.heap.size (fun _ => True) v2 (highP n h v (lowAt n c) back) ∧ Below W.heap.size W w') := Lib.hid (fun W g => raw_walk W xb n h _ (hrep.below g) hokh v hvn c back)
  obtain ⟨hzl, hzd⟩ := highP_in hokh (by omega) v hvn (lowAt n c) back
  have hzi : AreIn n (highP n h v (lowAt n c) back) := fun z hz => by
    obtain ⟨u, hu, e0, _⟩ := rowsP_mem hz
    exact ⟨u, hu, e0⟩
  have hzp : (highP n h v (lowAt n c) back).Pairwise (fun a b => a.f0 < b.f0) := rowsP_pair _ _ _
  have hln : (highP n h v (lowAt n c) back).length ≤ n := rowsP_len _ _ _
  have HPR : Hid (∀ W, Below W5.heap.size W5 W → ∀ (B : Nat) (v2 : Value), Kd.R k39 39 W B (fun _ => True) v2 (highP n h v (lowAt n c) back) → Calls Try.prog 25 #[.pointer (some ⟨xb, 0, none⟩), v2, .bool back] W fun r w' => ∃ vr, r = .returned vr ∧ Kd.R k39 39 w' W.heap.size (fun _ => True) vr (pruneP n h back (highP n h v (lowAt n c) back)) ∧ Below W.heap.size W w') := Lib.hid (fun W g B v2 hR => prune_walk W xb n h _ (hrep.below g) hokh back B v2 _ hR hzl hzd)
  have HFR : Hid (∀ W, Below W5.heap.size W5 W → ∀ s t : Int, Calls Try.prog 26 #[.pointer (some ⟨xb, 0, none⟩), .int .i64 s, .int .i64 t] W fun r w' => r = .returned (.int .i64 (farP n h s t)) ∧ Below W.heap.size W w') := Lib.hid (fun W g s t => far_walk W xb n h _ (hrep.below g) hokh s t)
  have HFB : Hid (∀ s t : Int, farP n h s t = -1 ∨ (0 ≤ farP n h s t ∧ farP n h s t ≤ 2305843009213693952)) := Lib.hid (fun s t => far_bound hokh (by omega) s t)
  have HMA : Hid (∀ z ∈ highP n h v (lowAt n c) back, (pruneP n h back (highP n h v (lowAt n c) back)).any (condM n h back z) = true) := Lib.hid (fun z hz => by
    obtain ⟨p, hp, d0, d1⟩ := made_all hex hokh (by omega) back _ hzi (fun z hz => (hzd z hz).1) z hz
    exact List.any_eq_true.2 ⟨p, hp, by unfold condM; simp [d0, d1]⟩)
  have hps : ∀ p ∈ pruneP n h back (highP n h v (lowAt n c) back), p ∈ highP n h v (lowAt n c) back := fun p hp => prune_sub hp
  have HPD : Hid (∀ p ∈ pruneP n h back (highP n h v (lowAt n c) back), 0 ≤ p.f1 ∧ p.f1 ≤ 2305843009213693952) := Lib.hid (fun p hp => hzd p (hps p hp))
  have HFI : Hid (∀ W (Za : Option Addr) (zc : Nat), Kd.C k39 W Za (highP n h v (lowAt n c) back).length (highP n h v (lowAt n c) back) → (highP n h v (lowAt n c) back).length ≤ zc → ∀ p ∈ pruneP n h back (highP n h v (lowAt n c) back), Calls Try.prog 27 #[.slice Za (highP n h v (lowAt n c) back).length zc, .int .i64 p.f0] W fun r w' => r = .returned (.int .i64 p.f1) ∧ Below W.heap.size W w') := Lib.hid (fun W Za zc hC hc p hp => by
    obtain ⟨kk, hkk⟩ := (find_ok _ hzp hzl p (hps p hp)).at
    exact space_Find.calls kk Za zc _ p.f0 p.f1 W hC hc hkk)
  have HNE : Hid ((highP n h v (lowAt n c) back).length = 0 ↔ (pruneP n h back (highP n h v (lowAt n c) back)).length = 0) := Lib.hid (by
    constructor
    · intro e
      have := List.length_eq_zero_iff.1 e
      rw [this]; rfl
    · intro e
      apply Classical.byContradiction
      intro hne
      cases hz : highP n h v (lowAt n c) back with
      | nil => rw [hz] at hne; exact hne rfl
      | cons z l =>
        obtain ⟨p, hp, _⟩ := made_all hex hokh (by omega) back _ hzi (fun z hz => (hzd z hz).1) z (by rw [hz]; simp)
        have := List.length_eq_zero_iff.1 e
        rw [this] at hp
        simp at hp)
  have hpl : (pruneP n h back (highP n h v (lowAt n c) back)).length ≤ 1000 := Nat.le_trans (List.length_filter_le _ _) hzl
  have HZD := Lib.hid hzd
  generalize pruneP n h back (highP n h v (lowAt n c) back) = ps at *
  generalize highP n h v (lowAt n c) back = zs at *
  clear hm5 m0 m1 ml HM3 HG3 HCA3 HG4 HG5 HHR HNW HO9 HOF HHH hrep hokh hex hzi hzp hzd hps hln
  have m0 : W5.cell? ⟨gm, 0, none⟩ = some (.int .i64 n) := (blk_cell HM5.out 0).trans rfl
  have ml := blk_lt HM5.out
  go_upto_region 4 with fail
  go_upto_region 5 with (first | (go_at_call 13; refine (HRA.out W5 (Below.refl _ _)).mono ?_; rintro e W6 ⟨vz, rfl, hR, g6⟩; have HPC := Lib.hid (HPR.out W6 g6 _ vz hR); obtain ⟨Za, zc, hvz, hzc, hZC⟩ := Kd.R_reads hR; subst hvz; have HZC := Lib.hid (And.intro hzc hZC); have HG6 := Lib.hid g6; clear hR hzc hZC g6))
  go_upto_region 6 with (first | (go_at_call 25; refine HPC.out.mono ?_; rintro e W7 ⟨vp, rfl, hR, g7⟩; obtain ⟨Pa, pc, hvp, hpc, hPC⟩ := Kd.R_reads hR; subst hvp; have HPS := Lib.hid hPC; have HZ7 := Lib.hid (And.intro HZC.out.1 (Kd.C_below HZC.out.2 g7)); have HG7 := Lib.hid (HG6.out.trans (g7.mono HG6.out.size)); clear hR hpc hPC g7))
  clear HPC HZC HG6 HRA HPR m0 ml
  obtain ⟨nz, hnz0⟩ : ∃ nz, zs.length = nz := ⟨_, rfl⟩
  obtain ⟨np, hnp0⟩ : ∃ np, ps.length = np := ⟨_, rfl⟩
  have HNZ := Lib.hid hnz0
  have HNP := Lib.hid hnp0
  have HFC : Hid (∀ W, Below W7.heap.size W7 W → ∀ p ∈ ps, Calls Try.prog 27 #[.slice Za nz zc, .int .i64 p.f0] W fun r w' => r = .returned (.int .i64 p.f1) ∧ Below W.heap.size W w') := Lib.hid (by
    rw [← hnz0]
    exact fun W g p hp => HFI.out W Za zc (Kd.C_below HZ7.out.2 g) HZ7.out.1 p hp)
  have HZC : Hid (Kd.C k39 W7 Za nz zs) := Lib.hid (by rw [← hnz0]; exact HZ7.out.2)
  rw [hnp0] at HPS hpl
  rw [hnz0] at hzl
  rw [hnz0, hnp0]
  have HNE2 : Hid (nz = 0 ↔ np = 0) := Lib.hid (by rw [← hnz0, ← hnp0]; exact HNE.out)
  clear hnz0 hnp0 HFI HZ7 HNE
  have HB7 := Lib.hid (HB5.out.trans (HG7.out.mono HB5.out.size))
  go_wp2_with fail
  go_loopw [16] (fun v16 wr => ∃ i : Nat, v16 = .int .i64 i ∧ i ≤ nz ∧ Hid (Below W7.heap.size W7 wr)) (fun v16 _ => nz - (intOf v16).toNat)
  case atStart => exact ⟨0, rfl, by omega, Lib.hid (Below.refl _ _)⟩
  case round =>
    obtain ⟨i, rfl, hi, HGi⟩ := hrel
    by_cases hlt : i < nz
    · have hi0 : (0 : Int) ≤ (i : Int) := Int.natCast_nonneg _
      have hi1 : (i : Int) < (nz : Int) := by omega
      have hzm : rd_T39 zs (i : Int) ∈ zs := by
        have e : rd_T39 zs (i : Int) = zs[i]'(by rw [HNZ.out]; exact hlt) := by simp [rd_T39, List.getD, HNZ.out, hlt]
        rw [e]; exact List.getElem_mem _
      have HANY := Lib.hid (HMA.out _ hzm)
      obtain ⟨hz0, hz1⟩ := HZD.out _ hzm
      have HZQ : Hid (∀ W, Below W7.heap.size W7 W → ∃ az : Addr, Za = some az ∧ W.cell? (az.add (i * 2)) = some (.int .i64 (rd_T39 zs (i : Int)).f0) ∧ W.cell? ⟨(az.add (i * 2)).block, (az.add (i * 2)).off + 1, none⟩ = some (.int .i64 (rd_T39 zs (i : Int)).f1)) := Lib.hid (fun W g => by
        obtain ⟨az, hAz, z0, z1⟩ := at_T39 (Kd.C_below HZC.out g) (i : Int) (by omega) (by omega)
        simp only [Int.toNat_natCast] at z0 z1
        exact ⟨az, hAz, z0, z1⟩)
      generalize rd_T39 zs (i : Int) = z at *
      obtain ⟨zv, zd⟩ := z
      simp only at hz0 hz1 HZQ
      obtain ⟨az, hAz, _, _⟩ := HZQ.out W7 (Below.refl _ _)
      subst hAz
      have HZQ2 : Hid (∀ W, Below W7.heap.size W7 W → W.cell? (az.add (i * 2)) = some (.int .i64 zv) ∧ W.cell? ⟨(az.add (i * 2)).block, (az.add (i * 2)).off + 1, none⟩ = some (.int .i64 zd)) := Lib.hid (fun W g => by
        obtain ⟨az', hA, r⟩ := HZQ.out W g
        cases hA
        exact r)
      clear HZQ hzm
      go_wp2_with fail
      go_loopw [17, 18] (fun v17 v18 wr => ∃ (m : Bool) (j : Nat), v17 = .bool m ∧ v18 = .int .i64 j ∧ j ≤ np ∧ Hid (Below W7.heap.size W7 wr) ∧ Hid (m = (ps.take j).any (condM n h back ⟨zv, zd⟩))) (fun _ v18 _ => np - (intOf v18).toNat)
      case atStart => exact ⟨false, 0, rfl, rfl, by omega, HGi, Lib.hid rfl⟩
      case round =>
        obtain ⟨m, j, rfl, rfl, hj, HGj, HM⟩ := hrel
        clear HGi
        by_cases hjt : j < np
        · have hj0 : (0 : Int) ≤ (j : Int) := Int.natCast_nonneg _
          have hj1 : (j : Int) < (np : Int) := by omega
          have hjl : j < ps.length := by rw [HNP.out]; exact hjt
          have he : rd_T39 ps (j : Int) = ps[j] := by simp [rd_T39, List.getD, hjl]
          have hpm : rd_T39 ps (j : Int) ∈ ps := by rw [he]; exact List.getElem_mem _
          have HAT : Hid ((ps.take (j + 1)).any (condM n h back ⟨zv, zd⟩) = ((ps.take j).any (condM n h back ⟨zv, zd⟩) || condM n h back ⟨zv, zd⟩ (rd_T39 ps (j : Int)))) := Lib.hid (by rw [he]; exact anyM_take _ _ j hjl)
          obtain ⟨hp0, hp1⟩ := HPD.out _ hpm
          obtain ⟨ap, hAp, _, _⟩ := at_T39 (Kd.C_below HPS.out HGj.out) (j : Int) (by omega) (by omega)
          have HPQ : Hid (∀ W, Below W7.heap.size W7 W → W.cell? (ap.add (j * 2)) = some (.int .i64 (rd_T39 ps (j : Int)).f0) ∧ W.cell? ⟨(ap.add (j * 2)).block, (ap.add (j * 2)).off + 1, none⟩ = some (.int .i64 (rd_T39 ps (j : Int)).f1)) := Lib.hid (fun W g => by
            obtain ⟨ap', hA, q0, q1⟩ := at_T39 (Kd.C_below HPS.out g) (j : Int) (by omega) (by omega)
            rw [hAp] at hA
            cases hA
            simp only [Int.toNat_natCast] at q0 q1
            exact ⟨q0, q1⟩)
          subst hAp
          have HCD : Hid (condM n h back ⟨zv, zd⟩ (rd_T39 ps (j : Int)) = (decide (distP n h back (rd_T39 ps (j : Int)).f0 zv ≥ 0) && decide ((rd_T39 ps (j : Int)).f1 + distP n h back (rd_T39 ps (j : Int)).f0 zv ≤ zd))) := Lib.hid rfl
          generalize condM n h back ⟨zv, zd⟩ (rd_T39 ps (j : Int)) = cnd at *
          generalize rd_T39 ps (j : Int) = p at *
          obtain ⟨pv, pd⟩ := p
          simp only at hp0 hp1 HPQ HCD
          have HFF : Hid (∀ W, Below W7.heap.size W7 W → ∀ s t : Int, Calls Try.prog 26 #[.pointer (some ⟨xb, 0, none⟩), .int .i64 s, .int .i64 t] W fun r w' => r = .returned (.int .i64 (farP n h s t)) ∧ Below W.heap.size W w') := Lib.hid (fun W g => HFR.out W (HG7.out.trans (g.mono HG7.out.size)))
          have HDB : Hid (distP n h back pv zv = -1 ∨ (0 ≤ distP n h back pv zv ∧ distP n h back pv zv ≤ 2305843009213693952)) := Lib.hid (by unfold distP; split <;> exact HFB.out _ _)
          have HDE : Hid (distP n h back pv zv = if back = true then farP n h zv pv else farP n h pv zv) := Lib.hid rfl
          obtain ⟨d, hd⟩ : ∃ d, distP n h back pv zv = d := ⟨_, rfl⟩
          rw [hd] at HCD HDB HDE
          clear hd he hpm
          obtain ⟨z0, z1⟩ := HZQ2.out wr HGj.out
          obtain ⟨q0, q1⟩ := HPQ.out wr HGj.out
          go_upto_region 13 with fail
          go_cut [19] from 58 to 69 (fun v19 wx => v19 = .int .i64 (farP n h pv zv) ∧ Hid (Below W7.heap.size W7 wx))
          case first =>
            refine start_ (n := 13) (S := fun w' => w'.cell? (ap.add (j * 2)) = some (.int .i64 pv) ∧ w'.cell? (az.add (i * 2)) = some (.int .i64 zv)) (ds := []) #[false, false, false, false, false, false, false, false, false, false, false, false, false] (by kernel_rfl) rfl rfl ⟨q0, z0⟩ (fun hHeld => ?_)
            refine p_ 0 58 ?_ #[true, false, false, false, false, false, false, false, false, false, false, false, false] rfl rfl (by kernel_rfl) (fun _ _ _ h => h) (by rfl) ?_ ?_ ?_ ?_
            rotate_left; · intro w'; go_simp; with_reducible rfl
            rotate_left; · simp only [zN_]; rfl
            refine p_ 1 59 ?_ #[true, true, false, false, false, false, false, false, false, false, false, false, false] rfl rfl (by kernel_rfl) (fun _ _ _ h => h) (by rfl) ?_ ?_ ?_ ?_
            rotate_left; · intro w'; go_simp; with_reducible rfl
            rotate_left; · simp only [zN_]; rfl
            refine p_ 2 60 ?_ #[true, true, true, false, false, false, false, false, false, false, false, false, false] rfl rfl (by kernel_rfl) (fun _ _ _ h => h) (by rfl) ?_ ?_ ?_ ?_
            rotate_left; · intro w'; go_simp; with_reducible rfl
            rotate_left; · simp only [zN_]; rfl
            refine p_ 3 61 ?_ #[true, true, true, true, false, false, false, false, false, false, false, false, false] rfl rfl (by kernel_rfl) (fun _ _ _ h => h) (by rfl) ?_ ?_ ?_ ?_
            rotate_left; · intro w'; go_simp; with_reducible rfl
            rotate_left; · simp only [zN_]; rfl
            refine p_ 4 62 ?_ #[true, true, true, true, true, false, false, false, false, false, false, false, false] rfl rfl (by kernel_rfl) (fun _ _ _ h => h) (by rfl) ?_ ?_ ?_ ?_
            rotate_left; · intro w'; go_simp; with_reducible rfl
            rotate_left; · simp only [zN_]; rfl
            refine p_ 6 64 ?_ #[true, true, true, true, true, false, true, false, false, false, false, false, false] rfl rfl (by kernel_rfl) (fun _ _ _ h => h) (by rfl) ?_ ?_ ?_ ?_
            rotate_left; · intro w'; go_simp; with_reducible rfl
            rotate_left; · simp only [zN_]; rfl
            refine p_ 7 65 ?_ #[true, true, true, true, true, false, true, true, false, false, false, false, false] rfl rfl (by kernel_rfl) (fun _ _ _ h => h) (by rfl) ?_ ?_ ?_ ?_
            rotate_left; · intro w'; go_simp; with_reducible rfl
            rotate_left; · simp only [zN_]; rfl
            refine p_ 8 66 ?_ #[true, true, true, true, true, false, true, true, true, false, false, false, false] rfl rfl (by kernel_rfl) (fun _ _ _ h => h) (by rfl) ?_ ?_ ?_ ?_
            rotate_left; · intro w'; go_simp; with_reducible rfl
            rotate_left; · simp only [zN_]; rfl
            refine p_ 9 67 ?_ #[true, true, true, true, true, false, true, true, true, true, false, false, false] rfl rfl (by kernel_rfl) (fun _ _ _ h => h) (by rfl) ?_ ?_ ?_ ?_
            rotate_left; · intro w'; go_simp; with_reducible rfl
            rotate_left; · simp only [zN_]; rfl
            refine take_ (i := 5) (N := some 63) (v := ?_) (a' := ?_) #[true, true, true, true, true, true, true, true, true, true, false, false, false] rfl rfl (by kernel_rfl) (fun _ _ _ h => h) (Or.inl ⟨by rfl, ?_⟩) hHeld ?_ ?_
            rotate_left
            · rintro w' ⟨s0, s1⟩
              go_simp
              with_reducible rfl
            rotate_left; · simp only [zN_]; rfl
            refine take_ (i := 10) (N := some 68) (v := ?_) (a' := ?_) #[true, true, true, true, true, true, true, true, true, true, true, false, false] rfl rfl (by kernel_rfl) (fun _ _ _ h => h) (Or.inl ⟨by rfl, ?_⟩) hHeld ?_ ?_
            rotate_left
            · rintro w' ⟨s0, s1⟩
              go_simp
              with_reducible rfl
            rotate_left; · simp only [zN_]; rfl
            refine one_ (i := 11) (N := some 69) #[true, true, true, true, true, true, true, true, true, true, true, true, false] rfl rfl (by kernel_rfl) (by decide) (fun K hK => ?_)
            refine goes_ Try.func26 (by kernel_rfl) rfl #[.pointer (some ⟨xb, 0, none⟩), .int .i64 pv, .int .i64 zv] (by rfl) rfl rfl (by simp only [List.map_toArray, List.map_cons, List.map_nil]; rfl) ?_
            with_reducible refine (HFF.out _ HGj.out.drew pv zv).mono ?_
            rintro e w3 ⟨rfl, g3⟩
            refine ⟨_, rfl, ?_⟩
            have HGX : Hid (Below W7.heap.size W7 w3) := Lib.hid (HGj.out.drew.trans (g3.mono HGj.out.drew.size))
            refine hK.out _ _ ⟨(HPQ.out _ HGX.out).1, (HZQ2.out _ HGX.out).1⟩ (fun hHeld => ?_)
            clear hK K
            refine norm_ (a' := ?_) ?_ ?_
            rotate_left
            · show Act.put _ (some 69) _ = _
              simp only [zN_]
              rfl
            refine p_ 12 19 ?_ #[true, true, true, true, true, true, true, true, true, true, true, true, true] rfl rfl (by kernel_rfl) (fun _ _ _ h => h) (by rfl) ?_ ?_ ?_ ?_
            rotate_left; · intro w'; go_simp; with_reducible rfl
            rotate_left; · simp only [zN_]; rfl
            refine done_ (by kernel_rfl) ?_
            all_goals (try go_wp2_with fail)
            all_goals go_meet
            all_goals exact ⟨rfl, HGX⟩
          case rest =>
          obtain ⟨rfl, HGK⟩ := hcut
          rename_i hK
          refine hK _ _ ?_
          refine wp_seq_k ?_
          intro K0 hK0
          clear z0 z1 q0 q1 HGj
          generalize wc = W10 at *
          obtain ⟨z0, z1⟩ := HZQ2.out W10 HGK.out
          obtain ⟨q0, q1⟩ := HPQ.out W10 HGK.out
          go_cut [19] from 70 to 82 (fun v19 wx => v19 = .int .i64 d ∧ Hid (Below W7.heap.size W7 wx))
          case first =>
            cases back with
            | false =>
              have hdv : d = farP n h pv zv := HDE.out
              subst hdv
              go_wp2_with fail
              all_goals go_meet
              all_goals exact ⟨rfl, HGK⟩
            | true =>
              have HDV : Hid (farP n h zv pv = d) := Lib.hid HDE.out.symm
              go_upto_region 15 with fail
              refine start_ (n := 13) (S := fun w' => w'.cell? (ap.add (j * 2)) = some (.int .i64 pv) ∧ w'.cell? (az.add (i * 2)) = some (.int .i64 zv)) (ds := []) #[false, false, false, false, false, false, false, false, false, false, false, false, false] (by kernel_rfl) rfl rfl ⟨q0, z0⟩ (fun hHeld => ?_)
              refine p_ 0 71 ?_ #[true, false, false, false, false, false, false, false, false, false, false, false, false] rfl rfl (by kernel_rfl) (fun _ _ _ h => h) (by rfl) ?_ ?_ ?_ ?_
              rotate_left; · intro w'; go_simp; with_reducible rfl
              rotate_left; · simp only [zN_]; rfl
              refine p_ 1 72 ?_ #[true, true, false, false, false, false, false, false, false, false, false, false, false] rfl rfl (by kernel_rfl) (fun _ _ _ h => h) (by rfl) ?_ ?_ ?_ ?_
              rotate_left; · intro w'; go_simp; with_reducible rfl
              rotate_left; · simp only [zN_]; rfl
              refine p_ 2 73 ?_ #[true, true, true, false, false, false, false, false, false, false, false, false, false] rfl rfl (by kernel_rfl) (fun _ _ _ h => h) (by rfl) ?_ ?_ ?_ ?_
              rotate_left; · intro w'; go_simp; with_reducible rfl
              rotate_left; · simp only [zN_]; rfl
              refine p_ 3 74 ?_ #[true, true, true, true, false, false, false, false, false, false, false, false, false] rfl rfl (by kernel_rfl) (fun _ _ _ h => h) (by rfl) ?_ ?_ ?_ ?_
              rotate_left; · intro w'; go_simp; with_reducible rfl
              rotate_left; · simp only [zN_]; rfl
              refine p_ 4 75 ?_ #[true, true, true, true, true, false, false, false, false, false, false, false, false] rfl rfl (by kernel_rfl) (fun _ _ _ h => h) (by rfl) ?_ ?_ ?_ ?_
              rotate_left; · intro w'; go_simp; with_reducible rfl
              rotate_left; · simp only [zN_]; rfl
              refine p_ 6 77 ?_ #[true, true, true, true, true, false, true, false, false, false, false, false, false] rfl rfl (by kernel_rfl) (fun _ _ _ h => h) (by rfl) ?_ ?_ ?_ ?_
              rotate_left; · intro w'; go_simp; with_reducible rfl
              rotate_left; · simp only [zN_]; rfl
              refine p_ 7 78 ?_ #[true, true, true, true, true, false, true, true, false, false, false, false, false] rfl rfl (by kernel_rfl) (fun _ _ _ h => h) (by rfl) ?_ ?_ ?_ ?_
              rotate_left; · intro w'; go_simp; with_reducible rfl
              rotate_left; · simp only [zN_]; rfl
              refine p_ 8 79 ?_ #[true, true, true, true, true, false, true, true, true, false, false, false, false] rfl rfl (by kernel_rfl) (fun _ _ _ h => h) (by rfl) ?_ ?_ ?_ ?_
              rotate_left; · intro w'; go_simp; with_reducible rfl
              rotate_left; · simp only [zN_]; rfl
              refine p_ 9 80 ?_ #[true, true, true, true, true, false, true, true, true, true, false, false, false] rfl rfl (by kernel_rfl) (fun _ _ _ h => h) (by rfl) ?_ ?_ ?_ ?_
              rotate_left; · intro w'; go_simp; with_reducible rfl
              rotate_left; · simp only [zN_]; rfl
              refine take_ (i := 5) (N := some 76) (v := ?_) (a' := ?_) #[true, true, true, true, true, true, true, true, true, true, false, false, false] rfl rfl (by kernel_rfl) (fun _ _ _ h => h) (Or.inl ⟨by rfl, ?_⟩) hHeld ?_ ?_
              rotate_left
              · rintro w' ⟨s0, s1⟩
                go_simp
                with_reducible rfl
              rotate_left; · simp only [zN_]; rfl
              refine take_ (i := 10) (N := some 81) (v := ?_) (a' := ?_) #[true, true, true, true, true, true, true, true, true, true, true, false, false] rfl rfl (by kernel_rfl) (fun _ _ _ h => h) (Or.inl ⟨by rfl, ?_⟩) hHeld ?_ ?_
              rotate_left
              · rintro w' ⟨s0, s1⟩
                go_simp
                with_reducible rfl
              rotate_left; · simp only [zN_]; rfl
              refine one_ (i := 11) (N := some 82) #[true, true, true, true, true, true, true, true, true, true, true, true, false] rfl rfl (by kernel_rfl) (by decide) (fun K hK => ?_)
              refine goes_ Try.func26 (by kernel_rfl) rfl #[.pointer (some ⟨xb, 0, none⟩), .int .i64 zv, .int .i64 pv] (by rfl) rfl rfl (by simp only [List.map_toArray, List.map_cons, List.map_nil]; rfl) ?_
              with_reducible refine (HFF.out _ HGK.out.drew zv pv).mono ?_
              rintro e w3 ⟨rfl, g3⟩
              refine ⟨_, rfl, ?_⟩
              have HGX : Hid (Below W7.heap.size W7 w3) := Lib.hid (HGK.out.drew.trans (g3.mono HGK.out.drew.size))
              refine hK.out _ _ ⟨(HPQ.out _ HGX.out).1, (HZQ2.out _ HGX.out).1⟩ (fun hHeld => ?_)
              clear hK K
              refine norm_ (a' := ?_) ?_ ?_
              rotate_left
              · show Act.put _ (some 82) _ = _
                simp only [zN_]
                rfl
              refine p_ 12 19 ?_ #[true, true, true, true, true, true, true, true, true, true, true, true, true] rfl rfl (by kernel_rfl) (fun _ _ _ h => h) (by rfl) ?_ ?_ ?_ ?_
              rotate_left; · intro w'; go_simp; with_reducible rfl
              rotate_left; · simp only [zN_]; rfl
              refine done_ (by kernel_rfl) ?_
              rw [HDV.out]
              all_goals (try go_wp2_with fail)
              all_goals go_meet
              all_goals exact ⟨rfl, HGX⟩
          case rest =>
          obtain ⟨rfl, HGL⟩ := hcut
          refine hK0 _ _ ?_
          clear z0 z1 q0 q1 HGK
          generalize wc = W11 at *
          obtain ⟨z0, z1⟩ := HZQ2.out W11 HGL.out
          obtain ⟨q0, q1⟩ := HPQ.out W11 HGL.out
          have hwr : IntKind.i64.wrap (pd + d) = pd + d := i64w rfl (by rcases HDB.out with h | h <;> omega) (by rcases HDB.out with h | h <;> omega)
          cases m with
          | true =>
            have HM2 : Hid (true = (ps.take (j + 1)).any (condM n h back ⟨zv, zd⟩)) := Lib.hid (by rw [HAT.out, ← HM.out]; rfl)
            go_upto_region 16 with fail
            refine start_ (n := 21) (S := fun w' => w'.cell? ⟨(ap.add (j * 2)).block, (ap.add (j * 2)).off + 1, none⟩ = some (.int .i64 pd) ∧ w'.cell? ⟨(az.add (i * 2)).block, (az.add (i * 2)).off + 1, none⟩ = some (.int .i64 zd)) (ds := []) #[false, false, false, false, false, false, false, false, false, false, false, false, false, false, false, false, false, false, false, false, false] (by kernel_rfl) rfl rfl ⟨q1, z1⟩ (fun hHeld => ?_)
            refine p_ 0 83 ?_ #[true, false, false, false, false, false, false, false, false, false, false, false, false, false, false, false, false, false, false, false, false] rfl rfl (by kernel_rfl) (fun _ _ _ h => h) (by rfl) ?_ ?_ ?_ ?_
            rotate_left; · intro w'; go_simp; with_reducible rfl
            rotate_left; · simp only [zN_]; rfl
            refine p_ 1 84 ?_ #[true, true, false, false, false, false, false, false, false, false, false, false, false, false, false, false, false, false, false, false, false] rfl rfl (by kernel_rfl) (fun _ _ _ h => h) (by rfl) ?_ ?_ ?_ ?_
            rotate_left; · intro w'; go_simp; with_reducible rfl
            rotate_left; · simp only [zN_]; rfl
            refine pu_ 2 85 #[true, true, true, false, false, false, false, false, false, false, false, false, false, false, false, false, false, false, false, false, false] rfl rfl (by kernel_rfl) (fun _ _ _ h => h) (by rfl) ?_ ?_ ?_
            rotate_left; · simp only [zN_]; rfl
            refine pu_ 3 86 #[true, true, true, true, false, false, false, false, false, false, false, false, false, false, false, false, false, false, false, false, false] rfl rfl (by kernel_rfl) (fun _ _ _ h => h) (by rfl) ?_ ?_ ?_
            rotate_left; · simp only [zN_]; rfl
            refine pu_ 4 87 #[true, true, true, true, true, false, false, false, false, false, false, false, false, false, false, false, false, false, false, false, false] rfl rfl (by kernel_rfl) (fun _ _ _ h => h) (by rfl) ?_ ?_ ?_
            rotate_left; · simp only [zN_]; rfl
            refine pu_ 5 88 #[true, true, true, true, true, true, false, false, false, false, false, false, false, false, false, false, false, false, false, false, false] rfl rfl (by kernel_rfl) (fun _ _ _ h => h) (by rfl) ?_ ?_ ?_
            rotate_left; · simp only [zN_]; rfl
            refine pu_ 6 89 #[true, true, true, true, true, true, true, false, false, false, false, false, false, false, false, false, false, false, false, false, false] rfl rfl (by kernel_rfl) (fun _ _ _ h => h) (by rfl) ?_ ?_ ?_
            rotate_left; · simp only [zN_]; rfl
            refine pu_ 7 90 #[true, true, true, true, true, true, true, true, false, false, false, false, false, false, false, false, false, false, false, false, false] rfl rfl (by kernel_rfl) (fun _ _ _ h => h) (by rfl) ?_ ?_ ?_
            rotate_left; · simp only [zN_]; rfl
            refine pu_ 8 91 #[true, true, true, true, true, true, true, true, true, false, false, false, false, false, false, false, false, false, false, false, false] rfl rfl (by kernel_rfl) (fun _ _ _ h => h) (by rfl) ?_ ?_ ?_
            rotate_left; · simp only [zN_]; rfl
            refine pu_ 9 92 #[true, true, true, true, true, true, true, true, true, true, false, false, false, false, false, false, false, false, false, false, false] rfl rfl (by kernel_rfl) (fun _ _ _ h => h) (by rfl) ?_ ?_ ?_
            rotate_left; · simp only [zN_]; rfl
            refine pu_ 10 93 #[true, true, true, true, true, true, true, true, true, true, true, false, false, false, false, false, false, false, false, false, false] rfl rfl (by kernel_rfl) (fun _ _ _ h => h) (by rfl) ?_ ?_ ?_
            rotate_left; · simp only [zN_]; rfl
            refine pu_ 11 94 #[true, true, true, true, true, true, true, true, true, true, true, true, false, false, false, false, false, false, false, false, false] rfl rfl (by kernel_rfl) (fun _ _ _ h => h) (by rfl) ?_ ?_ ?_
            rotate_left; · simp only [zN_]; rfl
            refine pu_ 12 95 #[true, true, true, true, true, true, true, true, true, true, true, true, true, false, false, false, false, false, false, false, false] rfl rfl (by kernel_rfl) (fun _ _ _ h => h) (by rfl) ?_ ?_ ?_
            rotate_left; · simp only [zN_]; rfl
            refine pu_ 13 96 #[true, true, true, true, true, true, true, true, true, true, true, true, true, true, false, false, false, false, false, false, false] rfl rfl (by kernel_rfl) (fun _ _ _ h => h) (by rfl) ?_ ?_ ?_
            rotate_left; · simp only [zN_]; rfl
            refine pu_ 14 97 #[true, true, true, true, true, true, true, true, true, true, true, true, true, true, true, false, false, false, false, false, false] rfl rfl (by kernel_rfl) (fun _ _ _ h => h) (by rfl) ?_ ?_ ?_
            rotate_left; · simp only [zN_]; rfl
            refine pu_ 15 98 #[true, true, true, true, true, true, true, true, true, true, true, true, true, true, true, true, false, false, false, false, false] rfl rfl (by kernel_rfl) (fun _ _ _ h => h) (by rfl) ?_ ?_ ?_
            rotate_left; · simp only [zN_]; rfl
            refine pu_ 16 99 #[true, true, true, true, true, true, true, true, true, true, true, true, true, true, true, true, true, false, false, false, false] rfl rfl (by kernel_rfl) (fun _ _ _ h => h) (by rfl) ?_ ?_ ?_
            rotate_left; · simp only [zN_]; rfl
            refine pu_ 17 100 #[true, true, true, true, true, true, true, true, true, true, true, true, true, true, true, true, true, true, false, false, false] rfl rfl (by kernel_rfl) (fun _ _ _ h => h) (by rfl) ?_ ?_ ?_
            rotate_left; · simp only [zN_]; rfl
            refine pu_ 18 101 #[true, true, true, true, true, true, true, true, true, true, true, true, true, true, true, true, true, true, true, false, false] rfl rfl (by kernel_rfl) (fun _ _ _ h => h) (by rfl) ?_ ?_ ?_
            rotate_left; · simp only [zN_]; rfl
            refine p_ 19 102 ?_ #[true, true, true, true, true, true, true, true, true, true, true, true, true, true, true, true, true, true, true, true, false] rfl rfl (by kernel_rfl) (fun _ _ _ h => h) (by rfl) ?_ ?_ ?_ ?_
            rotate_left; · intro w'; go_simp; with_reducible rfl
            rotate_left; · simp only [zN_]; rfl
            refine p_ 20 17 ?_ #[true, true, true, true, true, true, true, true, true, true, true, true, true, true, true, true, true, true, true, true, true] rfl rfl (by kernel_rfl) (fun _ _ _ h => h) (by rfl) ?_ ?_ ?_ ?_
            rotate_left; · intro w'; go_simp; with_reducible rfl
            rotate_left; · simp only [zN_]; rfl
            refine done_ (by kernel_rfl) ?_
            go_wp2_with fail
            go_roundw
            case measure => simp [intOf]; omega
            case rel => exact ⟨true, j + 1, rfl, by go_num, by omega, Lib.hid HGL.out.drew, HM2⟩
          | false =>
            by_cases hd0 : d ≥ 0
            · have t0 : decide (d ≥ 0) = true := by simpa using hd0
              obtain ⟨b2, hb2⟩ : ∃ b2, decide (pd + d ≤ zd) = b2 := ⟨_, rfl⟩
              have HM2 : Hid (b2 = (ps.take (j + 1)).any (condM n h back ⟨zv, zd⟩)) := Lib.hid (by rw [HAT.out, ← HM.out, HCD.out, t0, hb2]; simp)
              clear hd0
              go_upto_region 16 with fail
              refine start_ (n := 21) (S := fun w' => w'.cell? ⟨(ap.add (j * 2)).block, (ap.add (j * 2)).off + 1, none⟩ = some (.int .i64 pd) ∧ w'.cell? ⟨(az.add (i * 2)).block, (az.add (i * 2)).off + 1, none⟩ = some (.int .i64 zd)) (ds := []) #[false, false, false, false, false, false, false, false, false, false, false, false, false, false, false, false, false, false, false, false, false] (by kernel_rfl) rfl rfl ⟨q1, z1⟩ (fun hHeld => ?_)
              refine p_ 0 83 ?_ #[true, false, false, false, false, false, false, false, false, false, false, false, false, false, false, false, false, false, false, false, false] rfl rfl (by kernel_rfl) (fun _ _ _ h => h) (by rfl) ?_ ?_ ?_ ?_
              rotate_left; · intro w'; go_simp; with_reducible rfl
              rotate_left; · simp only [zN_]; rfl
              refine p_ 1 84 ?_ #[true, true, false, false, false, false, false, false, false, false, false, false, false, false, false, false, false, false, false, false, false] rfl rfl (by kernel_rfl) (fun _ _ _ h => h) (by rfl) ?_ ?_ ?_ ?_
              rotate_left; · intro w'; go_simp; with_reducible rfl
              rotate_left; · simp only [zN_]; rfl
              refine p_ 2 85 ?_ #[true, true, true, false, false, false, false, false, false, false, false, false, false, false, false, false, false, false, false, false, false] rfl rfl (by kernel_rfl) (fun _ _ _ h => h) (by rfl) ?_ ?_ ?_ ?_
              rotate_left; · intro w'; go_simp; with_reducible rfl
              rotate_left; · simp only [zN_]; rfl
              refine p_ 3 86 ?_ #[true, true, true, true, false, false, false, false, false, false, false, false, false, false, false, false, false, false, false, false, false] rfl rfl (by kernel_rfl) (fun _ _ _ h => h) (by rfl) ?_ ?_ ?_ ?_
              rotate_left; · intro w'; go_simp; with_reducible rfl
              rotate_left; · simp only [zN_]; rfl
              refine p_ 4 87 ?_ #[true, true, true, true, true, false, false, false, false, false, false, false, false, false, false, false, false, false, false, false, false] rfl rfl (by kernel_rfl) (fun _ _ _ h => h) (by rfl) ?_ ?_ ?_ ?_
              rotate_left; · intro w'; go_simp; with_reducible rfl
              rotate_left; · simp only [zN_]; rfl
              refine p_ 5 88 ?_ #[true, true, true, true, true, true, false, false, false, false, false, false, false, false, false, false, false, false, false, false, false] rfl rfl (by kernel_rfl) (fun _ _ _ h => h) (by rfl) ?_ ?_ ?_ ?_
              rotate_left; · intro w'; go_simp; with_reducible rfl
              rotate_left; · simp only [zN_]; rfl
              refine p_ 6 89 ?_ #[true, true, true, true, true, true, true, false, false, false, false, false, false, false, false, false, false, false, false, false, false] rfl rfl (by kernel_rfl) (fun _ _ _ h => h) (by rfl) ?_ ?_ ?_ ?_
              rotate_left; · intro w'; go_simp; with_reducible rfl
              rotate_left; · simp only [zN_]; rfl
              refine p_ 7 90 ?_ #[true, true, true, true, true, true, true, true, false, false, false, false, false, false, false, false, false, false, false, false, false] rfl rfl (by kernel_rfl) (fun _ _ _ h => h) (by rfl) ?_ ?_ ?_ ?_
              rotate_left; · intro w'; go_simp; with_reducible rfl
              rotate_left; · simp only [zN_]; rfl
              refine p_ 8 91 ?_ #[true, true, true, true, true, true, true, true, true, false, false, false, false, false, false, false, false, false, false, false, false] rfl rfl (by kernel_rfl) (fun _ _ _ h => h) (by rfl) ?_ ?_ ?_ ?_
              rotate_left; · intro w'; go_simp; with_reducible rfl
              rotate_left; · simp only [zN_]; rfl
              refine p_ 10 93 ?_ #[true, true, true, true, true, true, true, true, true, false, true, false, false, false, false, false, false, false, false, false, false] rfl rfl (by kernel_rfl) (fun _ _ _ h => h) (by rfl) ?_ ?_ ?_ ?_
              rotate_left; · intro w'; go_simp; with_reducible rfl
              rotate_left; · simp only [zN_]; rfl
              refine p_ 12 95 ?_ #[true, true, true, true, true, true, true, true, true, false, true, false, true, false, false, false, false, false, false, false, false] rfl rfl (by kernel_rfl) (fun _ _ _ h => h) (by rfl) ?_ ?_ ?_ ?_
              rotate_left; · intro w'; go_simp; with_reducible rfl
              rotate_left; · simp only [zN_]; rfl
              refine p_ 13 96 ?_ #[true, true, true, true, true, true, true, true, true, false, true, false, true, true, false, false, false, false, false, false, false] rfl rfl (by kernel_rfl) (fun _ _ _ h => h) (by rfl) ?_ ?_ ?_ ?_
              rotate_left; · intro w'; go_simp; with_reducible rfl
              rotate_left; · simp only [zN_]; rfl
              refine p_ 14 97 ?_ #[true, true, true, true, true, true, true, true, true, false, true, false, true, true, true, false, false, false, false, false, false] rfl rfl (by kernel_rfl) (fun _ _ _ h => h) (by rfl) ?_ ?_ ?_ ?_
              rotate_left; · intro w'; go_simp; with_reducible rfl
              rotate_left; · simp only [zN_]; rfl
              refine p_ 15 98 ?_ #[true, true, true, true, true, true, true, true, true, false, true, false, true, true, true, true, false, false, false, false, false] rfl rfl (by kernel_rfl) (fun _ _ _ h => h) (by rfl) ?_ ?_ ?_ ?_
              rotate_left; · intro w'; go_simp; with_reducible rfl
              rotate_left; · simp only [zN_]; rfl
              refine take_ (i := 9) (N := some 92) (v := ?_) (a' := ?_) #[true, true, true, true, true, true, true, true, true, true, true, false, true, true, true, true, false, false, false, false, false] rfl rfl (by kernel_rfl) (fun _ _ _ h => h) (Or.inl ⟨by rfl, ?_⟩) hHeld ?_ ?_
              rotate_left
              · rintro w' ⟨s0, s1⟩
                go_simp
                with_reducible rfl
              rotate_left; · simp only [zN_]; rfl
              refine p_ 11 94 ?_ #[true, true, true, true, true, true, true, true, true, true, true, true, true, true, true, true, false, false, false, false, false] rfl rfl (by kernel_rfl) (fun _ _ _ h => h) (by rfl) ?_ ?_ ?_ ?_
              rotate_left; · intro w'; go_simp; with_reducible rfl
              rotate_left; · simp only [zN_]; rfl
              refine take_ (i := 16) (N := some 99) (v := ?_) (a' := ?_) #[true, true, true, true, true, true, true, true, true, true, true, true, true, true, true, true, true, false, false, false, false] rfl rfl (by kernel_rfl) (fun _ _ _ h => h) (Or.inl ⟨by rfl, ?_⟩) hHeld ?_ ?_
              rotate_left
              · rintro w' ⟨s0, s1⟩
                go_simp
                with_reducible rfl
              rotate_left; · simp only [zN_]; rfl
              refine p_ 17 100 ?_ #[true, true, true, true, true, true, true, true, true, true, true, true, true, true, true, true, true, true, false, false, false] rfl rfl (by kernel_rfl) (fun _ _ _ h => h) (by rfl) ?_ ?_ ?_ ?_
              rotate_left; · intro w'; go_simp; with_reducible rfl
              rotate_left; · simp only [zN_]; rfl
              refine p_ 18 101 ?_ #[true, true, true, true, true, true, true, true, true, true, true, true, true, true, true, true, true, true, true, false, false] rfl rfl (by kernel_rfl) (fun _ _ _ h => h) (by rfl) ?_ ?_ ?_ ?_
              rotate_left; · intro w'; go_simp; with_reducible rfl
              rotate_left; · simp only [zN_]; rfl
              refine p_ 19 102 ?_ #[true, true, true, true, true, true, true, true, true, true, true, true, true, true, true, true, true, true, true, true, false] rfl rfl (by kernel_rfl) (fun _ _ _ h => h) (by rfl) ?_ ?_ ?_ ?_
              rotate_left; · intro w'; go_simp; with_reducible rfl
              rotate_left; · simp only [zN_]; rfl
              refine p_ 20 17 ?_ #[true, true, true, true, true, true, true, true, true, true, true, true, true, true, true, true, true, true, true, true, true] rfl rfl (by kernel_rfl) (fun _ _ _ h => h) (by rfl) ?_ ?_ ?_ ?_
              rotate_left; · intro w'; go_simp; with_reducible rfl
              rotate_left; · simp only [zN_]; rfl
              refine done_ (by kernel_rfl) ?_
              go_wp2_with fail
              go_roundw
              case measure => simp [intOf]; omega
              case rel => exact ⟨b2, j + 1, rfl, by go_num, by omega, Lib.hid HGL.out.drew, HM2⟩
            · have t0 : decide (d ≥ 0) = false := by simpa using hd0
              have HM2 : Hid (false = (ps.take (j + 1)).any (condM n h back ⟨zv, zd⟩)) := Lib.hid (by rw [HAT.out, ← HM.out, HCD.out, t0]; rfl)
              clear hd0
              go_upto_region 16 with fail
              refine start_ (n := 21) (S := fun w' => w'.cell? ⟨(ap.add (j * 2)).block, (ap.add (j * 2)).off + 1, none⟩ = some (.int .i64 pd) ∧ w'.cell? ⟨(az.add (i * 2)).block, (az.add (i * 2)).off + 1, none⟩ = some (.int .i64 zd)) (ds := []) #[false, false, false, false, false, false, false, false, false, false, false, false, false, false, false, false, false, false, false, false, false] (by kernel_rfl) rfl rfl ⟨q1, z1⟩ (fun hHeld => ?_)
              refine p_ 0 83 ?_ #[true, false, false, false, false, false, false, false, false, false, false, false, false, false, false, false, false, false, false, false, false] rfl rfl (by kernel_rfl) (fun _ _ _ h => h) (by rfl) ?_ ?_ ?_ ?_
              rotate_left; · intro w'; go_simp; with_reducible rfl
              rotate_left; · simp only [zN_]; rfl
              refine p_ 1 84 ?_ #[true, true, false, false, false, false, false, false, false, false, false, false, false, false, false, false, false, false, false, false, false] rfl rfl (by kernel_rfl) (fun _ _ _ h => h) (by rfl) ?_ ?_ ?_ ?_
              rotate_left; · intro w'; go_simp; with_reducible rfl
              rotate_left; · simp only [zN_]; rfl
              refine p_ 2 85 ?_ #[true, true, true, false, false, false, false, false, false, false, false, false, false, false, false, false, false, false, false, false, false] rfl rfl (by kernel_rfl) (fun _ _ _ h => h) (by rfl) ?_ ?_ ?_ ?_
              rotate_left; · intro w'; go_simp; with_reducible rfl
              rotate_left; · simp only [zN_]; rfl
              refine p_ 3 86 ?_ #[true, true, true, true, false, false, false, false, false, false, false, false, false, false, false, false, false, false, false, false, false] rfl rfl (by kernel_rfl) (fun _ _ _ h => h) (by rfl) ?_ ?_ ?_ ?_
              rotate_left; · intro w'; go_simp; with_reducible rfl
              rotate_left; · simp only [zN_]; rfl
              refine p_ 4 87 ?_ #[true, true, true, true, true, false, false, false, false, false, false, false, false, false, false, false, false, false, false, false, false] rfl rfl (by kernel_rfl) (fun _ _ _ h => h) (by rfl) ?_ ?_ ?_ ?_
              rotate_left; · intro w'; go_simp; with_reducible rfl
              rotate_left; · simp only [zN_]; rfl
              refine pu_ 5 88 #[true, true, true, true, true, true, false, false, false, false, false, false, false, false, false, false, false, false, false, false, false] rfl rfl (by kernel_rfl) (fun _ _ _ h => h) (by rfl) ?_ ?_ ?_
              rotate_left; · simp only [zN_]; rfl
              refine pu_ 6 89 #[true, true, true, true, true, true, true, false, false, false, false, false, false, false, false, false, false, false, false, false, false] rfl rfl (by kernel_rfl) (fun _ _ _ h => h) (by rfl) ?_ ?_ ?_
              rotate_left; · simp only [zN_]; rfl
              refine pu_ 7 90 #[true, true, true, true, true, true, true, true, false, false, false, false, false, false, false, false, false, false, false, false, false] rfl rfl (by kernel_rfl) (fun _ _ _ h => h) (by rfl) ?_ ?_ ?_
              rotate_left; · simp only [zN_]; rfl
              refine pu_ 8 91 #[true, true, true, true, true, true, true, true, true, false, false, false, false, false, false, false, false, false, false, false, false] rfl rfl (by kernel_rfl) (fun _ _ _ h => h) (by rfl) ?_ ?_ ?_
              rotate_left; · simp only [zN_]; rfl
              refine pu_ 9 92 #[true, true, true, true, true, true, true, true, true, true, false, false, false, false, false, false, false, false, false, false, false] rfl rfl (by kernel_rfl) (fun _ _ _ h => h) (by rfl) ?_ ?_ ?_
              rotate_left; · simp only [zN_]; rfl
              refine pu_ 10 93 #[true, true, true, true, true, true, true, true, true, true, true, false, false, false, false, false, false, false, false, false, false] rfl rfl (by kernel_rfl) (fun _ _ _ h => h) (by rfl) ?_ ?_ ?_
              rotate_left; · simp only [zN_]; rfl
              refine pu_ 11 94 #[true, true, true, true, true, true, true, true, true, true, true, true, false, false, false, false, false, false, false, false, false] rfl rfl (by kernel_rfl) (fun _ _ _ h => h) (by rfl) ?_ ?_ ?_
              rotate_left; · simp only [zN_]; rfl
              refine pu_ 12 95 #[true, true, true, true, true, true, true, true, true, true, true, true, true, false, false, false, false, false, false, false, false] rfl rfl (by kernel_rfl) (fun _ _ _ h => h) (by rfl) ?_ ?_ ?_
              rotate_left; · simp only [zN_]; rfl
              refine pu_ 13 96 #[true, true, true, true, true, true, true, true, true, true, true, true, true, true, false, false, false, false, false, false, false] rfl rfl (by kernel_rfl) (fun _ _ _ h => h) (by rfl) ?_ ?_ ?_
              rotate_left; · simp only [zN_]; rfl
              refine pu_ 14 97 #[true, true, true, true, true, true, true, true, true, true, true, true, true, true, true, false, false, false, false, false, false] rfl rfl (by kernel_rfl) (fun _ _ _ h => h) (by rfl) ?_ ?_ ?_
              rotate_left; · simp only [zN_]; rfl
              refine pu_ 15 98 #[true, true, true, true, true, true, true, true, true, true, true, true, true, true, true, true, false, false, false, false, false] rfl rfl (by kernel_rfl) (fun _ _ _ h => h) (by rfl) ?_ ?_ ?_
              rotate_left; · simp only [zN_]; rfl
              refine pu_ 16 99 #[true, true, true, true, true, true, true, true, true, true, true, true, true, true, true, true, true, false, false, false, false] rfl rfl (by kernel_rfl) (fun _ _ _ h => h) (by rfl) ?_ ?_ ?_
              rotate_left; · simp only [zN_]; rfl
              refine pu_ 17 100 #[true, true, true, true, true, true, true, true, true, true, true, true, true, true, true, true, true, true, false, false, false] rfl rfl (by kernel_rfl) (fun _ _ _ h => h) (by rfl) ?_ ?_ ?_
              rotate_left; · simp only [zN_]; rfl
              refine p_ 18 101 ?_ #[true, true, true, true, true, true, true, true, true, true, true, true, true, true, true, true, true, true, true, false, false] rfl rfl (by kernel_rfl) (fun _ _ _ h => h) (by rfl) ?_ ?_ ?_ ?_
              rotate_left; · intro w'; go_simp; with_reducible rfl
              rotate_left; · simp only [zN_]; rfl
              refine p_ 19 102 ?_ #[true, true, true, true, true, true, true, true, true, true, true, true, true, true, true, true, true, true, true, true, false] rfl rfl (by kernel_rfl) (fun _ _ _ h => h) (by rfl) ?_ ?_ ?_ ?_
              rotate_left; · intro w'; go_simp; with_reducible rfl
              rotate_left; · simp only [zN_]; rfl
              refine p_ 20 17 ?_ #[true, true, true, true, true, true, true, true, true, true, true, true, true, true, true, true, true, true, true, true, true] rfl rfl (by kernel_rfl) (fun _ _ _ h => h) (by rfl) ?_ ?_ ?_ ?_
              rotate_left; · intro w'; go_simp; with_reducible rfl
              rotate_left; · simp only [zN_]; rfl
              refine done_ (by kernel_rfl) ?_
              go_wp2_with fail
              go_roundw
              case measure => simp [intOf]; omega
              case rel => exact ⟨false, j + 1, rfl, by go_num, by omega, Lib.hid HGL.out.drew, HM2⟩
        · have hjl : np ≤ j := by omega
          have hm : m = true := by rw [HM.out, List.take_of_length_le (by rw [HNP.out]; exact hjl)]; exact HANY.out
          subst hm
          go_wp2_with fail
          go_roundw
          case measure => simp [intOf]; omega
          case rel => exact ⟨i + 1, by go_num, by omega, HGj⟩
    · have hil : nz ≤ i := by omega
      go_wp2_with fail
      go_loopw [20] (fun v20 wr => ∃ j : Nat, v20 = .int .i64 j ∧ j ≤ np ∧ Hid (Below W7.heap.size W7 wr)) (fun v20 _ => np - (intOf v20).toNat)
      case atStart => exact ⟨0, rfl, by omega, HGi⟩
      case round =>
        obtain ⟨j, rfl, hj, HGj⟩ := hrel
        clear HGi
        by_cases hjt : j < np
        · have hj0 : (0 : Int) ≤ (j : Int) := Int.natCast_nonneg _
          have hj1 : (j : Int) < (np : Int) := by omega
          have hjl : j < ps.length := by rw [HNP.out]; exact hjt
          have hpm : rd_T39 ps (j : Int) ∈ ps := by
            have he : rd_T39 ps (j : Int) = ps[j] := by simp [rd_T39, List.getD, hjl]
            rw [he]; exact List.getElem_mem _
          obtain ⟨ap, hAp, _, _⟩ := at_T39 (Kd.C_below HPS.out HGj.out) (j : Int) (by omega) (by omega)
          have HPQ : Hid (∀ W, Below W7.heap.size W7 W → W.cell? (ap.add (j * 2)) = some (.int .i64 (rd_T39 ps (j : Int)).f0) ∧ W.cell? ⟨(ap.add (j * 2)).block, (ap.add (j * 2)).off + 1, none⟩ = some (.int .i64 (rd_T39 ps (j : Int)).f1)) := Lib.hid (fun W g => by
            obtain ⟨ap', hA, q0, q1⟩ := at_T39 (Kd.C_below HPS.out g) (j : Int) (by omega) (by omega)
            rw [hAp] at hA
            cases hA
            simp only [Int.toNat_natCast] at q0 q1
            exact ⟨q0, q1⟩)
          subst hAp
          have HFP := Lib.hid (fun W (g : Below W7.heap.size W7 W) => HFC.out W g _ hpm)
          generalize rd_T39 ps (j : Int) = p at *
          obtain ⟨pv, pd⟩ := p
          simp only at HPQ HFP
          obtain ⟨q0, q1⟩ := HPQ.out wr HGj.out
          have t0 : (pd != pd) = false := by simp
          have t1 : (pd == pd) = true := by simp
          clear hpm
          go_upto_region 22 with fail
          refine start_ (n := 13) (S := fun w' => w'.cell? (ap.add (j * 2)) = some (.int .i64 pv) ∧ w'.cell? ⟨(ap.add (j * 2)).block, (ap.add (j * 2)).off + 1, none⟩ = some (.int .i64 pd)) (ds := []) #[false, false, false, false, false, false, false, false, false, false, false, false, false] (by kernel_rfl) rfl rfl ⟨q0, q1⟩ (fun hHeld => ?_)
          refine p_ 0 111 ?_ #[true, false, false, false, false, false, false, false, false, false, false, false, false] rfl rfl (by kernel_rfl) (fun _ _ _ h => h) (by rfl) ?_ ?_ ?_ ?_
          rotate_left; · intro w'; go_simp; with_reducible rfl
          rotate_left; · simp only [zN_]; rfl
          refine p_ 1 112 ?_ #[true, true, false, false, false, false, false, false, false, false, false, false, false] rfl rfl (by kernel_rfl) (fun _ _ _ h => h) (by rfl) ?_ ?_ ?_ ?_
          rotate_left; · intro w'; go_simp; with_reducible rfl
          rotate_left; · simp only [zN_]; rfl
          refine p_ 2 113 ?_ #[true, true, true, false, false, false, false, false, false, false, false, false, false] rfl rfl (by kernel_rfl) (fun _ _ _ h => h) (by rfl) ?_ ?_ ?_ ?_
          rotate_left; · intro w'; go_simp; with_reducible rfl
          rotate_left; · simp only [zN_]; rfl
          refine p_ 3 114 ?_ #[true, true, true, true, false, false, false, false, false, false, false, false, false] rfl rfl (by kernel_rfl) (fun _ _ _ h => h) (by rfl) ?_ ?_ ?_ ?_
          rotate_left; · intro w'; go_simp; with_reducible rfl
          rotate_left; · simp only [zN_]; rfl
          refine p_ 4 115 ?_ #[true, true, true, true, true, false, false, false, false, false, false, false, false] rfl rfl (by kernel_rfl) (fun _ _ _ h => h) (by rfl) ?_ ?_ ?_ ?_
          rotate_left; · intro w'; go_simp; with_reducible rfl
          rotate_left; · simp only [zN_]; rfl
          refine p_ 7 118 ?_ #[true, true, true, true, true, false, false, true, false, false, false, false, false] rfl rfl (by kernel_rfl) (fun _ _ _ h => h) (by rfl) ?_ ?_ ?_ ?_
          rotate_left; · intro w'; go_simp; with_reducible rfl
          rotate_left; · simp only [zN_]; rfl
          refine p_ 8 119 ?_ #[true, true, true, true, true, false, false, true, true, false, false, false, false] rfl rfl (by kernel_rfl) (fun _ _ _ h => h) (by rfl) ?_ ?_ ?_ ?_
          rotate_left; · intro w'; go_simp; with_reducible rfl
          rotate_left; · simp only [zN_]; rfl
          refine p_ 9 120 ?_ #[true, true, true, true, true, false, false, true, true, true, false, false, false] rfl rfl (by kernel_rfl) (fun _ _ _ h => h) (by rfl) ?_ ?_ ?_ ?_
          rotate_left; · intro w'; go_simp; with_reducible rfl
          rotate_left; · simp only [zN_]; rfl
          refine p_ 10 121 ?_ #[true, true, true, true, true, false, false, true, true, true, true, false, false] rfl rfl (by kernel_rfl) (fun _ _ _ h => h) (by rfl) ?_ ?_ ?_ ?_
          rotate_left; · intro w'; go_simp; with_reducible rfl
          rotate_left; · simp only [zN_]; rfl
          refine take_ (i := 5) (N := some 116) (v := ?_) (a' := ?_) #[true, true, true, true, true, true, false, true, true, true, true, false, false] rfl rfl (by kernel_rfl) (fun _ _ _ h => h) (Or.inl ⟨by rfl, ?_⟩) hHeld ?_ ?_
          rotate_left
          · rintro w' ⟨s0, s1⟩
            go_simp
            with_reducible rfl
          rotate_left; · simp only [zN_]; rfl
          refine take_ (i := 11) (N := some 122) (v := ?_) (a' := ?_) #[true, true, true, true, true, true, false, true, true, true, true, true, false] rfl rfl (by kernel_rfl) (fun _ _ _ h => h) (Or.inl ⟨by rfl, ?_⟩) hHeld ?_ ?_
          rotate_left
          · rintro w' ⟨s0, s1⟩
            go_simp
            with_reducible rfl
          rotate_left; · simp only [zN_]; rfl
          refine one_ (i := 6) (N := some 117) #[true, true, true, true, true, true, true, true, true, true, true, true, false] rfl rfl (by kernel_rfl) (by decide) (fun K hK => ?_)
          refine goes_ Try.func27 (by kernel_rfl) rfl #[.slice Za nz zc, .int .i64 pv] (by rfl) rfl rfl (by simp only [List.map_toArray, List.map_cons, List.map_nil]; rfl) ?_
          with_reducible refine (HFP.out _ HGj.out.drew).mono ?_
          rintro e w3 ⟨rfl, g3⟩
          refine ⟨_, rfl, ?_⟩
          have HGX : Hid (Below W7.heap.size W7 w3) := Lib.hid (HGj.out.drew.trans (g3.mono HGj.out.drew.size))
          refine hK.out _ _ ⟨(HPQ.out _ HGX.out).1, (HPQ.out _ HGX.out).2⟩ (fun hHeld => ?_)
          clear hK K
          refine norm_ (a' := ?_) ?_ ?_
          rotate_left
          · show Act.put _ (some 117) _ = _
            simp only [zN_]
            rfl
          refine p_ 12 123 ?_ #[true, true, true, true, true, true, true, true, true, true, true, true, true] rfl rfl (by kernel_rfl) (fun _ _ _ h => h) (by rfl) ?_ ?_ ?_ ?_
          rotate_left; · intro w'; go_simp; with_reducible rfl
          rotate_left; · simp only [zN_]; rfl
          refine done_ (by kernel_rfl) ?_
          go_wp2_with fail
          go_roundw
          case measure => simp [intOf]; omega
          case rel => exact ⟨j + 1, by go_num, by omega, HGX⟩
        · have hjl : np ≤ j := by omega
          have HBR := Lib.hid (HB7.out.trans (HGj.out.mono HB7.out.size))
          have hnn := HNE2.out
          obtain ⟨bz, hbz⟩ : ∃ b, ((nz : Int) == 0) = b := ⟨_, rfl⟩
          have hbp : ((np : Int) == 0) = bz := by
            rw [← hbz]
            by_cases e : nz = 0
            · have := hnn.1 e
              simp [e, this]
            · have e2 : np ≠ 0 := fun f => e (hnn.2 f)
              have e3 : ((nz : Int) == 0) = false := by simp; omega
              have e4 : ((np : Int) == 0) = false := by simp; omega
              rw [e3, e4]
          have hbb : (bz == bz) = true := by simp
          clear hnn
          go_wp2_with fail
          refine (HKN.out _).mono ?_
          rintro e WK ⟨rfl, gk⟩
          have HBK := Lib.hid (HBR.out.trans (gk.mono HBR.out.size))
          clear gk
          go_wp2_with fail
          all_goals (try rw [Exit.noGoto_ret])
          all_goals go_ret
          all_goals exact ⟨rfl, HBK.out⟩
end Go.Proofs.Ytfkejflmhidnaaa.PAll
