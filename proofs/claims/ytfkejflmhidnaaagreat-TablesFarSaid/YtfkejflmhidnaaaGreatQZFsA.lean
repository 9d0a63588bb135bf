import Derived.Test.YtfkejflmhidnaaaGreatQZFsP
import Derived.Test.YtfkejflmhidnaaaGreatQZByB
set_option linter.all false
namespace Go.Proofs.YtfkejflmhidnaaaGreat.PAll
open RowKit YtfkejflmhidnaaaGreatW.PrintWords YtfkejflmhidnaaaGreatW.PrintLast YtfkejflmhidnaaaGreatW.PrintMore
open Hp hiding Good
set_option maxRecDepth 100000 in
set_option maxHeartbeats 8000000 in
theorem tfar_walk (w : World) (a0 : Int) (A1 : Option Addr) (c1 : Nat) (l1 : List S85) (hr1 : Kd.C k85 w A1 l1.length l1) (hc1 : l1.length ≤ c1) (k : Int) (hk0 : 0 ≤ k) (hk1 : k ≤ 255) (a : Int) (ha0 : 0 ≤ a) (ha1 : a ≤ 255) :
  Calls Tryz.prog 8 #[.int .i64 a0, .slice A1 l1.length c1, .int .u8 k, .int .u8 a] w fun r w' => r = .returned (.bool true) ∧ Below w.heap.size w w' := by
 obtain ⟨n, A, hok, hof⟩ := of7_walk w a0 A1 c1 l1 hr1 hc1
 have HOF := Lib.hid hof
 have HOK := Lib.hid hok
 have hn0 := hok.n0
 have hn1 := hok.n1
 obtain ⟨c, hc, hcn⟩ := tmod_natF hk0 (n + 1) (by omega)
 have hc' : Int.tmod k ((n : Int) + 1) = (c : Int) := by rw [← hc]; congr 1
 obtain ⟨s, hs, hsn⟩ := tmod_natF ha0 n (by omega)
 have HKN : Hid (∀ W, Calls Tryz.prog 22 #[] W fun r w' => r = .returned (.bool true) ∧ Below W.heap.size W w') := Lib.hid (fun W => known15_walk W)
 clear hof hok hr1 hc1 hc
 have hwa : IntKind.i64.wrap a = a := i64w rfl (by omega) (by omega)
 have hnz : ((n : Int) == 0) = false := by simp; omega
 have hnz' : (n : Int) ≠ 0 := by omega
 have hws : IntKind.i64.wrap (s : Int) = (s : Int) := i64w rfl (by omega) (by omega)
 have hwk : IntKind.i64.wrap k = k := i64w rfl (by omega) (by omega)
 have hwn : IntKind.i64.wrap ((n : Int) + 1) = (n : Int) + 1 := i64w rfl (by omega) (by omega)
 have hwc : IntKind.i64.wrap (c : Int) = (c : Int) := i64w rfl (by omega) (by omega)
 have hnq : (n : Int) + 1 ≠ 0 := by omega
 have hnq2 : ((n : Int) + 1 == 0) = false := by simp; omega
 go_enter Tryz.func8, Tryz.ntmps8
 go_upto_region 2 with (first | (go_at_call 11; refine HOF.out.mono ?_; rintro e W2 ⟨Aa, ca, rfl, hca, hCA, g2⟩; have HCA := Lib.hid (And.intro hca hCA); have HG2 := Lib.hid g2; clear hca hCA g2))
 have HM3 := Lib.hid (blk_new W2 (.cells #[.int .i64 n, .slice Aa A.length ca] 24))
 have HG3 : Hid (Below w.heap.size w (W2.alloc (.cells #[.int .i64 n, .slice Aa A.length ca] 24))) := Lib.hid (HG2.out.alloc HG2.out.size _)
 have HCA3 : Hid (A.length ≤ ca ∧ Kd.C k85 (W2.alloc (.cells #[.int .i64 n, .slice Aa A.length ca] 24)) Aa A.length A) := Lib.hid ⟨HCA.out.1, Kd.C_alloc HCA.out.2 _⟩
 clear HCA HG2
 generalize W2.alloc (.cells #[.int .i64 n, .slice Aa A.length ca] 24) = W3 at *
 generalize W2.heap.size = gm at *
 have m0 := (blk_cell HM3.out 0).trans rfl
 have m1 := (blk_cell HM3.out 1).trans rfl
 have ml := blk_lt HM3.out
 have HO9 := Lib.hid (of9_newT W3 n A Aa ca HCA3.out.2 HCA3.out.1 HOK.out)
 have HA7 : Hid (∀ W, Below W3.heap.size W3 W → Calls Tryz.prog 16 #[.agg #[.int .i64 n, .slice Aa A.length ca]] W fun r w' => AllPost W n A r w') := Lib.hid (fun W g => all7_walk W n A Aa ca (Kd.C_below HCA3.out.2 g) HCA3.out.1 HOK.out)
 clear HCA3
 generalize A.length = al at *
 go_upto_region 3 with fail
 go_wp2_with (first | (go_at_call 13; refine HO9.out.mono ?_; rintro e W4 ⟨S1, S2, rfl, g4, hnew⟩; have HNW := Lib.hid hnew; have HG4 := Lib.hid g4; clear hnew g4) | (go_at_call 12; refine HNW.out.mono ?_; rintro e W5 ⟨xb, h, rfl, hHR, hMH, hGR, g5⟩; have HHR := Lib.hid hHR; have HMH := Lib.hid hMH; have HGR := Lib.hid hGR; have HG5 := Lib.hid g5; clear hHR hMH hGR g5))
 have HG35 := Lib.hid (HG4.out.trans (HG5.out.mono HG4.out.size))
 have hokh := HMH.out.ok
 have hlg : (buildT n h (c : Int)).g.length = c := great_len (by omega)
 have hlo : (buildT n h (c : Int)).out.length = n := by simp [buildT]
 have hli : (buildT n h (c : Int)).inn.length = n := by simp [buildT]
 have hls : (buildT n h (c : Int)).so.length = n := by simp [buildT]
 have hlt' : (buildT n h (c : Int)).si.length = n := by simp [buildT]
 have HBX := Lib.hid (build_walkC W5 xb n h _ HHR.out hokh (c : Int))
 refine HBX.out.mono ?_
 rintro e W6 ⟨B0, d0, B1, d1, B2, d2, B3, d3, B4, d4, B5, d5, rfl, hT, g6⟩
 have HT6 := Lib.hid hT
 have HG36 := Lib.hid (HG35.out.trans (g6.mono HG35.out.size))
 clear hT g6 HBX HHR HNW HO9 HG4 HG5 HG35
 rw [hlg, hlo, hli, hls, hlt']
 have HXT := Lib.hid (blk_new W6 (.cells #[.slice B0 c d0, .slice B1 (buildT n h (c : Int)).far.length d1, .slice B2 n d2, .slice B3 n d3, .slice B4 n d4, .slice B5 n d5] 46))
 have HG37 : Hid (Below W3.heap.size W3 (W6.alloc (.cells #[.slice B0 c d0, .slice B1 (buildT n h (c : Int)).far.length d1, .slice B2 n d2, .slice B3 n d3, .slice B4 n d4, .slice B5 n d5] 46))) := Lib.hid (HG36.out.alloc HG36.out.size _)
 have HT7 := Lib.hid (HT6.out.below ((Below.refl _ _).alloc (Nat.le_refl _) (.cells #[.slice B0 c d0, .slice B1 (buildT n h (c : Int)).far.length d1, .slice B2 n d2, .slice B3 n d3, .slice B4 n d4, .slice B5 n d5] 46)))
 clear m0 m1 ml
 go_upto_region 4 with fail
 generalize W6.alloc (.cells #[.slice B0 c d0, .slice B1 (buildT n h (c : Int)).far.length d1, .slice B2 n d2, .slice B3 n d3, .slice B4 n d4, .slice B5 n d5] 46) = W7 at *
 generalize W6.heap.size = tb at *
 have HM7 := Lib.hid ((HG37.out.block _ (blk_lt HM3.out)).trans HM3.out)
 have HB7 := Lib.hid (HG3.out.trans (HG37.out.mono HG3.out.size))
 have HGD := Lib.hid (gd_build hokh (by omega) HGR.out (c : Int))
 have HSM := Lib.hid (sm_build (h := h) (show n ≤ 900 by omega) (c : Int))
 have HCK := Lib.hid (check_build hokh (by omega) HGR.out (c : Int))
 have HBT : Hid (∀ u : Nat, u < n → (byP (buildT n h (c : Int)) s u).2 = true → (byP (buildT n h (c : Int)) s u).1 = -1 ∧ idxP (buildT n h (c : Int)).g (s : Int) = -1 ∧ idxP (buildT n h (c : Int)).g (u : Int) = -1) := Lib.hid (fun u hu hl => by
  obtain ⟨h1, h2, h3⟩ := by_low hsn hu hl
  exact ⟨h1, great_no HGR.out hsn h2, great_no HGR.out hu h3⟩)
 have HBF : Hid (∀ (u : Nat) (row : List Int), u < n → AllRow n A s row → (byP (buildT n h (c : Int)) s u).2 = false → (byP (buildT n h (c : Int)) s u).1 = rd row (u : Int) ∧ (c = 0 → rd row (u : Int) < 0)) := Lib.hid (fun u row hu hr hl => by
  have h1 := far_all HMH.out.ex hokh (by omega) hsn hu hr
  refine ⟨(by_far HMH.out (by omega) HGR.out (c : Int) hsn hu hl).trans h1, fun e => ?_⟩
  subst e
  rw [← h1]
  exact by_none HMH.out (by omega) HGR.out hsn hu hl)
 clear HMH HGR hokh HG36 HM3 HG3 HOF HT6
 generalize buildT n h (c : Int) = T at *
 have HBY : Hid (∀ W, Below W7.heap.size W7 W → ∀ v : Nat, v < n → Calls Tryz.prog 29 #[.agg #[.slice B0 c d0, .slice B1 T.far.length d1, .slice B2 n d2, .slice B3 n d3, .slice B4 n d4, .slice B5 n d5], .int .i64 s, .int .i64 v] W fun r w' => r = .returned (.tuple #[.int .i64 (byP T s v).1, .bool (byP T s v).2]) ∧ Below W.heap.size W w') := Lib.hid (fun W g v hv => by
  have := tby_walk W ⟨B0, d0, B1, d1, B2, d2, B3, d3, B4, d4, B5, d5⟩ T (HT7.out.below g) HSM.out HGD.out n hlo hli hls hlt' HCK.out s v hsn hv
  simp only [TabAt.cells, hlo, hli, hls, hlt', hlg] at this
  exact this)
 have HPL : Hid (∀ W, Below W7.heap.size W7 W → ∀ v : Int, Calls Tryz.prog 30 #[.agg #[.slice B0 c d0, .slice B1 T.far.length d1, .slice B2 n d2, .slice B3 n d3, .slice B4 n d4, .slice B5 n d5], .int .i64 v] W fun r w' => r = .returned (.int .i64 (idxP T.g v)) ∧ Below W.heap.size W w') := Lib.hid (fun W g v => by
  have := place2_walk W ⟨B0, d0, B1, d1, B2, d2, B3, d3, B4, d4, B5, d5⟩ T v (HT7.out.below g) (HGD.out.asc.imp (fun h => by omega)) HSM.out.g
  simp only [TabAt.cells, hlo, hli, hls, hlt', hlg] at this
  exact this)
 clear HT7 HGD HSM HCK hlo hli hls hlt' hlg
 generalize T.far.length = f1 at *
 have m0 := (blk_cell HM7.out 0).trans rfl
 have m1 := (blk_cell HM7.out 1).trans rfl
 have ml := blk_lt HM7.out
 have HA8 := Lib.hid (HA7.out W7 HG37.out)
 go_upto_region 5 with (first | (go_at_call 16; refine HA8.out.mono ?_; rintro e W8 ⟨va, out, rfl, hR, hol, hrows, g8⟩; obtain ⟨Oa, oc, hva, hoc, hOC⟩ := Kd.R_reads hR; subst hva; have HOC := Lib.hid hOC; have HOL := Lib.hid hol; have HRW := Lib.hid hrows; have HG8 := Lib.hid g8; clear hR hoc hOC hol hrows g8))
 rw [HOL.out] at HOC
 rw [HOL.out]
 have HM8 := Lib.hid ((HG8.out.block _ (blk_lt HM7.out)).trans HM7.out)
 have HX8 := Lib.hid ((HG8.out.block _ (blk_lt HXT.out)).trans HXT.out)
 have HB8 := Lib.hid (HB7.out.trans (HG8.out.mono HB7.out.size))
 have HY8 : Hid (∀ W, Below W8.heap.size W8 W → ∀ v : Nat, v < n → Calls Tryz.prog 29 #[.agg #[.slice B0 c d0, .slice B1 f1 d1, .slice B2 n d2, .slice B3 n d3, .slice B4 n d4, .slice B5 n d5], .int .i64 s, .int .i64 v] W fun r w' => r = .returned (.tuple #[.int .i64 (byP T s v).1, .bool (byP T s v).2]) ∧ Below W.heap.size W w') := Lib.hid (fun W g => HBY.out W (HG8.out.trans (g.mono HG8.out.size)))
 have HP8 : Hid (∀ W, Below W8.heap.size W8 W → ∀ v : Int, Calls Tryz.prog 30 #[.agg #[.slice B0 c d0, .slice B1 f1 d1, .slice B2 n d2, .slice B3 n d3, .slice B4 n d4, .slice B5 n d5], .int .i64 v] W fun r w' => r = .returned (.int .i64 (idxP T.g v)) ∧ Below W.heap.size W w') := Lib.hid (fun W g => HPL.out W (HG8.out.trans (g.mono HG8.out.size)))
 have HF8 : Hid (∀ u : Nat, u < n → (byP T s u).2 = false → (byP T s u).1 = rd (out.getD s []) (u : Int) ∧ (c = 0 → rd (out.getD s []) (u : Int) < 0)) := Lib.hid (fun u hu hl => HBF.out u _ hu (HRW.out s hsn) hl)
 have hs0 : (0 : Int) ≤ (s : Int) := Int.natCast_nonneg _
 have hs1 : (s : Int) < (n : Int) := by omega
 have HRC : Hid (∃ (ao bb : Addr) (bvc : Nat), Oa = some ao ∧ ∀ W, Below W8.heap.size W8 W → W.cell? (ao.add s) = some (.slice (some bb) n bvc) ∧ ∀ u : Nat, u < n → W.cell? (bb.add u) = some (.int .i64 (rd (out.getD s []) (u : Int)))) := Lib.hid (by
  obtain ⟨ao, Bv, bvc, hAo, ov, hovl, hCv⟩ := at_rowF HOC.out s hsn
  have hrl := (HRW.out s hsn).len
  rw [hrl] at ov hovl hCv
  obtain ⟨bb, hBv, _⟩ := Kd.at_int hCv (0 : Int) (by omega) (by omega)
  subst hBv
  refine ⟨ao, bb, bvc, hAo, fun W g => ⟨(g.cell (World.block_lt_of_cell? W8 _ ov)).trans ov, fun u hu => ?_⟩⟩
  obtain ⟨b2, hB2, x⟩ := Kd.at_int hCv (u : Int) (by omega) (by omega)
  cases hB2
  have x' : W8.cell? (bb.add u) = some (.int .i64 (rd (out.getD s []) (u : Int))) := x
  exact (g.cell (World.block_lt_of_cell? W8 _ x')).trans x')
 obtain ⟨ao, bb, bvc, hAo, hrc⟩ := HRC.out
 subst hAo
 have HRD := Lib.hid hrc
 clear hrc HRC HOC HRW HBF HBY HPL HA7 HA8 m0 m1 ml
 have HCF : Hid (∀ W, Below W8.heap.size W8 W → (W.cell? ⟨gm, 0, none⟩ = some (.int .i64 n) ∧ gm < W.heap.size ∧ tb < W.heap.size) ∧ W.cell? ⟨tb, 0, none⟩ = some (.slice B0 c d0) ∧ W.cell? ⟨tb, 1, none⟩ = some (.slice B1 f1 d1) ∧ W.cell? ⟨tb, 2, none⟩ = some (.slice B2 n d2) ∧ W.cell? ⟨tb, 3, none⟩ = some (.slice B3 n d3) ∧ W.cell? ⟨tb, 4, none⟩ = some (.slice B4 n d4) ∧ W.cell? ⟨tb, 5, none⟩ = some (.slice B5 n d5)) := Lib.hid (fun W g => by
  have hm := (g.block _ (blk_lt HM8.out)).trans HM8.out
  have ht := (g.block _ (blk_lt HX8.out)).trans HX8.out
  exact ⟨⟨(blk_cell hm 0).trans rfl, blk_lt hm, blk_lt ht⟩, (blk_cell ht 0).trans rfl, (blk_cell ht 1).trans rfl, (blk_cell ht 2).trans rfl, (blk_cell ht 3).trans rfl, (blk_cell ht 4).trans rfl, (blk_cell ht 5).trans rfl⟩)
 clear HM7 HXT HM8 HX8
 obtain ⟨⟨m0, ml, tl⟩, t0, t1, t2, t3, t4, t5⟩ := HCF.out W8 (Below.refl _ _)
 have e0 : ((c : Int) != (c : Int)) = false := by simp
 go_wp2_with fail
 clear m0 ml tl t0 t1 t2 t3 t4 t5 e0
 go_loopw [14] (fun v9 wr => ∃ u : Nat, v9 = .int .i64 u ∧ u ≤ n ∧ Hid (Below W8.heap.size W8 wr)) (fun v9 _ => n - (intOf v9).toNat)
 case atStart => exact ⟨0, rfl, by omega, Lib.hid (Below.refl _ _)⟩
 case round =>
  obtain ⟨u, rfl, hu, HB⟩ := hrel
  by_cases hlt : u < n
  rotate_left
  ·have hle : n ≤ u := by omega
   obtain ⟨⟨m0, ml, tl⟩, _⟩ := HCF.out wr HB.out
   go_wp2_with (first | (go_at_call 22; refine (HKN.out _).mono ?_; rintro e w9 ⟨rfl, g9⟩; have HG9 := Lib.hid g9; clear g9))
   go_ret
   exact ⟨rfl, HB8.out.trans ((HB.out.trans (HG9.out.mono HB.out.size)).mono HB8.out.size)⟩
  have hu0 : (0 : Int) ≤ (u : Int) := Int.natCast_nonneg _
  have hu1 : (u : Int) < (n : Int) := by omega
  have HV := Lib.hid (HY8.out wr HB.out u hlt)
  have HT1 := Lib.hid (HBT.out u hlt)
  have HF1 := Lib.hid (HF8.out u hlt)
  have HP1 := Lib.hid (fun W g => HP8.out W g (s : Int))
  have HP2 := Lib.hid (fun W g => HP8.out W g (u : Int))
  have HRU : Hid (∀ W, Below W8.heap.size W8 W → W.cell? (ao.add s) = some (.slice (some bb) n bvc) ∧ W.cell? (bb.add u) = some (.int .i64 (rd (out.getD s []) (u : Int)))) := Lib.hid (fun W g => ⟨(HRD.out W g).1, (HRD.out W g).2 u hlt⟩)
  obtain ⟨⟨m0, ml, tl⟩, t0, t1, t2, t3, t4, t5⟩ := HCF.out wr HB.out
  generalize byP T s u = Y at *
  generalize rd (out.getD s []) (u : Int) = rv at *
  generalize idxP T.g (s : Int) = is at *
  generalize idxP T.g (u : Int) = iu at *
  obtain ⟨d, b⟩ := Y
  simp only at HV HT1 HF1
  go_upto_region 12 with (first | (go_at_call 29; refine HV.out.mono ?_; rintro e w9 ⟨rfl, g9⟩; have HB9 := Lib.hid (HB.out.trans (g9.mono HB.out.size)); clear g9))
  clear m0 ml tl t0 t1 t2 t3 t4 t5 HV
  cases b with
  | true =>
   obtain ⟨hd, h1, h2⟩ := HT1.out rfl
   subst hd h1 h2
   clear HF1 HT1 HRU
   have HPA := Lib.hid (HP1.out w9 HB9.out)
   obtain ⟨⟨m0, ml, tl⟩, t0, t1, t2, t3, t4, t5⟩ := HCF.out w9 HB9.out
   by_cases hc0 : c = 0
   ·have e0 : ((c : Int) == 0) = true := by simp [hc0]
    clear hc0
    go_wp2_with (first | (go_at_call 30; refine HPA.out.mono ?_; rintro e w3 ⟨rfl, g⟩; have HG3 := Lib.hid (HB9.out.trans (g.mono HB9.out.size)); have HPB := Lib.hid (HP2.out w3 HG3.out); clear HPA g m0 ml tl t0 t1 t2 t3 t4 t5; obtain ⟨⟨m0, ml, tl⟩, t0, t1, t2, t3, t4, t5⟩ := HCF.out w3 HG3.out) | (go_at_call 30; refine HPB.out.mono ?_; rintro e w4 ⟨rfl, g⟩; have HG4 := Lib.hid (HG3.out.trans (g.mono HG3.out.size)); clear g))
    go_roundw
    case measure => simp [intOf]; omega
    case rel => exact ⟨u + 1, by go_num, by omega, HG4⟩
   ·have e0 : ((c : Int) == 0) = false := by simp; omega
    clear hc0
    go_wp2_with (first | (go_at_call 30; refine HPA.out.mono ?_; rintro e w3 ⟨rfl, g⟩; have HG3 := Lib.hid (HB9.out.trans (g.mono HB9.out.size)); have HPB := Lib.hid (HP2.out w3 HG3.out); clear HPA g m0 ml tl t0 t1 t2 t3 t4 t5; obtain ⟨⟨m0, ml, tl⟩, t0, t1, t2, t3, t4, t5⟩ := HCF.out w3 HG3.out) | (go_at_call 30; refine HPB.out.mono ?_; rintro e w4 ⟨rfl, g⟩; have HG4 := Lib.hid (HG3.out.trans (g.mono HG3.out.size)); clear g))
    go_roundw
    case measure => simp [intOf]; omega
    case rel => exact ⟨u + 1, by go_num, by omega, HG4⟩
  | false =>
   obtain ⟨hd, h1⟩ := HF1.out rfl
   have HNN : Hid (c = 0 → rv < 0) := Lib.hid h1
   subst hd
   clear HF1 HT1 h1 HP1 HP2
   have e1 : (d != d) = false := by simp
   obtain ⟨q0, q1⟩ := HRU.out w9 HB9.out
   by_cases hc0 : c = 0
   ·have hneg := HNN.out hc0
    have e0 : ((c : Int) == 0) = true := by simp [hc0]
    have e2 : decide (d >= 0) = false := by simp; omega
    have e3 : decide (0 ≤ d) = false := by simp; omega
    clear hc0
    go_wp2_with fail
    go_roundw
    case measure => simp [intOf]; omega
    case rel => exact ⟨u + 1, by go_num, by omega, HB9⟩
   ·have e0 : ((c : Int) == 0) = false := by simp; omega
    clear hc0
    go_wp2_with fail
    go_roundw
    case measure => simp [intOf]; omega
    case rel => exact ⟨u + 1, by go_num, by omega, HB9⟩
end Go.Proofs.YtfkejflmhidnaaaGreat.PAll
