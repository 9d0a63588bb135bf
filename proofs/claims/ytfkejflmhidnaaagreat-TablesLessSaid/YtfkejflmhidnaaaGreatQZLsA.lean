import Derived.Test.YtfkejflmhidnaaaGreatQZLsP
import Derived.Test.YtfkejflmhidnaaaGreatQZFsP
import Derived.Test.YtfkejflmhidnaaaGreatQZByB
set_option linter.all false
namespace Go.Proofs.YtfkejflmhidnaaaGreat.PAll
open RowKit YtfkejflmhidnaaaGreatW.PrintWords YtfkejflmhidnaaaGreatW.PrintLast YtfkejflmhidnaaaGreatW.PrintMore
open Hp hiding Good
set_option maxRecDepth 100000 in
set_option maxHeartbeats 8000000 in
theorem tless_walk (w : World) (a0 : Int) (A1 : Option Addr) (c1 : Nat) (l1 : List S85) (hr1 : Kd.C k85 w A1 l1.length l1) (hc1 : l1.length ≤ c1) (k : Int) (hk0 : 0 ≤ k) (hk1 : k ≤ 255) :
  Calls Tryz.prog 9 #[.int .i64 a0, .slice A1 l1.length c1, .int .u8 k] w fun r w' => r = .returned (.bool true) ∧ Below w.heap.size w w' := by
 obtain ⟨n, A, hok, hof⟩ := of7_walk w a0 A1 c1 l1 hr1 hc1
 have HOF := Lib.hid hof
 have HOK := Lib.hid hok
 have hn0 := hok.n0
 have hn1 := hok.n1
 obtain ⟨c, hc, hcn⟩ := tmod_natF hk0 n (by omega)
 have HKN : Hid (∀ W, Calls Tryz.prog 22 #[] W fun r w' => r = .returned (.bool true) ∧ Below W.heap.size W w') := Lib.hid (fun W => known15_walk W)
 clear hof hok hr1 hc1
 have hwk : IntKind.i64.wrap k = k := i64w rfl (by omega) (by omega)
 obtain ⟨cc, hcc⟩ : ∃ cc : Nat, (cc : Int) = (c : Int) + 1 := ⟨c + 1, by omega⟩
 have hwc : IntKind.i64.wrap ((c : Int) + 1) = (c : Int) + 1 := i64w rfl (by omega) (by omega)
 have hnz : ((n : Int) == 0) = false := by simp; omega
 have hnz' : (n : Int) ≠ 0 := by omega
 have hnz2 : (n == 0) = false := by simp; omega
 go_enter Tryz.func9, Tryz.ntmps9
 go_upto_region 2 with (first | (go_at_call 11; refine HOF.out.mono ?_; rintro e W2 ⟨Aa, ca, rfl, hca, hCA, g2⟩; have HCA := Lib.hid (And.intro hca hCA); have HG2 := Lib.hid g2; clear hca hCA g2))
 have HM3 := Lib.hid (blk_new W2 (.cells #[.int .i64 n, .slice Aa A.length ca] 24))
 have HG3 : Hid (Below w.heap.size w (W2.alloc (.cells #[.int .i64 n, .slice Aa A.length ca] 24))) := Lib.hid (HG2.out.alloc HG2.out.size _)
 have HCA3 : Hid (A.length ≤ ca ∧ Kd.C k85 (W2.alloc (.cells #[.int .i64 n, .slice Aa A.length ca] 24)) Aa A.length A) := Lib.hid ⟨HCA.out.1, Kd.C_alloc HCA.out.2 _⟩
 clear HCA HG2
 generalize W2.alloc (.cells #[.int .i64 n, .slice Aa A.length ca] 24) = W3 at *
 generalize W2.heap.size = gm at *
 have m0 := (blk_cell HM3.out 0).trans rfl
 have m1 := (blk_cell HM3.out 1).trans rfl
 have ml := blk_lt HM3.out
 have HO9 := Lib.hid (of9_newT W3 n A Aa ca HCA3.out.2 HCA3.out.1 HOK.out)
 go_upto_region 3 with (first | (go_at_call 13; refine HO9.out.mono ?_; rintro e W4 ⟨S1, S2, rfl, g4, hnew⟩; have HNW := Lib.hid hnew; have HG4 := Lib.hid g4; clear hnew g4) | (go_at_call 12; refine HNW.out.mono ?_; rintro e W5 ⟨xb, h, rfl, hHR, hMH, hGR, g5⟩; have HHR := Lib.hid hHR; have HMH := Lib.hid hMH; have HGR := Lib.hid hGR; have HG5 := Lib.hid g5; clear hHR hMH hGR g5))
 have HB5 := Lib.hid (HG3.out.trans ((HG4.out.trans (HG5.out.mono HG4.out.size)).mono HG3.out.size))
 have hm5 : W5.heap[gm]? = some (.cells #[.int .i64 n, .slice Aa A.length ca] 24 (0, 0)) := (HG5.out.block _ (blk_lt ((HG4.out.block _ (blk_lt HM3.out)).trans HM3.out))).trans ((HG4.out.block _ (blk_lt HM3.out)).trans HM3.out)
 have HM5 := Lib.hid hm5
 have hokh := HMH.out.ok
 have HBA : Hid (∀ W, Below W5.heap.size W5 W → ∀ k : Int, Calls Tryz.prog 20 #[.pointer (some ⟨xb, 0, none⟩), .int .i64 k] W fun r w' => TBPost (buildT n h k) W r w') := Lib.hid (fun W g k => build_walkC W xb n h _ (HHR.out.below g) hokh k)
 have HLL := Lib.hid (fun s u hs hu => less_local (s := s) (u := u) hokh c hcn hs hu)
 have HL1 : Hid ((buildT n h (c : Int)).g.length = c ∧ (buildT n h (c : Int)).out.length = n ∧ (buildT n h (c : Int)).inn.length = n ∧ (buildT n h (c : Int)).so.length = n ∧ (buildT n h (c : Int)).si.length = n) := Lib.hid ⟨great_len (by omega), by simp [buildT], by simp [buildT], by simp [buildT], by simp [buildT]⟩
 have HL2 : Hid ((buildT n h ((c : Int) + 1)).g.length = cc ∧ (buildT n h ((c : Int) + 1)).out.length = n ∧ (buildT n h ((c : Int) + 1)).inn.length = n ∧ (buildT n h ((c : Int) + 1)).so.length = n ∧ (buildT n h ((c : Int) + 1)).si.length = n) := Lib.hid ⟨by rw [← hcc]; exact great_len (by omega), by simp [buildT], by simp [buildT], by simp [buildT], by simp [buildT]⟩
 have HF1 := Lib.hid (And.intro (sm_build (h := h) (show n ≤ 900 by omega) (c : Int)) (And.intro (gd_build hokh (by omega) HGR.out (c : Int)) (check_build hokh (by omega) HGR.out (c : Int))))
 have HF2 := Lib.hid (And.intro (sm_build (h := h) (show n ≤ 900 by omega) ((c : Int) + 1)) (And.intro (gd_build hokh (by omega) HGR.out ((c : Int) + 1)) (check_build hokh (by omega) HGR.out ((c : Int) + 1))))
 have HBX := Lib.hid (HBA.out W5 (Below.refl _ _) (c : Int))
 have HBY := Lib.hid (fun W g => HBA.out W g ((c : Int) + 1))
 clear hm5 m0 m1 ml HM3 HG3 HCA3 HG4 HG5 HHR HNW HO9 HOF HBA HMH HGR hokh
 generalize buildT n h (c : Int) = T1 at *
 generalize buildT n h ((c : Int) + 1) = T2 at *
 have m0 : W5.cell? ⟨gm, 0, none⟩ = some (.int .i64 n) := (blk_cell HM5.out 0).trans rfl
 have ml := blk_lt HM5.out
 go_upto_region 4 with fail
 clear m0 ml
 go_wp2_with fail
 refine HBX.out.mono ?_
 rintro e W6 ⟨B0, d0, B1, d1, B2, d2, B3, d3, B4, d4, B5, d5, rfl, hT, g6⟩
 have HT6 := Lib.hid hT
 have HG6 := Lib.hid g6
 clear hT g6 HBX
 rw [HL1.out.1, HL1.out.2.1, HL1.out.2.2.1, HL1.out.2.2.2.1, HL1.out.2.2.2.2]
 have HX7 := Lib.hid (blk_new W6 (.cells #[.slice B0 c d0, .slice B1 T1.far.length d1, .slice B2 n d2, .slice B3 n d3, .slice B4 n d4, .slice B5 n d5] 46))
 have HG7 : Hid (Below W5.heap.size W5 (W6.alloc (.cells #[.slice B0 c d0, .slice B1 T1.far.length d1, .slice B2 n d2, .slice B3 n d3, .slice B4 n d4, .slice B5 n d5] 46))) := Lib.hid (HG6.out.alloc HG6.out.size _)
 have HT7 := Lib.hid (HT6.out.below ((Below.refl _ _).alloc (Nat.le_refl _) (.cells #[.slice B0 c d0, .slice B1 T1.far.length d1, .slice B2 n d2, .slice B3 n d3, .slice B4 n d4, .slice B5 n d5] 46)))
 go_upto_region 5 with fail
 generalize hf1 : T1.far.length = f1 at *
 generalize W6.alloc (.cells #[.slice B0 c d0, .slice B1 f1 d1, .slice B2 n d2, .slice B3 n d3, .slice B4 n d4, .slice B5 n d5] 46) = W7 at *
 generalize W6.heap.size = tb at *
 clear HT6 HG6
 have HBZ := Lib.hid (HBY.out W7 HG7.out)
 clear HBY
 go_wp2_with fail
 refine HBZ.out.mono ?_
 rintro e W8 ⟨E0, e0, E1, e1, E2, e2, E3, e3, E4, e4, E5, e5, rfl, hT, g8⟩
 have HT8 := Lib.hid hT
 have HG8 := Lib.hid g8
 clear hT g8 HBZ
 rw [HL2.out.1, HL2.out.2.1, HL2.out.2.2.1, HL2.out.2.2.2.1, HL2.out.2.2.2.2]
 have HY9 := Lib.hid (blk_new W8 (.cells #[.slice E0 cc e0, .slice E1 T2.far.length e1, .slice E2 n e2, .slice E3 n e3, .slice E4 n e4, .slice E5 n e5] 46))
 have HG9 : Hid (Below W7.heap.size W7 (W8.alloc (.cells #[.slice E0 cc e0, .slice E1 T2.far.length e1, .slice E2 n e2, .slice E3 n e3, .slice E4 n e4, .slice E5 n e5] 46))) := Lib.hid (HG8.out.alloc HG8.out.size _)
 have HU9 := Lib.hid (HT8.out.below ((Below.refl _ _).alloc (Nat.le_refl _) (.cells #[.slice E0 cc e0, .slice E1 T2.far.length e1, .slice E2 n e2, .slice E3 n e3, .slice E4 n e4, .slice E5 n e5] 46)))
 go_upto_region 6 with fail
 generalize hf2 : T2.far.length = f2 at *
 generalize W8.alloc (.cells #[.slice E0 cc e0, .slice E1 f2 e1, .slice E2 n e2, .slice E3 n e3, .slice E4 n e4, .slice E5 n e5] 46) = W9 at *
 generalize W8.heap.size = tc at *
 clear HT8 HG8
 have HX9 := Lib.hid ((HG9.out.block _ (blk_lt HX7.out)).trans HX7.out)
 have HT9 := Lib.hid (HT7.out.below HG9.out)
 have HG59 := Lib.hid (HG7.out.trans (HG9.out.mono HG7.out.size))
 have HM9 := Lib.hid ((HG59.out.block _ (blk_lt HM5.out)).trans HM5.out)
 have HB9 := Lib.hid (HB5.out.trans (HG59.out.mono HB5.out.size))
 clear HX7 HT7 HG7 HG9 HG59 HM5 HB5
 have HY1 : Hid (∀ W, Below W9.heap.size W9 W → ∀ s u : Nat, s < n → u < n → Calls Tryz.prog 29 #[.agg #[.slice B0 c d0, .slice B1 f1 d1, .slice B2 n d2, .slice B3 n d3, .slice B4 n d4, .slice B5 n d5], .int .i64 s, .int .i64 u] W fun r w' => r = .returned (.tuple #[.int .i64 (byP T1 s u).1, .bool (byP T1 s u).2]) ∧ Below W.heap.size W w') := Lib.hid (fun W g s u hs hu => by
  obtain ⟨l0, l2, l3, l4, l5⟩ := HL1.out
  have := tby_walk W ⟨B0, d0, B1, d1, B2, d2, B3, d3, B4, d4, B5, d5⟩ T1 (HT9.out.below g) HF1.out.1 HF1.out.2.1 n l2 l3 l4 l5 HF1.out.2.2 s u hs hu
  simp only [TabAt.cells, l0, hf1, l2, l3, l4, l5] at this
  exact this)
 have HY2 : Hid (∀ W, Below W9.heap.size W9 W → ∀ s u : Nat, s < n → u < n → Calls Tryz.prog 29 #[.agg #[.slice E0 cc e0, .slice E1 f2 e1, .slice E2 n e2, .slice E3 n e3, .slice E4 n e4, .slice E5 n e5], .int .i64 s, .int .i64 u] W fun r w' => r = .returned (.tuple #[.int .i64 (byP T2 s u).1, .bool (byP T2 s u).2]) ∧ Below W.heap.size W w') := Lib.hid (fun W g s u hs hu => by
  obtain ⟨l0, l2, l3, l4, l5⟩ := HL2.out
  have := tby_walk W ⟨E0, e0, E1, e1, E2, e2, E3, e3, E4, e4, E5, e5⟩ T2 (HU9.out.below g) HF2.out.1 HF2.out.2.1 n l2 l3 l4 l5 HF2.out.2.2 s u hs hu
  simp only [TabAt.cells, l0, hf2, l2, l3, l4, l5] at this
  exact this)
 have HPL : Hid (∀ W, Below W9.heap.size W9 W → ∀ v : Int, Calls Tryz.prog 30 #[.agg #[.slice E0 cc e0, .slice E1 f2 e1, .slice E2 n e2, .slice E3 n e3, .slice E4 n e4, .slice E5 n e5], .int .i64 v] W fun r w' => r = .returned (.int .i64 (idxP T2.g v)) ∧ Below W.heap.size W w') := Lib.hid (fun W g v => by
  obtain ⟨l0, l2, l3, l4, l5⟩ := HL2.out
  have := place2_walk W ⟨E0, e0, E1, e1, E2, e2, E3, e3, E4, e4, E5, e5⟩ T2 v (HU9.out.below g) (HF2.out.2.1.asc.imp (fun h => by omega)) HF2.out.1.g
  simp only [TabAt.cells, l0, hf2, l2, l3, l4, l5] at this
  exact this)
 have HGR : Hid (∀ i : Nat, i < cc → ∃ a : Addr, E0 = some a ∧ ∀ W, Below W9.heap.size W9 W → W.cell? (a.add i) = some (.int .i64 (rd T2.g (i : Int)))) := Lib.hid (fun i hi => by
  obtain ⟨a, ha, x⟩ := Kd.at_int HU9.out.g (i : Int) (by omega) (by rw [HL2.out.1]; omega)
  have x' : W9.cell? (a.add i) = some (.int .i64 (rd T2.g (i : Int))) := x
  exact ⟨a, ha, fun W g => (g.cell (World.block_lt_of_cell? W9 _ x')).trans x'⟩)
 have HIX : Hid (∀ i : Nat, i < cc → idxP T2.g (rd T2.g (i : Int)) = i) := Lib.hid (fun i hi => idxP_at (HF2.out.2.1.asc.imp (fun h => by omega)) (by rw [HL2.out.1]; exact hi) rfl)
 clear HT9 HU9 HF1 HF2 HL1 HL2 hf1 hf2
 have HCF : Hid (∀ W, Below W9.heap.size W9 W → (W.cell? ⟨gm, 0, none⟩ = some (.int .i64 n) ∧ gm < W.heap.size ∧ tb < W.heap.size ∧ tc < W.heap.size) ∧ (W.cell? ⟨tb, 0, none⟩ = some (.slice B0 c d0) ∧ W.cell? ⟨tb, 1, none⟩ = some (.slice B1 f1 d1) ∧ W.cell? ⟨tb, 2, none⟩ = some (.slice B2 n d2) ∧ W.cell? ⟨tb, 3, none⟩ = some (.slice B3 n d3) ∧ W.cell? ⟨tb, 4, none⟩ = some (.slice B4 n d4) ∧ W.cell? ⟨tb, 5, none⟩ = some (.slice B5 n d5)) ∧ (W.cell? ⟨tc, 0, none⟩ = some (.slice E0 cc e0) ∧ W.cell? ⟨tc, 1, none⟩ = some (.slice E1 f2 e1) ∧ W.cell? ⟨tc, 2, none⟩ = some (.slice E2 n e2) ∧ W.cell? ⟨tc, 3, none⟩ = some (.slice E3 n e3) ∧ W.cell? ⟨tc, 4, none⟩ = some (.slice E4 n e4) ∧ W.cell? ⟨tc, 5, none⟩ = some (.slice E5 n e5))) := Lib.hid (fun W g => by
  have hm := (g.block _ (blk_lt HM9.out)).trans HM9.out
  have ht := (g.block _ (blk_lt HX9.out)).trans HX9.out
  have hu := (g.block _ (blk_lt HY9.out)).trans HY9.out
  exact ⟨⟨(blk_cell hm 0).trans rfl, blk_lt hm, blk_lt ht, blk_lt hu⟩, ⟨(blk_cell ht 0).trans rfl, (blk_cell ht 1).trans rfl, (blk_cell ht 2).trans rfl, (blk_cell ht 3).trans rfl, (blk_cell ht 4).trans rfl, (blk_cell ht 5).trans rfl⟩, (blk_cell hu 0).trans rfl, (blk_cell hu 1).trans rfl, (blk_cell hu 2).trans rfl, (blk_cell hu 3).trans rfl, (blk_cell hu 4).trans rfl, (blk_cell hu 5).trans rfl⟩)
 clear HX9 HY9 HM9
 go_wp2_with fail
 go_loopw [12] (fun v9 wr => ∃ s : Nat, v9 = .int .i64 s ∧ s ≤ n ∧ Hid (Below W9.heap.size W9 wr)) (fun v9 _ => n - (intOf v9).toNat)
 case atStart => exact ⟨0, rfl, by omega, Lib.hid (Below.refl _ _)⟩
 case round =>
  obtain ⟨s, rfl, hs, HB⟩ := hrel
  by_cases hlt : s < n
  ·have hs0 : (0 : Int) ≤ (s : Int) := Int.natCast_nonneg _
   have hs1 : (s : Int) < (n : Int) := by omega
   obtain ⟨⟨m0, ml, tl, ul⟩, _⟩ := HCF.out wr HB.out
   go_wp2_with fail
   clear m0 ml tl ul
   go_loopw [13] (fun v10 wx => ∃ u : Nat, v10 = .int .i64 u ∧ u ≤ n ∧ Hid (Below W9.heap.size W9 wx)) (fun v10 _ => n - (intOf v10).toNat)
   case atStart => exact ⟨0, rfl, by omega, HB⟩
   case round =>
    obtain ⟨u, rfl, hu, HBU⟩ := hrel
    clear HB
    by_cases hut : u < n
    ·have hu0 : (0 : Int) ≤ (u : Int) := Int.natCast_nonneg _
     have hu1 : (u : Int) < (n : Int) := by omega
     have HV1 := Lib.hid (HY1.out wr HBU.out s u hlt hut)
     have HV2 := Lib.hid (fun W g => HY2.out W g s u hlt hut)
     have HLS := Lib.hid (HLL.out s u hlt hut)
     clear HLL
     generalize byP T1 s u = Y1 at *
     generalize byP T2 s u = Y2 at *
     obtain ⟨p1, b1⟩ := Y1
     obtain ⟨p2, b2⟩ := Y2
     simp only at HV1 HV2 HLS
     have hcf := HCF.out wr HBU.out
     obtain ⟨⟨m0, ml, tl, ul⟩, ⟨x0, x1, x2, x3, x4, x5⟩, _⟩ := hcf
     go_upto_region 13 with (first | (go_at_call 29; refine HV1.out.mono ?_; rintro e w8 ⟨rfl, g8⟩; have HB8 := Lib.hid (HBU.out.trans (g8.mono HBU.out.size)); clear g8))
     clear m0 ml tl ul x0 x1 x2 x3 x4 x5 HV1
     have HW2 := Lib.hid (HV2.out w8 HB8.out)
     have hcf := HCF.out w8 HB8.out
     obtain ⟨⟨m0, ml, tl, ul⟩, _, y0, y1, y2, y3, y4, y5⟩ := hcf
     clear HV2
     go_upto_region 14 with (first | (go_at_call 29; refine HW2.out.mono ?_; rintro e w9 ⟨rfl, g9⟩; have HB9' := Lib.hid (HB8.out.trans (g9.mono HB8.out.size)); clear g9))
     clear m0 ml tl ul y0 y1 y2 y3 y4 y5 HW2
     cases b2 with
     | false =>
      clear HLS
      go_wp2_with fail
      go_roundw
      case measure => simp [intOf]; omega
      case rel => exact ⟨u + 1, by go_num, by omega, HB9'⟩
     | true =>
      obtain rfl : b1 = true := HLS.out rfl
      go_wp2_with fail
      go_roundw
      case measure => simp [intOf]; omega
      case rel => exact ⟨u + 1, by go_num, by omega, HB9'⟩
    ·have hul : n ≤ u := by omega
     obtain ⟨⟨m0, ml, tl, ul⟩, _⟩ := HCF.out wr HBU.out
     go_wp2_with fail
     go_roundw
     case measure => simp [intOf]; omega
     case rel => exact ⟨s + 1, by go_num, by omega, HBU⟩
  ·have hsl : n ≤ s := by omega
   obtain ⟨⟨m0, ml, tl, ul⟩, _⟩ := HCF.out wr HB.out
   go_wp2_with fail
   clear m0 ml tl ul
   go_loopw [18] (fun v18 wx => ∃ i : Nat, v18 = .int .i64 i ∧ i ≤ cc ∧ Hid (Below W9.heap.size W9 wx)) (fun v18 _ => cc - (intOf v18).toNat)
   case atStart => exact ⟨0, rfl, by omega, HB⟩
   case round =>
    obtain ⟨i, rfl, hi, HBI⟩ := hrel
    clear HB
    by_cases hit : i < cc
    ·have hi0 : (0 : Int) ≤ (i : Int) := Int.natCast_nonneg _
     have hi1 : (i : Int) < (cc : Int) := by omega
     obtain ⟨ag, hag, hcell⟩ := HGR.out i hit
     subst hag
     have HGC := Lib.hid hcell
     have HP := Lib.hid (HPL.out wr.drew HBI.out.drew (rd T2.g (i : Int)))
     rw [HIX.out i hit] at HP
     generalize rd T2.g (i : Int) = gv at *
     have t0 : ((i : Int) != (i : Int)) = false := by simp
     obtain ⟨⟨m0, ml, tl, ul⟩, _, y0, y1, y2, y3, y4, y5⟩ := HCF.out wr HBI.out
     clear hcell
     go_upto_region 19 with fail
     clear m0 ml tl ul y0 y1 y2 y3 y4 y5
     refine start_ (n := 9) (S := fun w' => w'.cell? ⟨tc, 0, none⟩ = some (.slice (some ag) cc e0) ∧ w'.cell? ⟨tc, 1, none⟩ = some (.slice E1 f2 e1) ∧ w'.cell? ⟨tc, 2, none⟩ = some (.slice E2 n e2) ∧ w'.cell? ⟨tc, 3, none⟩ = some (.slice E3 n e3) ∧ w'.cell? ⟨tc, 4, none⟩ = some (.slice E4 n e4) ∧ w'.cell? ⟨tc, 5, none⟩ = some (.slice E5 n e5) ∧ w'.cell? (ag.add i) = some (.int .i64 gv)) (ds := []) (bA_ 9 0) (by kernel_rfl) rfl rfl ⟨(HCF.out _ HBI.out.drew).2.2.1, (HCF.out _ HBI.out.drew).2.2.2.1, (HCF.out _ HBI.out.drew).2.2.2.2.1, (HCF.out _ HBI.out.drew).2.2.2.2.2.1, (HCF.out _ HBI.out.drew).2.2.2.2.2.2.1, (HCF.out _ HBI.out.drew).2.2.2.2.2.2.2, HGC.out _ HBI.out.drew⟩ (fun hHeld => ?_)
     refine p2_ 1 76 (bA_ 9 2) ?_
     refine p2_ 3 78 (bA_ 9 10) ?_
     refine p2_ 7 82 (bA_ 9 138) ?_
     refine t2_ 0 75 (bA_ 9 139) hHeld ?_ (hy := by rintro w' ⟨s0, s1, s2, s3, s4, s5, s6⟩; go_simp; with_reducible rfl)
     refine t2_ 2 77 (bA_ 9 143) hHeld ?_ (hy := by rintro w' ⟨s0, s1, s2, s3, s4, s5, s6⟩; go_simp; with_reducible rfl)
     refine p2_ 4 79 (bA_ 9 159) ?_
     refine t2_ 5 80 (bA_ 9 191) hHeld ?_ (hy := by rintro w' ⟨s0, s1, s2, s3, s4, s5, s6⟩; go_simp; with_reducible rfl)
     refine one_ (i := 6) (N := some 81) (bA_ 9 255) rfl rfl (by kernel_rfl) (by decide) (fun K hK => ?_)
     refine goes_ Tryz.func30 (by kernel_rfl) rfl #[.agg #[.slice (some ag) cc e0, .slice E1 f2 e1, .slice E2 n e2, .slice E3 n e3, .slice E4 n e4, .slice E5 n e5], .int .i64 gv] (by rfl) rfl rfl (by simp only [List.map_toArray, List.map_cons, List.map_nil]; rfl) ?_
     with_reducible refine (HP.out).mono ?_
     rintro e w3 ⟨rfl, g⟩
     refine ⟨_, rfl, ?_⟩
     have HG3 := Lib.hid ((HBI.out.drew).trans (g.mono (HBI.out.drew).size))
     clear g
     refine hK.out _ _ ⟨(HCF.out _ HG3.out).2.2.1, (HCF.out _ HG3.out).2.2.2.1, (HCF.out _ HG3.out).2.2.2.2.1, (HCF.out _ HG3.out).2.2.2.2.2.1, (HCF.out _ HG3.out).2.2.2.2.2.2.1, (HCF.out _ HG3.out).2.2.2.2.2.2.2, HGC.out _ HG3.out⟩ (fun hHeld => ?_)
     clear hK K
     refine norm_ (a' := ?_) ?_ ?_
     rotate_left
     ·show Act.put _ (some 81) _ = _
      simp only [zN_]
      rfl
     refine p2_ 8 83 (bA_ 9 511) ?_
     refine done_ (by kernel_rfl) ?_
     go_wp2_with fail
     go_roundw
     case measure => simp [intOf]; omega
     case rel => exact ⟨i + 1, by go_num, by omega, HG3⟩
    ·have hul : cc ≤ i := by omega
     obtain ⟨⟨m0, ml, tl, ul⟩, ⟨x0, x1, x2, x3, x4, x5⟩, y0, y1, y2, y3, y4, y5⟩ := HCF.out wr HBI.out
     have t0 : ((c : Int) == (c : Int)) = true := by simp
     have t1 : ((cc : Int) == (c : Int) + 1) = true := by simp; omega
     go_wp2_with (first | (go_at_call 22; refine (HKN.out _).mono ?_; rintro e WK ⟨rfl, gk⟩; have HBK := Lib.hid (HB9.out.trans ((HBI.out.trans (gk.mono HBI.out.size)).mono HB9.out.size)); clear gk))
     all_goals (try rw [Exit.noGoto_ret])
     all_goals go_ret
     all_goals exact ⟨rfl, HBK.out⟩
end Go.Proofs.YtfkejflmhidnaaaGreat.PAll
