import Derived.Test.YtfppfdejjifhdaaQLkA
namespace Go.Proofs.Ytfppfdejjifhdaa.PAll
open Go.RowKit Go.Proofs.YtfppfdejjifhdaaW.PrintWords Go.Proofs.YtfppfdejjifhdaaW.PrintLast Go.Proofs.YtfppfdejjifhdaaW.PrintMore
open Hp hiding Good
set_option linter.unusedVariables false
set_option linter.unusedSimpArgs false

theorem tmod_natN {a : Int} (h0 : 0 ≤ a) (n : Nat) (hn : 0 < n) : ∃ v : Nat, Int.tmod a n = v ∧ v < n := by
  have h1 : Int.tmod a n < n := Int.tmod_lt_of_pos a (by omega)
  have h2 : 0 ≤ Int.tmod a n := Int.tmod_nonneg _ h0
  exact ⟨(Int.tmod a n).toNat, by omega, by omega⟩
/-- nothing is within less than nothing -/
theorem near_neg {n : Nat} {wm : Int} {F : Int → Int → Option WayP} (h : LOk n wm F) {wo u v m : Int} (hm : m < 0) : ¬ nearP (edgeL F wo) u v m := by
  rintro ⟨d, hd, hw⟩
  have := hw.nonneg (fun a b w g => ((h.eok wo).ends a b w g).2.2.2.2.2)
  omega

set_option maxRecDepth 100000 in
set_option maxHeartbeats 8000000 in
/-- LeftNearer: true -/
theorem nearer_walk (w : World) (a0 : Int) (A1 : Option Addr) (c1 : Nat) (l1 : List S42) (hr1 : Kd.C k42 w A1 l1.length l1) (hc1 : l1.length ≤ c1) (dk du dv dW dm : Int) (hwdu : (Lit.int .i64 du).wf = true) (hwdv : (Lit.int .i64 dv).wf = true)
    (a b k : Int) (ha0 : 0 ≤ a) (ha1 : a ≤ 255) (hb0 : 0 ≤ b) (hb1 : b ≤ 255) (hk0 : 0 ≤ k) (hk1 : k ≤ 65535) :
    Calls Try.prog 3 #[.int .i64 a0, .slice A1 l1.length c1, .agg #[.int .i64 dk, .int .i64 du, .int .i64 dv, .int .i64 dW, .int .i64 dm], .int .u8 a, .int .u8 b, .int .u16 k] w fun r w' => r = .returned (.bool true) ∧ Below w.heap.size w w' := by
  have g0 : Below w.heap.size w (w.alloc (.cells #[.int .i64 dk, .int .i64 du, .int .i64 dv, .int .i64 dW, .int .i64 dm] 24)) := (Below.refl _ _).alloc (Nat.le_refl _) _
  have HZ0 := Lib.hid (blk_new w (.cells #[.int .i64 dk, .int .i64 du, .int .i64 dv, .int .i64 dW, .int .i64 dm] 24))
  obtain ⟨n, A, hok, hof⟩ := of_law (w.alloc (.cells #[.int .i64 dk, .int .i64 du, .int .i64 dv, .int .i64 dW, .int .i64 dm] 24)) a0 A1 c1 l1 (Kd.C_alloc hr1 _) hc1
  have HG0 := Lib.hid g0
  have HOF := Lib.hid hof
  have HOK := Lib.hid hok
  have hn0 := hok.n0
  have hn1 := hok.n1
  obtain ⟨u, hu, hun⟩ := tmod_natN ha0 n (by omega)
  obtain ⟨v, hv, hvn⟩ := tmod_natN hb0 n (by omega)
  clear hof hok hr1 hc1 g0
  have hwa : IntKind.i64.wrap a = a := i64w rfl (by omega) (by omega)
  have hwb : IntKind.i64.wrap b = b := i64w rfl (by omega) (by omega)
  have hwk : IntKind.i64.wrap k = k := i64w rfl (by omega) (by omega)
  have hwk1 : IntKind.i64.wrap (k + 1) = k + 1 := i64w rfl (by omega) (by omega)
  have hnz : ((n : Int) == 0) = false := by simp; omega
  have hnz' : (n : Int) ≠ 0 := by omega
  have hnz2 : (n == 0) = false := by simp; omega
  go_enter Try.func3, Try.ntmps3
  go_upto_region 2 with (first | (go_at_call 5; (with_reducible refine HOF.out.mono ?_); (rintro e W2 ⟨Aa, ca, rfl, hca, hCA, g2⟩; have HCA := Lib.hid (And.intro hca hCA); have HG2 := Lib.hid (HG0.out.trans (g2.mono HG0.out.size)); have HZ2 := Lib.hid ((g2.block _ (blk_lt HZ0.out)).trans HZ0.out); clear hca hCA g2)))
  have HM3 := Lib.hid (blk_new W2 (.cells #[.int .i64 n, .slice Aa A.length ca] 27))
  have HG3 : Hid (Below w.heap.size w (W2.alloc (.cells #[.int .i64 n, .slice Aa A.length ca] 27))) := Lib.hid (HG2.out.alloc HG2.out.size _)
  have HCA3 : Hid (A.length ≤ ca ∧ Kd.C k42 (W2.alloc (.cells #[.int .i64 n, .slice Aa A.length ca] 27)) Aa A.length A) := Lib.hid ⟨HCA.out.1, Kd.C_alloc HCA.out.2 _⟩
  have HZ3 := Lib.hid ((((Below.refl W2.heap.size W2).alloc (Nat.le_refl _) (.cells #[.int .i64 n, .slice Aa A.length ca] 27)).block _ (blk_lt HZ2.out)).trans HZ2.out)
  clear HCA HG2 HOF HZ2 HZ0 HG0
  generalize W2.alloc (.cells #[.int .i64 n, .slice Aa A.length ca] 27) = W3 at *
  generalize W2.heap.size = mb at *
  generalize w.alloc (.cells #[.int .i64 dk, .int .i64 du, .int .i64 dv, .int .i64 dW, .int .i64 dm] 24) = W1 at *
  generalize hzb : w.heap.size = zb at *
  have HZB := Lib.hid hzb
  clear hzb
  rw [← HZB.out] at HG3
  have z3 := (blk_cell HZ3.out 3).trans rfl
  have zl := blk_lt HZ3.out
  by_cases hd : 1099511627776 < dW
  · have e0 : decide (1099511627776 < dW) = true := decide_eq_true hd
    have HKN := Lib.hid (known_walk W3)
    clear hd
    go_wp2_with (first | (go_at_call 6; (with_reducible refine HKN.out.mono ?_); (rintro e W11 ⟨rfl, hB⟩)))
    go_ret
    exact ⟨rfl, HG3.out.trans (hB.mono HG3.out.size)⟩
  have e0 : decide (1099511627776 < dW) = false := decide_eq_false hd
  have m0 := (blk_cell HM3.out 0).trans rfl
  have m1 := (blk_cell HM3.out 1).trans rfl
  have ml := blk_lt HM3.out
  have HGN := Lib.hid (gnew_walk W3 n A Aa ca HCA3.out.2 HCA3.out.1 HOK.out)
  go_upto_region 5 with (first | (go_at_call 8; (with_reducible refine HGN.out.mono ?_); (rintro e W4 ⟨gb, E, rfl, hGR, hGO, g4⟩; have HLL := Lib.hid (left_law w W4 mb gb n A E HOK.out hGR hGO ⟨_, (g4.block _ (blk_lt HM3.out)).trans HM3.out⟩ (HG3.out.trans (g4.mono HG3.out.size))); have HZ4 := Lib.hid ((g4.block _ (blk_lt HZ3.out)).trans HZ3.out); clear hGR hGO g4)) | (go_at_call 7; (with_reducible refine HLL.out.mono ?_); (rintro e W5 ⟨lb, F, B, rfl, hL5, g5⟩; have HL5 := Lib.hid hL5; have HZ5 := Lib.hid ((g5.block _ (blk_lt HZ4.out)).trans HZ4.out); clear hL5 HLL g5)))
  clear m0 m1 ml z3 zl HGN HCA3 HG3 HM3 HZ3 HZ4
  obtain ⟨m0, ml⟩ := HL5.out.size
  go_upto_region 8 with fail
  clear m0 ml
  have hdm : dW ≤ 1125899906842624 := by omega
  clear hd e0
  by_cases hP : nearP (edgeL F (-1)) u v k
  · have HPP := Lib.hid hP
    clear hP
    have HN0 := Lib.hid (HL5.out.near_yes hun hvn (by omega) (by omega) HPP.out)
    go_upto_region 9 with (first | (go_at_call 9; (with_reducible refine HN0.out.mono ?_); (rintro e W6 ⟨rfl, hL6, g6⟩; have HL6 := Lib.hid hL6; have HZ6 := Lib.hid ((g6.block _ (blk_lt HZ5.out)).trans HZ5.out); clear hL6 g6)))
    have HN1 := Lib.hid (HL6.out.near_yes hun hvn (most := k + 1) (by omega) (by omega) (near_more HPP.out (by omega)))
    go_upto_region 11 with (first | (go_at_call 9; (with_reducible refine HN1.out.mono ?_); (rintro e W7 ⟨rfl, hL7, g7⟩; have HL7 := Lib.hid hL7; have HZ7 := Lib.hid ((g7.block _ (blk_lt HZ6.out)).trans HZ6.out); have HN2 := Lib.hid (HL7.out.near_yes hun hun (most := 0) (by omega) (by omega) (near_self (Int.le_refl _))); clear hL7 g7)) | (go_at_call 9; (with_reducible refine HN2.out.mono ?_); (rintro e W8 ⟨rfl, hL8, g8⟩; have HL8 := Lib.hid hL8; have HZ8 := Lib.hid ((g8.block _ (blk_lt HZ7.out)).trans HZ7.out); have HN3 := Lib.hid (HL8.out.near_wo hun hvn (most := k) (by omega) (by omega)); clear hL8 g8)) | (go_at_call 9; (with_reducible refine HN3.out.mono ?_); (rintro e W9 ⟨rfl, hL9, g9⟩; have HL9 := Lib.hid hL9; have HZ9 := Lib.hid ((g9.block _ (blk_lt HZ8.out)).trans HZ8.out); have HN4 := Lib.hid (HL9.out.near_no hun hun (most := -1) (by omega) (by omega) (near_neg HL9.out.ok (by omega))); clear hL9 g9)) | (go_at_call 9; (with_reducible refine HN4.out.mono ?_); (rintro e W10 ⟨rfl, hL10, g10⟩; have HL10 := Lib.hid hL10; have HZ10 := Lib.hid ((g10.block _ (blk_lt HZ9.out)).trans HZ9.out); clear hL10 g10)))
    have z1 := (blk_cell HZ10.out 1).trans rfl
    have z2 := (blk_cell HZ10.out 2).trans rfl
    have z3 := (blk_cell HZ10.out 3).trans rfl
    have z4 := (blk_cell HZ10.out 4).trans rfl
    have zl := blk_lt HZ10.out
    have HP := Lib.hid (HL10.out.put (by decide) du dv dW dm hwdu hwdv hdm)
    go_upto_region 12 with (first | (go_at_call 10; (with_reducible refine HP.out.mono ?_); (rintro e W11 ⟨rfl, hL11, o11⟩; have HL11 := Lib.hid hL11; clear hL11 o11)))
    clear z1 z2 z3 z4 zl HP HL10 HZ10 HN4 HN3 HN2
    have HPQ : Hid (nearP (edgeL (if laysP n F du dv dW dm = true then putF F du dv ⟨dW, dm, -1⟩ else F) (-1)) u v k) := Lib.hid (by
      by_cases hl : laysP n F du dv dW dm = true
      · rw [if_pos hl]; exact near_put (y := ⟨dW, dm, -1⟩) hl HPP.out
      · rw [if_neg hl]; exact HPP.out)
    have HNL := Lib.hid (HL11.out.near_yes hun hvn (most := k) (by omega) (by omega) HPQ.out)
    go_wp2_with (first | (go_at_call 9; (with_reducible refine HNL.out.mono ?_); (rintro e W12 ⟨rfl, hL12, g12⟩; have HKN := Lib.hid hL12.known; clear hL12 g12)) | (go_at_call 6; (with_reducible refine HKN.out.mono ?_); (rintro e W13 ⟨rfl, hB⟩)))
    go_ret
    exact ⟨rfl, hB⟩
  · have HPP := Lib.hid hP
    clear hP
    have HN0 := Lib.hid (HL5.out.near_no hun hvn (by omega) (by omega) HPP.out)
    go_upto_region 9 with (first | (go_at_call 9; (with_reducible refine HN0.out.mono ?_); (rintro e W6 ⟨rfl, hL6, g6⟩; have HL6 := Lib.hid hL6; have HZ6 := Lib.hid ((g6.block _ (blk_lt HZ5.out)).trans HZ5.out); clear hL6 g6)))
    have HN2 := Lib.hid (HL6.out.near_yes hun hun (most := 0) (by omega) (by omega) (near_self (Int.le_refl _)))
    go_upto_region 11 with (first | (go_at_call 9; (with_reducible refine HN2.out.mono ?_); (rintro e W8 ⟨rfl, hL8, g8⟩; have HL8 := Lib.hid hL8; have HZ8 := Lib.hid ((g8.block _ (blk_lt HZ6.out)).trans HZ6.out); have HN3 := Lib.hid (HL8.out.near_wo hun hvn (most := k) (by omega) (by omega)); clear hL8 g8)) | (go_at_call 9; (with_reducible refine HN3.out.mono ?_); (rintro e W9 ⟨rfl, hL9, g9⟩; have HL9 := Lib.hid hL9; have HZ9 := Lib.hid ((g9.block _ (blk_lt HZ8.out)).trans HZ8.out); have HN4 := Lib.hid (HL9.out.near_no hun hun (most := -1) (by omega) (by omega) (near_neg HL9.out.ok (by omega))); clear hL9 g9)) | (go_at_call 9; (with_reducible refine HN4.out.mono ?_); (rintro e W10 ⟨rfl, hL10, g10⟩; have HL10 := Lib.hid hL10; have HZ10 := Lib.hid ((g10.block _ (blk_lt HZ9.out)).trans HZ9.out); clear hL10 g10)))
    have z1 := (blk_cell HZ10.out 1).trans rfl
    have z2 := (blk_cell HZ10.out 2).trans rfl
    have z3 := (blk_cell HZ10.out 3).trans rfl
    have z4 := (blk_cell HZ10.out 4).trans rfl
    have zl := blk_lt HZ10.out
    have HP := Lib.hid (HL10.out.put (by decide) du dv dW dm hwdu hwdv hdm)
    go_upto_region 12 with (first | (go_at_call 10; (with_reducible refine HP.out.mono ?_); (rintro e W11 ⟨rfl, hL11, o11⟩; have HL11 := Lib.hid hL11; clear hL11 o11)))
    clear z1 z2 z3 z4 zl HP HL10 HZ10 HN4 HN3 HN2
    have HKN := Lib.hid HL11.out.known
    go_wp2_with (first | (go_at_call 6; (with_reducible refine HKN.out.mono ?_); (rintro e W13 ⟨rfl, hB⟩)))
    go_ret
    exact ⟨rfl, hB⟩
end Go.Proofs.Ytfppfdejjifhdaa.PAll

namespace Go.Proofs.Ytfppfdejjifhdaa.PAll
open Go.RowKit Go.Proofs.YtfppfdejjifhdaaW.PrintWords Go.Proofs.YtfppfdejjifhdaaW.PrintLast Go.Proofs.YtfppfdejjifhdaaW.PrintMore
open Hp hiding Good
attribute [local go_sem high] eqA37
set_option linter.unusedVariables false
set_option linter.unusedSimpArgs false

theorem tmod_natL {a : Int} (h0 : 0 ≤ a) (n : Nat) (hn : 0 < n) : ∃ v : Nat, Int.tmod a n = v ∧ v < n := by
  have h1 : Int.tmod a n < n := Int.tmod_lt_of_pos a (by omega)
  have h2 : 0 ≤ Int.tmod a n := Int.tmod_nonneg _ h0
  exact ⟨(Int.tmod a n).toNat, by omega, by omega⟩

set_option maxRecDepth 100000 in
set_option maxHeartbeats 8000000 in
/-- LeftPuts: true -/
theorem puts_walk (w : World) (a0 : Int) (A1 : Option Addr) (c1 : Nat) (l1 : List S42) (hr1 : Kd.C k42 w A1 l1.length l1) (hc1 : l1.length ≤ c1) (a b dw : Int) (ha0 : 0 ≤ a) (ha1 : a ≤ 255) (hb0 : 0 ≤ b) (hb1 : b ≤ 255) (hd0 : 0 ≤ dw) (hd1 : dw ≤ 65535) :
    Calls Try.prog 4 #[.int .i64 a0, .slice A1 l1.length c1, .int .u8 a, .int .u8 b, .int .u16 dw] w fun r w' => r = .returned (.bool true) ∧ Below w.heap.size w w' := by
  obtain ⟨n, A, hok, hof⟩ := of_law w a0 A1 c1 l1 hr1 hc1
  have HOF := Lib.hid hof
  have HOK := Lib.hid hok
  have hn0 := hok.n0
  have hn1 := hok.n1
  obtain ⟨u, hu, hun⟩ := tmod_natL ha0 n (by omega)
  obtain ⟨v, hv, hvn⟩ := tmod_natL hb0 n (by omega)
  clear hof hok hr1 hc1
  have hwa : IntKind.i64.wrap a = a := i64w rfl (by omega) (by omega)
  have hwb : IntKind.i64.wrap b = b := i64w rfl (by omega) (by omega)
  have hwd : IntKind.i64.wrap dw = dw := i64w rfl (by omega) (by omega)
  have hwd1 : IntKind.i64.wrap (1 + dw) = 1 + dw := i64w rfl (by omega) (by omega)
  have hnz : ((n : Int) == 0) = false := by simp; omega
  have hnz' : (n : Int) ≠ 0 := by omega
  have hnz2 : (n == 0) = false := by simp; omega
  go_enter Try.func4, Try.ntmps4
  go_upto_region 2 with (first | (go_at_call 5; with_reducible refine HOF.out.mono ?_; rintro e W2 ⟨Aa, ca, rfl, hca, hCA, g2⟩; have HCA := Lib.hid (And.intro hca hCA); have HG2 := Lib.hid g2; clear hca hCA g2))
  have HM3 := Lib.hid (blk_new W2 (.cells #[.int .i64 n, .slice Aa A.length ca] 27))
  have HG3 : Hid (Below w.heap.size w (W2.alloc (.cells #[.int .i64 n, .slice Aa A.length ca] 27))) := Lib.hid (HG2.out.alloc HG2.out.size _)
  have HCA3 : Hid (A.length ≤ ca ∧ Kd.C k42 (W2.alloc (.cells #[.int .i64 n, .slice Aa A.length ca] 27)) Aa A.length A) := Lib.hid ⟨HCA.out.1, Kd.C_alloc HCA.out.2 _⟩
  clear HCA HG2 HOF
  generalize W2.alloc (.cells #[.int .i64 n, .slice Aa A.length ca] 27) = W3 at *
  generalize W2.heap.size = mb at *
  have m0 := (blk_cell HM3.out 0).trans rfl
  have m1 := (blk_cell HM3.out 1).trans rfl
  have ml := blk_lt HM3.out
  have HGN := Lib.hid (gnew_walk W3 n A Aa ca HCA3.out.2 HCA3.out.1 HOK.out)
  go_upto_region 3 with (first | (go_at_call 8; (with_reducible refine HGN.out.mono ?_); (rintro e W4 ⟨gb, E, rfl, hGR, hGO, g4⟩; have HLL := Lib.hid (left_law w W4 mb gb n A E HOK.out hGR hGO ⟨_, (g4.block _ (blk_lt HM3.out)).trans HM3.out⟩ (HG3.out.trans (g4.mono HG3.out.size))); clear hGR hGO g4)) | (go_at_call 7; (with_reducible refine HLL.out.mono ?_); (rintro e W5 ⟨lb, F, B, rfl, hL5, g5⟩; have HL5 := Lib.hid hL5; clear hL5 HLL g5)))
  clear m0 m1 ml HGN HCA3 HG3 HM3
  obtain ⟨m0, ml⟩ := HL5.out.size
  go_upto_region 5 with fail
  clear m0 ml
  have HWY := Lib.hid (HL5.out.way u v hun hvn)
  have hwu : (Lit.int .i64 (u : Int)).wf = true := wf64 (by omega) (by omega)
  have hwv : (Lit.int .i64 (v : Int)).wf = true := wf64 (by omega) (by omega)
  by_cases huv : u = v
  · subst huv
    have hF : F u u = none := by
      cases h : F u u with
      | none => rfl
      | some y => exact absurd rfl (HL5.out.ok.ends _ _ _ h).2.2.2.2.1
    rw [hF] at HWY
    simp only [Option.getD_none, Option.isSome_none, wayV] at HWY
    have HFN := Lib.hid hF
    clear hF
    go_upto_region 6 with (first | (go_at_call 11; (with_reducible refine HWY.out.mono ?_); (rintro e W6 ⟨rfl, hL6, g6⟩; have HL6 := Lib.hid hL6; clear hL6 g6)))
    have HL7 := Lib.hid (HL6.out.alloc (.cells #[.int .i64 0, .int .i64 0, .int .i64 0] 37))
    clear HL6 HL5 HWY
    generalize W6.alloc (.cells #[.int .i64 0, .int .i64 0, .int .i64 0] 37) = W7 at *
    generalize W6.heap.size = zb at *
    have HP := Lib.hid (HL7.out.put_no (by decide) (mid := 3) hwu hwu (show 1 + dw ≤ 1125899906842624 by omega) lays_self)
    go_upto_region 10 with (first | (go_at_call 10; (with_reducible refine HP.out.mono ?_); (rintro e W8 ⟨rfl, hL8, o8⟩; have HL8 := Lib.hid hL8; clear hL8 o8)))
    have HWY := Lib.hid (HL8.out.way u u hun hun)
    rw [HFN.out] at HWY
    simp only [Option.getD_none, Option.isSome_none, wayV] at HWY
    go_upto_region 11 with (first | (go_at_call 11; (with_reducible refine HWY.out.mono ?_); (rintro e W9 ⟨rfl, hL9, g9⟩; have HL9 := Lib.hid hL9; clear hL9 g9)))
    have HL10 := Lib.hid (HL9.out.alloc (.cells #[.int .i64 0, .int .i64 0, .int .i64 0] 37))
    have HKN := Lib.hid (HL10.out.known)
    clear HL9 HL8 HL7 HP HWY HL10
    generalize W9.alloc (.cells #[.int .i64 0, .int .i64 0, .int .i64 0] 37) = W10 at *
    generalize W9.heap.size = zc at *
    go_wp2_with (first | (go_at_call 6; (with_reducible refine HKN.out.mono ?_); (rintro e W11 ⟨rfl, hB⟩)))
    go_ret
    exact ⟨rfl, hB⟩
  have huv' : (u : Int) ≠ v := fun e => huv (by omega)
  have e0 : ((u : Int) == (v : Int)) = false := beq_eq_false_iff_ne.mpr huv'
  have e0n : ((u : Int) != (v : Int)) = true := bne_iff_ne.mpr huv'
  have hwd2 : IntKind.i64.wrap (1 + dw + 1) = 1 + dw + 1 := i64w (by omega) (by omega) (by omega)
  clear huv
  cases hF : F u v with
  | none =>
    have HLY : Hid (laysP n F u v (1 + dw) 3 = true) := Lib.hid (lays_none (by omega) (by omega) (by omega) (by omega) huv' (by omega) (by omega) hF)
    rw [hF] at HWY
    simp only [Option.getD_none, Option.isSome_none, wayV] at HWY
    clear hF
    go_upto_region 6 with (first | (go_at_call 11; (with_reducible refine HWY.out.mono ?_); (rintro e W6 ⟨rfl, hL6, g6⟩; have HL6 := Lib.hid hL6; clear hL6 g6)))
    have HL7 := Lib.hid (HL6.out.alloc (.cells #[.int .i64 0, .int .i64 0, .int .i64 0] 37))
    have HZ7 := Lib.hid (blk_new W6 (.cells #[.int .i64 0, .int .i64 0, .int .i64 0] 37))
    clear HL6 HL5 HWY
    generalize W6.alloc (.cells #[.int .i64 0, .int .i64 0, .int .i64 0] 37) = W7 at *
    generalize W6.heap.size = zb at *
    have HP := Lib.hid (HL7.out.put_yes (by decide) (mid := 3) hwu hwv (show 1 + dw ≤ 1125899906842624 by omega) HLY.out)
    go_upto_region 8 with (first | (go_at_call 10; (with_reducible refine HP.out.mono ?_); (rintro e W8 ⟨rfl, hL8, o8⟩; have HL8 := Lib.hid hL8; have HZ8 := Lib.hid (HL7.out.kept HZ7.out o8); clear hL8 o8)))
    clear HL7 HZ7 HP
    have q0 := (blk_cell HZ8.out 0).trans rfl
    have ql := blk_lt HZ8.out
    go_upto_region 10 with fail
    clear q0 ql
    have HF1 := Lib.hid (put_at F u v ⟨1 + dw, 3, -1⟩)
    have HWY := Lib.hid (HL8.out.way u v hun hvn)
    rw [HF1.out] at HWY
    simp only [Option.getD_some, Option.isSome_some, wayV] at HWY
    go_upto_region 11 with (first | (go_at_call 11; (with_reducible refine HWY.out.mono ?_); (rintro e W9 ⟨rfl, hL9, g9⟩; have HL9 := Lib.hid hL9; have HZ9 := Lib.hid ((g9.block _ (blk_lt HZ8.out)).trans HZ8.out); clear hL9 g9)))
    have HL10 := Lib.hid (HL9.out.alloc (.cells #[.int .i64 (1 + dw), .int .i64 3, .int .i64 (-1)] 37))
    have HY10 := Lib.hid (blk_new W9 (.cells #[.int .i64 (1 + dw), .int .i64 3, .int .i64 (-1)] 37))
    have HZ10 := Lib.hid ((((Below.refl W9.heap.size W9).alloc (Nat.le_refl _) (.cells #[.int .i64 (1 + dw), .int .i64 3, .int .i64 (-1)] 37)).block _ (blk_lt HZ9.out)).trans HZ9.out)
    clear HL9 HL8 HWY HZ9 HZ8
    generalize W9.alloc (.cells #[.int .i64 (1 + dw), .int .i64 3, .int .i64 (-1)] 37) = W10 at *
    generalize W9.heap.size = zc at *
    have q0 := (blk_cell HZ10.out 0).trans rfl
    have q1 := (blk_cell HZ10.out 1).trans rfl
    have q2 := (blk_cell HZ10.out 2).trans rfl
    have ql := blk_lt HZ10.out
    have r0 := (blk_cell HY10.out 0).trans rfl
    have r1 := (blk_cell HY10.out 1).trans rfl
    have r2 := (blk_cell HY10.out 2).trans rfl
    have rl := blk_lt HY10.out
    have HP1 := Lib.hid (HL10.out.put_no (by decide) (mid := 4) hwu hwv (show 1 + dw ≤ 1125899906842624 by omega) (lays_not HF1.out (by show (1 + dw) ≤ 1 + dw; omega)))
    go_upto_region 15 with (first | (go_at_call 10; (with_reducible refine HP1.out.mono ?_); (rintro e W11 ⟨rfl, hL11, o11⟩; have HL11 := Lib.hid hL11; have HY11 := Lib.hid (HL10.out.kept HY10.out o11); have HP2 := Lib.hid (HL11.out.put_no (by decide) (mid := 4) hwu hwv (show 1 + dw + 1 ≤ 1125899906842624 by omega) (lays_not HF1.out (by show (1 + dw) ≤ 1 + dw + 1; omega))); clear hL11 o11)) | (go_at_call 10; (with_reducible refine HP2.out.mono ?_); (rintro e W12 ⟨rfl, hL12, o12⟩; have HL12 := Lib.hid hL12; have HY12 := Lib.hid (HL11.out.kept HY11.out o12); clear hL12 o12)))
    clear q0 q1 q2 ql r0 r1 r2 rl HL10 HL11 HY10 HY11 HZ10 HP1 HP2
    have HN := Lib.hid (HL12.out.near_yes hun hvn (most := 1 + dw) (by omega) (by omega) (near_way HF1.out (by omega) (by show (1 + dw) ≤ 1 + dw; omega)))
    have e5 : (1 + dw == 0) = false := beq_eq_false_iff_ne.mpr (by omega)
    have hw5 : IntKind.i64.wrap (1 + dw - 1) = 1 + dw - 1 := i64w (by omega) (by omega) (by omega)
    have HP3 : Hid (laysP n (putF F u v ⟨1 + dw, 3, -1⟩) u v ((1 + dw) - 1) 5 = true) := Lib.hid (lays_less (by omega) (by omega) (by omega) (by omega) huv' (by omega) (by omega) HF1.out (by show (1 + dw) - 1 < (1 + dw); omega))
    have hd5 : (1 + dw) - 1 ≤ 1125899906842624 := by omega
    go_wp2_with (first | (go_at_call 9; (with_reducible refine HN.out.mono ?_); (rintro e W13 ⟨rfl, hL13, g13⟩; have HL13 := Lib.hid hL13; have HY13 := Lib.hid ((g13.block _ (blk_lt HY12.out)).trans HY12.out); have r0 := (blk_cell HY13.out 0).trans rfl; have rl := blk_lt HY13.out; have HP4 := Lib.hid (HL13.out.put_yes (by decide) hwu hwv hd5 HP3.out); clear hL13 g13)) | (go_at_call 10; (with_reducible refine HP4.out.mono ?_); (rintro e W14 ⟨rfl, hL14, o14⟩; have HKN := Lib.hid hL14.known; clear hL14 o14)) | (go_at_call 6; (with_reducible refine HKN.out.mono ?_); (rintro e W15 ⟨rfl, hB⟩)))
    go_ret
    exact ⟨rfl, hB⟩
  | some y =>
    obtain ⟨y0, y1, y2⟩ := y
    have HFN := Lib.hid hF
    obtain ⟨_, _, _, _, _, hy0, hy1⟩ := HL5.out.ok.ends _ _ _ hF
    simp only at hy0 hy1
    rw [hF] at HWY
    simp only [Option.getD_some, Option.isSome_some, wayV] at HWY
    by_cases hyd : 1 + dw < y0
    · have HLY : Hid (laysP n F u v (1 + dw) 3 = true) := Lib.hid (lays_less (by omega) (by omega) (by omega) (by omega) huv' (by omega) (by omega) hF (by show 1 + dw < y0; omega))
      have e1 : decide (1 + dw < y0) = true := decide_eq_true hyd
      clear hF hyd
      go_upto_region 6 with (first | (go_at_call 11; (with_reducible refine HWY.out.mono ?_); (rintro e W6 ⟨rfl, hL6, g6⟩; have HL6 := Lib.hid hL6; clear hL6 g6)))
      have HL7 := Lib.hid (HL6.out.alloc (.cells #[.int .i64 y0, .int .i64 y1, .int .i64 y2] 37))
      have HZ7 := Lib.hid (blk_new W6 (.cells #[.int .i64 y0, .int .i64 y1, .int .i64 y2] 37))
      clear HL6 HL5 HWY
      generalize W6.alloc (.cells #[.int .i64 y0, .int .i64 y1, .int .i64 y2] 37) = W7 at *
      generalize W6.heap.size = zb at *
      have HP := Lib.hid (HL7.out.put_yes (by decide) (mid := 3) hwu hwv (show 1 + dw ≤ 1125899906842624 by omega) HLY.out)
      go_upto_region 8 with (first | (go_at_call 10; (with_reducible refine HP.out.mono ?_); (rintro e W8 ⟨rfl, hL8, o8⟩; have HL8 := Lib.hid hL8; have HZ8 := Lib.hid (HL7.out.kept HZ7.out o8); clear hL8 o8)))
      clear HL7 HZ7 HP
      have q0 := (blk_cell HZ8.out 0).trans rfl
      have ql := blk_lt HZ8.out
      go_upto_region 10 with fail
      clear q0 ql
      have HF1 := Lib.hid (put_at F u v ⟨1 + dw, 3, -1⟩)
      have HWY := Lib.hid (HL8.out.way u v hun hvn)
      rw [HF1.out] at HWY
      simp only [Option.getD_some, Option.isSome_some, wayV] at HWY
      go_upto_region 11 with (first | (go_at_call 11; (with_reducible refine HWY.out.mono ?_); (rintro e W9 ⟨rfl, hL9, g9⟩; have HL9 := Lib.hid hL9; have HZ9 := Lib.hid ((g9.block _ (blk_lt HZ8.out)).trans HZ8.out); clear hL9 g9)))
      have HL10 := Lib.hid (HL9.out.alloc (.cells #[.int .i64 (1 + dw), .int .i64 3, .int .i64 (-1)] 37))
      have HY10 := Lib.hid (blk_new W9 (.cells #[.int .i64 (1 + dw), .int .i64 3, .int .i64 (-1)] 37))
      have HZ10 := Lib.hid ((((Below.refl W9.heap.size W9).alloc (Nat.le_refl _) (.cells #[.int .i64 (1 + dw), .int .i64 3, .int .i64 (-1)] 37)).block _ (blk_lt HZ9.out)).trans HZ9.out)
      clear HL9 HL8 HWY HZ9 HZ8
      generalize W9.alloc (.cells #[.int .i64 (1 + dw), .int .i64 3, .int .i64 (-1)] 37) = W10 at *
      generalize W9.heap.size = zc at *
      have q0 := (blk_cell HZ10.out 0).trans rfl
      have q1 := (blk_cell HZ10.out 1).trans rfl
      have q2 := (blk_cell HZ10.out 2).trans rfl
      have ql := blk_lt HZ10.out
      have r0 := (blk_cell HY10.out 0).trans rfl
      have r1 := (blk_cell HY10.out 1).trans rfl
      have r2 := (blk_cell HY10.out 2).trans rfl
      have rl := blk_lt HY10.out
      have HP1 := Lib.hid (HL10.out.put_no (by decide) (mid := 4) hwu hwv (show 1 + dw ≤ 1125899906842624 by omega) (lays_not HF1.out (by show (1 + dw) ≤ 1 + dw; omega)))
      go_upto_region 15 with (first | (go_at_call 10; (with_reducible refine HP1.out.mono ?_); (rintro e W11 ⟨rfl, hL11, o11⟩; have HL11 := Lib.hid hL11; have HY11 := Lib.hid (HL10.out.kept HY10.out o11); have HP2 := Lib.hid (HL11.out.put_no (by decide) (mid := 4) hwu hwv (show 1 + dw + 1 ≤ 1125899906842624 by omega) (lays_not HF1.out (by show (1 + dw) ≤ 1 + dw + 1; omega))); clear hL11 o11)) | (go_at_call 10; (with_reducible refine HP2.out.mono ?_); (rintro e W12 ⟨rfl, hL12, o12⟩; have HL12 := Lib.hid hL12; have HY12 := Lib.hid (HL11.out.kept HY11.out o12); clear hL12 o12)))
      clear q0 q1 q2 ql r0 r1 r2 rl HL10 HL11 HY10 HY11 HZ10 HP1 HP2
      have HN := Lib.hid (HL12.out.near_yes hun hvn (most := 1 + dw) (by omega) (by omega) (near_way HF1.out (by omega) (by show (1 + dw) ≤ 1 + dw; omega)))
      have e5 : (1 + dw == 0) = false := beq_eq_false_iff_ne.mpr (by omega)
      have hw5 : IntKind.i64.wrap (1 + dw - 1) = 1 + dw - 1 := i64w (by omega) (by omega) (by omega)
      have HP3 : Hid (laysP n (putF F u v ⟨1 + dw, 3, -1⟩) u v ((1 + dw) - 1) 5 = true) := Lib.hid (lays_less (by omega) (by omega) (by omega) (by omega) huv' (by omega) (by omega) HF1.out (by show (1 + dw) - 1 < (1 + dw); omega))
      have hd5 : (1 + dw) - 1 ≤ 1125899906842624 := by omega
      go_wp2_with (first | (go_at_call 9; (with_reducible refine HN.out.mono ?_); (rintro e W13 ⟨rfl, hL13, g13⟩; have HL13 := Lib.hid hL13; have HY13 := Lib.hid ((g13.block _ (blk_lt HY12.out)).trans HY12.out); have r0 := (blk_cell HY13.out 0).trans rfl; have rl := blk_lt HY13.out; have HP4 := Lib.hid (HL13.out.put_yes (by decide) hwu hwv hd5 HP3.out); clear hL13 g13)) | (go_at_call 10; (with_reducible refine HP4.out.mono ?_); (rintro e W14 ⟨rfl, hL14, o14⟩; have HKN := Lib.hid hL14.known; clear hL14 o14)) | (go_at_call 6; (with_reducible refine HKN.out.mono ?_); (rintro e W15 ⟨rfl, hB⟩)))
      go_ret
      exact ⟨rfl, hB⟩
    · have HLY : Hid (laysP n F u v (1 + dw) 3 = false) := Lib.hid (lays_not hF (by show y0 ≤ 1 + dw; omega))
      have e1 : decide (1 + dw < y0) = false := decide_eq_false hyd
      by_cases hy : y0 = 0
      · subst hy
        clear hF
        go_upto_region 6 with (first | (go_at_call 11; (with_reducible refine HWY.out.mono ?_); (rintro e W6 ⟨rfl, hL6, g6⟩; have HL6 := Lib.hid hL6; clear hL6 g6)))
        have HL7 := Lib.hid (HL6.out.alloc (.cells #[.int .i64 0, .int .i64 y1, .int .i64 y2] 37))
        have HZ7 := Lib.hid (blk_new W6 (.cells #[.int .i64 0, .int .i64 y1, .int .i64 y2] 37))
        clear HL6 HL5 HWY
        generalize W6.alloc (.cells #[.int .i64 0, .int .i64 y1, .int .i64 y2] 37) = W7 at *
        generalize W6.heap.size = zb at *
        have HP := Lib.hid (HL7.out.put_no (by decide) (mid := 3) hwu hwv (show 1 + dw ≤ 1125899906842624 by omega) HLY.out)
        go_upto_region 8 with (first | (go_at_call 10; (with_reducible refine HP.out.mono ?_); (rintro e W8 ⟨rfl, hL8, o8⟩; have HL8 := Lib.hid hL8; have HZ8 := Lib.hid (HL7.out.kept HZ7.out o8); clear hL8 o8)))
        clear HL7 HZ7 HP
        have q0 := (blk_cell HZ8.out 0).trans rfl
        have ql := blk_lt HZ8.out
        go_upto_region 10 with fail
        clear q0 ql
        have HF1 := HFN
        have HWY := Lib.hid (HL8.out.way u v hun hvn)
        rw [HF1.out] at HWY
        simp only [Option.getD_some, Option.isSome_some, wayV] at HWY
        go_upto_region 11 with (first | (go_at_call 11; (with_reducible refine HWY.out.mono ?_); (rintro e W9 ⟨rfl, hL9, g9⟩; have HL9 := Lib.hid hL9; have HZ9 := Lib.hid ((g9.block _ (blk_lt HZ8.out)).trans HZ8.out); clear hL9 g9)))
        have HL10 := Lib.hid (HL9.out.alloc (.cells #[.int .i64 0, .int .i64 y1, .int .i64 y2] 37))
        have HY10 := Lib.hid (blk_new W9 (.cells #[.int .i64 0, .int .i64 y1, .int .i64 y2] 37))
        have HZ10 := Lib.hid ((((Below.refl W9.heap.size W9).alloc (Nat.le_refl _) (.cells #[.int .i64 0, .int .i64 y1, .int .i64 y2] 37)).block _ (blk_lt HZ9.out)).trans HZ9.out)
        clear HL9 HL8 HWY HZ9 HZ8
        generalize W9.alloc (.cells #[.int .i64 0, .int .i64 y1, .int .i64 y2] 37) = W10 at *
        generalize W9.heap.size = zc at *
        have q0 := (blk_cell HZ10.out 0).trans rfl
        have q1 := (blk_cell HZ10.out 1).trans rfl
        have q2 := (blk_cell HZ10.out 2).trans rfl
        have ql := blk_lt HZ10.out
        have r0 := (blk_cell HY10.out 0).trans rfl
        have r1 := (blk_cell HY10.out 1).trans rfl
        have r2 := (blk_cell HY10.out 2).trans rfl
        have rl := blk_lt HY10.out
        have HP1 := Lib.hid (HL10.out.put_no (by decide) (mid := 4) hwu hwv (show 1 + dw ≤ 1125899906842624 by omega) (lays_not HF1.out (by show 0 ≤ 1 + dw; omega)))
        go_upto_region 15 with (first | (go_at_call 10; (with_reducible refine HP1.out.mono ?_); (rintro e W11 ⟨rfl, hL11, o11⟩; have HL11 := Lib.hid hL11; have HY11 := Lib.hid (HL10.out.kept HY10.out o11); have HP2 := Lib.hid (HL11.out.put_no (by decide) (mid := 4) hwu hwv (show 1 + dw + 1 ≤ 1125899906842624 by omega) (lays_not HF1.out (by show 0 ≤ 1 + dw + 1; omega))); clear hL11 o11)) | (go_at_call 10; (with_reducible refine HP2.out.mono ?_); (rintro e W12 ⟨rfl, hL12, o12⟩; have HL12 := Lib.hid hL12; have HY12 := Lib.hid (HL11.out.kept HY11.out o12); clear hL12 o12)))
        clear q0 q1 q2 ql r0 r1 r2 rl HL10 HL11 HY10 HY11 HZ10 HP1 HP2
        have HN := Lib.hid (HL12.out.near_yes hun hvn (most := 1 + dw) (by omega) (by omega) (near_way HF1.out (by omega) (by show 0 ≤ 1 + dw; omega)))
        go_wp2_with (first | (go_at_call 9; (with_reducible refine HN.out.mono ?_); (rintro e W13 ⟨rfl, hL13, g13⟩; have HL13 := Lib.hid hL13; have HY13 := Lib.hid ((g13.block _ (blk_lt HY12.out)).trans HY12.out); have r0 := (blk_cell HY13.out 0).trans rfl; have rl := blk_lt HY13.out; have HKN := Lib.hid HL13.out.known; clear hL13 g13)) | (go_at_call 6; (with_reducible refine HKN.out.mono ?_); (rintro e W14 ⟨rfl, hB⟩)))
        go_ret
        exact ⟨rfl, hB⟩
      · have e5 : (y0 == 0) = false := beq_eq_false_iff_ne.mpr hy
        have hw5 : IntKind.i64.wrap (y0 - 1) = y0 - 1 := i64w (by omega) (by omega) (by omega)
        clear hF
        go_upto_region 6 with (first | (go_at_call 11; (with_reducible refine HWY.out.mono ?_); (rintro e W6 ⟨rfl, hL6, g6⟩; have HL6 := Lib.hid hL6; clear hL6 g6)))
        have HL7 := Lib.hid (HL6.out.alloc (.cells #[.int .i64 y0, .int .i64 y1, .int .i64 y2] 37))
        have HZ7 := Lib.hid (blk_new W6 (.cells #[.int .i64 y0, .int .i64 y1, .int .i64 y2] 37))
        clear HL6 HL5 HWY
        generalize W6.alloc (.cells #[.int .i64 y0, .int .i64 y1, .int .i64 y2] 37) = W7 at *
        generalize W6.heap.size = zb at *
        have HP := Lib.hid (HL7.out.put_no (by decide) (mid := 3) hwu hwv (show 1 + dw ≤ 1125899906842624 by omega) HLY.out)
        go_upto_region 8 with (first | (go_at_call 10; (with_reducible refine HP.out.mono ?_); (rintro e W8 ⟨rfl, hL8, o8⟩; have HL8 := Lib.hid hL8; have HZ8 := Lib.hid (HL7.out.kept HZ7.out o8); clear hL8 o8)))
        clear HL7 HZ7 HP
        have q0 := (blk_cell HZ8.out 0).trans rfl
        have ql := blk_lt HZ8.out
        go_upto_region 10 with fail
        clear q0 ql
        have HF1 := HFN
        have HWY := Lib.hid (HL8.out.way u v hun hvn)
        rw [HF1.out] at HWY
        simp only [Option.getD_some, Option.isSome_some, wayV] at HWY
        go_upto_region 11 with (first | (go_at_call 11; (with_reducible refine HWY.out.mono ?_); (rintro e W9 ⟨rfl, hL9, g9⟩; have HL9 := Lib.hid hL9; have HZ9 := Lib.hid ((g9.block _ (blk_lt HZ8.out)).trans HZ8.out); clear hL9 g9)))
        have HL10 := Lib.hid (HL9.out.alloc (.cells #[.int .i64 y0, .int .i64 y1, .int .i64 y2] 37))
        have HY10 := Lib.hid (blk_new W9 (.cells #[.int .i64 y0, .int .i64 y1, .int .i64 y2] 37))
        have HZ10 := Lib.hid ((((Below.refl W9.heap.size W9).alloc (Nat.le_refl _) (.cells #[.int .i64 y0, .int .i64 y1, .int .i64 y2] 37)).block _ (blk_lt HZ9.out)).trans HZ9.out)
        clear HL9 HL8 HWY HZ9 HZ8
        generalize W9.alloc (.cells #[.int .i64 y0, .int .i64 y1, .int .i64 y2] 37) = W10 at *
        generalize W9.heap.size = zc at *
        have q0 := (blk_cell HZ10.out 0).trans rfl
        have q1 := (blk_cell HZ10.out 1).trans rfl
        have q2 := (blk_cell HZ10.out 2).trans rfl
        have ql := blk_lt HZ10.out
        have r0 := (blk_cell HY10.out 0).trans rfl
        have r1 := (blk_cell HY10.out 1).trans rfl
        have r2 := (blk_cell HY10.out 2).trans rfl
        have rl := blk_lt HY10.out
        have HP1 := Lib.hid (HL10.out.put_no (by decide) (mid := 4) hwu hwv (show 1 + dw ≤ 1125899906842624 by omega) (lays_not HF1.out (by show y0 ≤ 1 + dw; omega)))
        go_upto_region 15 with (first | (go_at_call 10; (with_reducible refine HP1.out.mono ?_); (rintro e W11 ⟨rfl, hL11, o11⟩; have HL11 := Lib.hid hL11; have HY11 := Lib.hid (HL10.out.kept HY10.out o11); have HP2 := Lib.hid (HL11.out.put_no (by decide) (mid := 4) hwu hwv (show 1 + dw + 1 ≤ 1125899906842624 by omega) (lays_not HF1.out (by show y0 ≤ 1 + dw + 1; omega))); clear hL11 o11)) | (go_at_call 10; (with_reducible refine HP2.out.mono ?_); (rintro e W12 ⟨rfl, hL12, o12⟩; have HL12 := Lib.hid hL12; have HY12 := Lib.hid (HL11.out.kept HY11.out o12); clear hL12 o12)))
        clear q0 q1 q2 ql r0 r1 r2 rl HL10 HL11 HY10 HY11 HZ10 HP1 HP2
        have HN := Lib.hid (HL12.out.near_yes hun hvn (most := 1 + dw) (by omega) (by omega) (near_way HF1.out (by omega) (by show y0 ≤ 1 + dw; omega)))
        have HP3 : Hid (laysP n F u v (y0 - 1) 5 = true) := Lib.hid (lays_less (by omega) (by omega) (by omega) (by omega) huv' (by omega) (by omega) HF1.out (by show y0 - 1 < y0; omega))
        have hd5 : y0 - 1 ≤ 1125899906842624 := by omega
        go_wp2_with (first | (go_at_call 9; (with_reducible refine HN.out.mono ?_); (rintro e W13 ⟨rfl, hL13, g13⟩; have HL13 := Lib.hid hL13; have HY13 := Lib.hid ((g13.block _ (blk_lt HY12.out)).trans HY12.out); have r0 := (blk_cell HY13.out 0).trans rfl; have rl := blk_lt HY13.out; have HP4 := Lib.hid (HL13.out.put_yes (by decide) hwu hwv hd5 HP3.out); clear hL13 g13)) | (go_at_call 10; (with_reducible refine HP4.out.mono ?_); (rintro e W14 ⟨rfl, hL14, o14⟩; have HKN := Lib.hid hL14.known; clear hL14 o14)) | (go_at_call 6; (with_reducible refine HKN.out.mono ?_); (rintro e W15 ⟨rfl, hB⟩)))
        go_ret
        exact ⟨rfl, hB⟩
end Go.Proofs.Ytfppfdejjifhdaa.PAll
