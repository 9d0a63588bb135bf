import Derived.Test.YtfkejflmhidnaaaGreatQZEqA
import Derived.Test.YtfkejflmhidnaaaGreatQSmB
set_option linter.all false
namespace Go.Proofs.YtfkejflmhidnaaaGreat.PAll
open RowKit YW.PrintWords YW.PrintLast YW.PrintMore
open Hp hiding Good
theorem same43_l (x y : List Int) (hxy : x.length = y.length) (hs : x.length ≤ 9223372036854775807) : ∀ (d i : Nat), i + d = x.length → postroadref00_SameInts.l0 (d + 1) x y (i : Int) = some (decide (x.drop i = y.drop i))
 | 0, i, h => by
  rw [postroadref00_SameInts.l0, if_neg (by omega), List.drop_eq_nil_of_le (by omega), List.drop_eq_nil_of_le (by omega)]
  simp
 | d + 1, i, h => by
  have hi : i < x.length := by omega
  have hj : i < y.length := by omega
  rw [postroadref00_SameInts.l0, if_pos (by omega), if_pos (by omega), if_pos (by omega), rd_nat x i hi, rd_nat y i hj, List.drop_eq_getElem_cons hi, List.drop_eq_getElem_cons hj]
  by_cases e : x[i] = y[i]
  ·rw [if_pos e, wrap_is (by omega), show (i : Int) + 1 = ((i + 1 : Nat) : Int) by omega, same43_l x y hxy hs d (i + 1) (by omega)]
   congr 1
   rw [decide_eq_decide, List.cons.injEq]
   exact ⟨fun h => ⟨e, h⟩, And.right⟩
  ·rw [if_neg e, decide_eq_false (fun h => e (List.cons.inj h).1)]
theorem same43_walk (w : World) (A0 A1 : Option Addr) (c0 c1 : Nat) (x y : List Int) (h0 : Kd.C (Kd.int .i64) w A0 x.length x) (hc0 : x.length ≤ c0) (h1 : Kd.C (Kd.int .i64) w A1 y.length y) (hc1 : y.length ≤ c1) :
  Calls Tryz.prog 43 #[.slice A0 x.length c0, .slice A1 y.length c1] w (EqP (x = y) w) := by
 have hs := h0.2.1
 have key : postroadref00_SameInts.f (x.length + 1) x y = some (decide (x = y)) := by
  unfold postroadref00_SameInts.f
  by_cases e : (x.length : Int) = (y.length : Int)
  ·rw [if_pos e]
   have := same43_l x y (by omega) hs x.length 0 (by omega)
   simpa using this
  ·rw [if_neg e]
   have : x ≠ y := fun h => e (by rw [h])
   simp [this]
 refine (postroadref00_SameInts.calls (x.length + 1) A0 c0 x A1 c1 y _ w h0 hc0 h1 hc1 key).mono ?_
 rintro e w' ⟨rfl, hD⟩
 obtain ⟨⟨j, rfl⟩⟩ := hD
 exact ⟨_, rfl, by simp, pw_below_drewN (Below.refl _ _) j⟩
theorem same21_l (x y : List S37) (hxy : x.length = y.length) (hs : x.length ≤ 9223372036854775807) : ∀ (d i : Nat), i + d = x.length → ∃ r, postroadref11_Same.l0 (d + 1) x y (i : Int) = some r ∧ (r = true ↔ x.drop i = y.drop i)
 | 0, i, h => by
  rw [postroadref11_Same.l0, if_neg (by omega), List.drop_eq_nil_of_le (by omega), List.drop_eq_nil_of_le (by omega)]
  exact ⟨true, rfl, by simp⟩
 | d + 1, i, h => by
  have hi : i < x.length := by omega
  have hj : i < y.length := by omega
  rw [postroadref11_Same.l0, if_pos (by omega), if_pos (by omega), if_pos (by omega), rd37_get hi, rd37_get hj, List.drop_eq_getElem_cons hi, List.drop_eq_getElem_cons hj]
  obtain ⟨r, hr, hr2⟩ := same21_l x y hxy hs d (i + 1) (by omega)
  by_cases e : x[i] = y[i]
  ·rw [if_neg (by rw [e]; simp), wrap_is (by omega), show (i : Int) + 1 = ((i + 1 : Nat) : Int) by omega]
   refine ⟨r, hr, hr2.trans ?_⟩
   rw [List.cons.injEq]
   exact ⟨fun h => ⟨e, h⟩, And.right⟩
  ·rw [if_pos (by
    have hne : ¬ (x[i].f0 = y[i].f0 ∧ x[i].f1 = y[i].f1) := fun ⟨h0, h1⟩ => e (by
     generalize x[i] = p at *
     generalize y[i] = q at *
     cases p; cases q; simp at h0 h1; rw [h0, h1])
    by_cases h0 : x[i].f0 = y[i].f0
    ·have : ¬ x[i].f1 = y[i].f1 := fun h1 => hne ⟨h0, h1⟩
     simp [this]
    ·simp [h0])]
   exact ⟨false, rfl, by constructor <;> intro h; cases h; exact absurd (List.cons.inj h).1 e⟩
theorem same21_walk (w : World) (A0 A1 : Option Addr) (c0 c1 : Nat) (x y : List S37) (h0 : Kd.C k37 w A0 x.length x) (hc0 : x.length ≤ c0) (h1 : Kd.C k37 w A1 y.length y) (hc1 : y.length ≤ c1) :
  Calls Tryz.prog 21 #[.slice A0 x.length c0, .slice A1 y.length c1] w (EqP (x = y) w) := by
 have hs := h0.2.1
 have key : ∃ b, postroadref11_Same.f (x.length + 1) x y = some b ∧ (b = true ↔ x = y) := by
  unfold postroadref11_Same.f
  by_cases e : (x.length : Int) = (y.length : Int)
  ·rw [if_pos e]
   obtain ⟨r, h2, h3⟩ := same21_l x y (by omega) hs x.length 0 (by omega)
   exact ⟨r, h2, by simpa using h3⟩
  ·rw [if_neg e]
   exact ⟨false, rfl, by constructor <;> intro h; cases h; exact absurd (by rw [h]) e⟩
 obtain ⟨b, hb, hb2⟩ := key
 refine (postroadref11_Same.calls (x.length + 1) A0 c0 x A1 c1 y b w h0 hc0 h1 hc1 hb).mono ?_
 rintro e w' ⟨rfl, hD⟩
 obtain ⟨⟨j, rfl⟩⟩ := hD
 exact ⟨b, rfl, hb2, pw_below_drewN (Below.refl _ _) j⟩
set_option maxRecDepth 100000 in
set_option maxHeartbeats 4000000 in
theorem same63_walk (w : World) (A0 A1 : Option Addr) (c0 c1 : Nat) (x y : List (List S37)) (h0 : Kd.C (kRR) w A0 x.length x) (h1 : Kd.C (kRR) w A1 y.length y) :
  Calls Tryz.prog 63 #[.slice A0 x.length c0, .slice A1 y.length c1] w (EqP (x = y) w) := by
 have hsx := h0.2.1
 have HNL := Lib.hid (ne_len (x := x) (y := y))
 obtain ⟨n, hn⟩ : ∃ n, x.length = n := ⟨_, rfl⟩
 obtain ⟨m, hm⟩ : ∃ m, y.length = m := ⟨_, rfl⟩
 rw [hn] at h0 hsx
 rw [hm] at h1
 rw [hn, hm] at HNL
 have HX := Lib.hid (laterRR h0)
 have HY := Lib.hid (laterRR h1)
 have HST : Hid (∀ i : Nat, i < n → i < m → x.take i = y.take i → rd_L7 x (i : Int) = rd_L7 y (i : Int) → x.take (i + 1) = y.take (i + 1)) := Lib.hid (fun i h h' ht e => take_eq_succ (i := i) (by omega) (by omega) ht (by rw [← rdL7_get (by omega), ← rdL7_get (by omega)]; exact e))
 have HNE : Hid (∀ i : Nat, i < n → i < m → ¬ rd_L7 x (i : Int) = rd_L7 y (i : Int) → ¬ x = y) := Lib.hid (fun i h h' e => ne_of_get (i := i) (by omega) (by omega) (by rw [← rdL7_get (by omega), ← rdL7_get (by omega)]; exact e))
 have HFU : Hid (n = m → x.take n = y.take n → x = y) := Lib.hid (fun e h => eq_of_take hn (by omega) h)
 rw [hn, hm]
 clear h0 h1 hn hm
 go_enter Tryz.func63, Tryz.ntmps63
 by_cases hnm : n = m
 rotate_left
 ·have t0 : ((n : Int) != (m : Int)) = true := by simp; omega
  go_wp2_with fail
  go_ret
  exact EqP.isF (HNL.out hnm) (Below.refl _ _)
 subst hnm
 have HFX := Lib.hid (HFU.out rfl)
 clear HFU
 have t0 : ((n : Int) != (n : Int)) = false := by simp
 go_wp2_with fail
 clear t0
 go_loopw [5] (fun v wr => ∃ i : Nat, v = .int .i64 i ∧ i ≤ n ∧ Hid (x.take i = y.take i) ∧ Hid (Below w.heap.size w wr)) (fun v _ => n - (intOf v).toNat)
 case atStart => exact ⟨0, rfl, by omega, Lib.hid rfl, Lib.hid (Below.refl _ _)⟩
 case round =>
  obtain ⟨i, rfl, hi, HT, HB⟩ := hrel
  by_cases hlt : i < n
  rotate_left
  ·have hle : n ≤ i := by omega
   obtain rfl : i = n := by omega
   have HF := Lib.hid (HFX.out HT.out)
   go_wp2_with fail
   go_ret
   exact EqP.isT HF.out HB.out
  have hi0 : (0 : Int) ≤ (i : Int) := Int.natCast_nonneg _
  have hi1 : (i : Int) < (n : Int) := by omega
  obtain ⟨a, B, cb, rfl, hx⟩ := HX.out i hlt
  obtain ⟨b, D, cd, rfl, hy⟩ := HY.out i hlt
  have HCX := Lib.hid hx
  have HCY := Lib.hid hy
  obtain ⟨_, hlx, x1⟩ := hx wr.drew HB.out.drew
  obtain ⟨_, hly, y1⟩ := hy wr.drew HB.out.drew
  have HTE := Lib.hid (HST.out i hlt hlt HT.out)
  have HNO := Lib.hid (HNE.out i hlt hlt)
  have HC := Lib.hid (same21_walk wr.drew B D cb cd _ _ x1 hlx y1 hly)
  clear hx hy x1 y1 hlx hly
  generalize rd_L7 x (i : Int) = p at *
  generalize rd_L7 y (i : Int) = q at *
  generalize p.length = lp at *
  generalize q.length = lq at *
  by_cases he : p = q
  ·have HT' := Lib.hid (HTE.out he)
   go_upto_region 6 with fail
   refine start_ (n := 10) (S := fun w' => w'.cell? (a.add i) = some (.slice B lp cb) ∧ w'.cell? (b.add i) = some (.slice D lq cd)) (ds := []) (bA_ 10 0) (by kernel_rfl) rfl rfl ⟨(HCX.out _ HB.out.drew).1, (HCY.out _ HB.out.drew).1⟩ (fun hHeld => ?_)
   refine p2_ 0 17 (bA_ 10 1) ?_
   refine p2_ 1 18 (bA_ 10 3) ?_
   refine p2_ 2 19 (bA_ 10 7) ?_
   refine p2_ 4 21 (bA_ 10 23) ?_
   refine p2_ 5 22 (bA_ 10 55) ?_
   refine p2_ 6 23 (bA_ 10 119) ?_
   refine t2_ 3 20 (bA_ 10 127) hHeld ?_ (hy := by rintro w' ⟨s0, s1⟩; go_simp; with_reducible rfl)
   refine t2_ 7 24 (bA_ 10 255) hHeld ?_ (hy := by rintro w' ⟨s0, s1⟩; go_simp; with_reducible rfl)
   refine o2_ 8 25 (bA_ 10 511) (fun K hK => ?_)
   refine g2_ Tryz.func21 #[.slice B lp cb, .slice D lq cd] ?_
   with_reducible refine (HC.out).mono ?_
   rintro e w1 hh
   obtain ⟨rfl, g1⟩ := EqP.yes he hh
   refine ⟨_, rfl, ?_⟩
   have HG := Lib.hid (HB.out.drew.trans (g1.mono HB.out.drew.size))
   clear g1 hh
   refine hK.out _ _ ⟨(HCX.out _ HG.out).1, (HCY.out _ HG.out).1⟩ (fun hHeld => ?_)
   clear hK K
   refine n2_ 25 ?_
   refine p2_ 9 26 (bA_ 10 1023) ?_
   refine done_ (by kernel_rfl) ?_
   go_wp2_with fail
   go_roundw
   case measure => simp [intOf]; omega
   case rel => exact ⟨i + 1, by go_num, by omega, HT', HG⟩
  ·have HF := Lib.hid (HNO.out he)
   go_upto_region 6 with fail
   refine start_ (n := 10) (S := fun w' => w'.cell? (a.add i) = some (.slice B lp cb) ∧ w'.cell? (b.add i) = some (.slice D lq cd)) (ds := []) (bA_ 10 0) (by kernel_rfl) rfl rfl ⟨(HCX.out _ HB.out.drew).1, (HCY.out _ HB.out.drew).1⟩ (fun hHeld => ?_)
   refine p2_ 0 17 (bA_ 10 1) ?_
   refine p2_ 1 18 (bA_ 10 3) ?_
   refine p2_ 2 19 (bA_ 10 7) ?_
   refine p2_ 4 21 (bA_ 10 23) ?_
   refine p2_ 5 22 (bA_ 10 55) ?_
   refine p2_ 6 23 (bA_ 10 119) ?_
   refine t2_ 3 20 (bA_ 10 127) hHeld ?_ (hy := by rintro w' ⟨s0, s1⟩; go_simp; with_reducible rfl)
   refine t2_ 7 24 (bA_ 10 255) hHeld ?_ (hy := by rintro w' ⟨s0, s1⟩; go_simp; with_reducible rfl)
   refine o2_ 8 25 (bA_ 10 511) (fun K hK => ?_)
   refine g2_ Tryz.func21 #[.slice B lp cb, .slice D lq cd] ?_
   with_reducible refine (HC.out).mono ?_
   rintro e w1 hh
   obtain ⟨rfl, g1⟩ := EqP.no he hh
   refine ⟨_, rfl, ?_⟩
   have HG := Lib.hid (HB.out.drew.trans (g1.mono HB.out.drew.size))
   clear g1 hh
   refine hK.out _ _ ⟨(HCX.out _ HG.out).1, (HCY.out _ HG.out).1⟩ (fun hHeld => ?_)
   clear hK K
   refine n2_ 25 ?_
   refine p2_ 9 26 (bA_ 10 1023) ?_
   refine done_ (by kernel_rfl) ?_
   go_wp2_with fail
   go_ret
   exact EqP.isF HF.out HG.out
set_option maxRecDepth 100000 in
set_option maxHeartbeats 4000000 in
theorem same62_walk (w : World) (A0 A1 : Option Addr) (c0 c1 : Nat) (x y : List (List Int)) (h0 : Kd.C (kII) w A0 x.length x) (h1 : Kd.C (kII) w A1 y.length y) :
  Calls Tryz.prog 62 #[.slice A0 x.length c0, .slice A1 y.length c1] w (EqP (x = y) w) := by
 have hsx := h0.2.1
 have HNL := Lib.hid (ne_len (x := x) (y := y))
 obtain ⟨n, hn⟩ : ∃ n, x.length = n := ⟨_, rfl⟩
 obtain ⟨m, hm⟩ : ∃ m, y.length = m := ⟨_, rfl⟩
 rw [hn] at h0 hsx
 rw [hm] at h1
 rw [hn, hm] at HNL
 have HX := Lib.hid (laterII h0)
 have HY := Lib.hid (laterII h1)
 have HST : Hid (∀ i : Nat, i < n → i < m → x.take i = y.take i → rd_L5 x (i : Int) = rd_L5 y (i : Int) → x.take (i + 1) = y.take (i + 1)) := Lib.hid (fun i h h' ht e => take_eq_succ (i := i) (by omega) (by omega) ht (by rw [← rdL5_get (by omega), ← rdL5_get (by omega)]; exact e))
 have HNE : Hid (∀ i : Nat, i < n → i < m → ¬ rd_L5 x (i : Int) = rd_L5 y (i : Int) → ¬ x = y) := Lib.hid (fun i h h' e => ne_of_get (i := i) (by omega) (by omega) (by rw [← rdL5_get (by omega), ← rdL5_get (by omega)]; exact e))
 have HFU : Hid (n = m → x.take n = y.take n → x = y) := Lib.hid (fun e h => eq_of_take hn (by omega) h)
 rw [hn, hm]
 clear h0 h1 hn hm
 go_enter Tryz.func62, Tryz.ntmps62
 by_cases hnm : n = m
 rotate_left
 ·have t0 : ((n : Int) != (m : Int)) = true := by simp; omega
  go_wp2_with fail
  go_ret
  exact EqP.isF (HNL.out hnm) (Below.refl _ _)
 subst hnm
 have HFX := Lib.hid (HFU.out rfl)
 clear HFU
 have t0 : ((n : Int) != (n : Int)) = false := by simp
 go_wp2_with fail
 clear t0
 go_loopw [5] (fun v wr => ∃ i : Nat, v = .int .i64 i ∧ i ≤ n ∧ Hid (x.take i = y.take i) ∧ Hid (Below w.heap.size w wr)) (fun v _ => n - (intOf v).toNat)
 case atStart => exact ⟨0, rfl, by omega, Lib.hid rfl, Lib.hid (Below.refl _ _)⟩
 case round =>
  obtain ⟨i, rfl, hi, HT, HB⟩ := hrel
  by_cases hlt : i < n
  rotate_left
  ·have hle : n ≤ i := by omega
   obtain rfl : i = n := by omega
   have HF := Lib.hid (HFX.out HT.out)
   go_wp2_with fail
   go_ret
   exact EqP.isT HF.out HB.out
  have hi0 : (0 : Int) ≤ (i : Int) := Int.natCast_nonneg _
  have hi1 : (i : Int) < (n : Int) := by omega
  obtain ⟨a, B, cb, rfl, hx⟩ := HX.out i hlt
  obtain ⟨b, D, cd, rfl, hy⟩ := HY.out i hlt
  have HCX := Lib.hid hx
  have HCY := Lib.hid hy
  have HTE := Lib.hid (HST.out i hlt hlt HT.out)
  have HNO := Lib.hid (HNE.out i hlt hlt)
  clear hx hy
  generalize rd_L5 x (i : Int) = p at *
  generalize rd_L5 y (i : Int) = q at *
  have hsp := (HCX.out wr HB.out).2.2.2.1
  have HNL := Lib.hid (ne_len (x := p) (y := q))
  obtain ⟨lp, hlp⟩ : ∃ n, p.length = n := ⟨_, rfl⟩
  obtain ⟨lq, hlq⟩ : ∃ n, q.length = n := ⟨_, rfl⟩
  rw [hlp] at HCX HNL hsp
  rw [hlq] at HCY HNL
  by_cases hl : lp = lq
  rotate_left
  ·have t1 : ((lp : Int) != (lq : Int)) = true := by simp; omega
   have HF := Lib.hid (HNO.out (HNL.out hl))
   go_upto_region 6 with fail
   refine start_ (n := 11) (S := fun w' => w'.cell? (a.add i) = some (.slice B lp cb) ∧ w'.cell? (b.add i) = some (.slice D lq cd)) (ds := []) (bA_ 11 0) (by kernel_rfl) rfl rfl ⟨(HCX.out _ HB.out.drew).1, (HCY.out _ HB.out.drew).1⟩ (fun hHeld => ?_)
   refine p2_ 0 18 (bA_ 11 1) ?_
   refine p2_ 1 19 (bA_ 11 3) ?_
   refine p2_ 2 20 (bA_ 11 7) ?_
   refine p2_ 5 23 (bA_ 11 39) ?_
   refine p2_ 6 24 (bA_ 11 103) ?_
   refine p2_ 7 25 (bA_ 11 231) ?_
   refine t2_ 3 21 (bA_ 11 239) hHeld ?_ (hy := by rintro w' ⟨s0, s1⟩; go_simp; with_reducible rfl)
   refine p2_ 4 22 (bA_ 11 255) ?_
   refine t2_ 8 26 (bA_ 11 511) hHeld ?_ (hy := by rintro w' ⟨s0, s1⟩; go_simp; with_reducible rfl)
   refine p2_ 9 27 (bA_ 11 1023) ?_
   refine p2_ 10 28 (bA_ 11 2047) ?_
   refine done_ (by kernel_rfl) ?_
   go_wp2_with fail
   go_ret
   exact EqP.isF HF.out HB.out.drew
  subst hl
  have t1 : ((lp : Int) != (lp : Int)) = false := by simp
  have HIS : Hid (∀ k : Nat, k < lp → p.take k = q.take k → rd p (k : Int) = rd q (k : Int) → p.take (k + 1) = q.take (k + 1)) := Lib.hid (fun k h ht e => take_eq_succ (i := k) (by omega) (by omega) ht (by rw [← rd_get (by omega), ← rd_get (by omega)]; exact e))
  have HIN : Hid (∀ k : Nat, k < lp → ¬ rd p (k : Int) = rd q (k : Int) → ¬ p = q) := Lib.hid (fun k h e => ne_of_get (i := k) (by omega) (by omega) (by rw [← rd_get (by omega), ← rd_get (by omega)]; exact e))
  have HIF : Hid (p.take lp = q.take lp → p = q) := Lib.hid (fun h => eq_of_take hlp hlq h)
  have HPX := Lib.hid (laterI (HCX.out wr HB.out).2.2)
  have HPY := Lib.hid (laterI (HCY.out wr HB.out).2.2)
  clear hlp hlq HNL
  go_upto_region 6 with fail
  refine start_ (n := 11) (S := fun w' => w'.cell? (a.add i) = some (.slice B lp cb) ∧ w'.cell? (b.add i) = some (.slice D lp cd)) (ds := []) (bA_ 11 0) (by kernel_rfl) rfl rfl ⟨(HCX.out _ HB.out.drew).1, (HCY.out _ HB.out.drew).1⟩ (fun hHeld => ?_)
  refine p2_ 0 18 (bA_ 11 1) ?_
  refine p2_ 1 19 (bA_ 11 3) ?_
  refine p2_ 2 20 (bA_ 11 7) ?_
  refine p2_ 5 23 (bA_ 11 39) ?_
  refine p2_ 6 24 (bA_ 11 103) ?_
  refine p2_ 7 25 (bA_ 11 231) ?_
  refine t2_ 3 21 (bA_ 11 239) hHeld ?_ (hy := by rintro w' ⟨s0, s1⟩; go_simp; with_reducible rfl)
  refine p2_ 4 22 (bA_ 11 255) ?_
  refine t2_ 8 26 (bA_ 11 511) hHeld ?_ (hy := by rintro w' ⟨s0, s1⟩; go_simp; with_reducible rfl)
  refine p2_ 9 27 (bA_ 11 1023) ?_
  refine p2_ 10 28 (bA_ 11 2047) ?_
  refine done_ (by kernel_rfl) ?_
  go_wp2_with fail
  clear t1
  go_loopw [6] (fun v wi => ∃ k : Nat, v = .int .i64 k ∧ k ≤ lp ∧ Hid (p.take k = q.take k) ∧ Hid (Below wr.heap.size wr wi)) (fun v _ => lp - (intOf v).toNat)
  case atStart => exact ⟨0, rfl, by omega, Lib.hid rfl, Lib.hid (Below.refl wr.heap.size wr).drew⟩
  case round =>
   obtain ⟨k, rfl, hk, HK, HBI⟩ := hrel
   have HB2 := Lib.hid (HB.out.trans (HBI.out.mono HB.out.size))
   have x0 := (HCX.out _ HB2.out).1
   have y0 := (HCY.out _ HB2.out).1
   by_cases hkt : k < lp
   rotate_left
   ·have hle : lp ≤ k := by omega
    obtain rfl : k = lp := by omega
    have HT' := Lib.hid (HTE.out (HIF.out HK.out))
    go_wp2_with fail
    go_roundw
    case measure => simp [intOf]; omega
    case rel => exact ⟨i + 1, by go_num, by omega, HT', HB2⟩
   have hk0 : (0 : Int) ≤ (k : Int) := Int.natCast_nonneg _
   have hk1 : (k : Int) < (lp : Int) := by omega
   obtain ⟨f, rfl, hf⟩ := HPX.out k hkt
   obtain ⟨g, rfl, hg⟩ := HPY.out k hkt
   have HCF := Lib.hid hf
   have HCG := Lib.hid hg
   have HKE := Lib.hid (HIS.out k hkt HK.out)
   have HKN := Lib.hid (HIN.out k hkt)
   clear hf hg
   generalize rd p (k : Int) = s at *
   generalize rd q (k : Int) = u at *
   by_cases he : s = u
   ·have HK' := Lib.hid (HKE.out he)
    subst he
    have t1 : (s != s) = false := by simp
    go_upto_region 11 with fail
    refine start_ (n := 15) (S := fun w' => w'.cell? (a.add i) = some (.slice (some f) lp cb) ∧ w'.cell? (f.add k) = some (.int .i64 s) ∧ w'.cell? (b.add i) = some (.slice (some g) lp cd) ∧ w'.cell? (g.add k) = some (.int .i64 s)) (ds := []) (bA_ 15 0) (by kernel_rfl) rfl rfl ⟨(HCX.out _ HB2.out.drew).1, HCF.out _ HBI.out.drew, (HCY.out _ HB2.out.drew).1, HCG.out _ HBI.out.drew⟩ (fun hHeld => ?_)
    refine p2_ 0 38 (bA_ 15 1) ?_
    refine p2_ 1 39 (bA_ 15 3) ?_
    refine p2_ 2 40 (bA_ 15 7) ?_
    refine p2_ 4 42 (bA_ 15 23) ?_
    refine p2_ 7 45 (bA_ 15 151) ?_
    refine p2_ 8 46 (bA_ 15 407) ?_
    refine p2_ 9 47 (bA_ 15 919) ?_
    refine p2_ 11 49 (bA_ 15 2967) ?_
    refine t2_ 3 41 (bA_ 15 2975) hHeld ?_ (hy := by rintro w' ⟨s0, s1, s2, s3⟩; go_simp; with_reducible rfl)
    refine p2_ 5 43 (bA_ 15 3007) ?_
    refine t2_ 6 44 (bA_ 15 3071) hHeld ?_ (hy := by rintro w' ⟨s0, s1, s2, s3⟩; go_simp; with_reducible rfl)
    refine t2_ 10 48 (bA_ 15 4095) hHeld ?_ (hy := by rintro w' ⟨s0, s1, s2, s3⟩; go_simp; with_reducible rfl)
    refine p2_ 12 50 (bA_ 15 8191) ?_
    refine t2_ 13 51 (bA_ 15 16383) hHeld ?_ (hy := by rintro w' ⟨s0, s1, s2, s3⟩; go_simp; with_reducible rfl)
    refine p2_ 14 52 (bA_ 15 32767) ?_
    refine done_ (by kernel_rfl) ?_
    go_wp2_with fail
    go_roundw
    case measure => simp [intOf]; omega
    case rel => exact ⟨k + 1, by go_num, by omega, HK', Lib.hid HBI.out.drew⟩
   ·have HF := Lib.hid (HNO.out (HKN.out he))
    have t1 : (s != u) = true := by simpa using he
    go_upto_region 11 with fail
    refine start_ (n := 15) (S := fun w' => w'.cell? (a.add i) = some (.slice (some f) lp cb) ∧ w'.cell? (f.add k) = some (.int .i64 s) ∧ w'.cell? (b.add i) = some (.slice (some g) lp cd) ∧ w'.cell? (g.add k) = some (.int .i64 u)) (ds := []) (bA_ 15 0) (by kernel_rfl) rfl rfl ⟨(HCX.out _ HB2.out.drew).1, HCF.out _ HBI.out.drew, (HCY.out _ HB2.out.drew).1, HCG.out _ HBI.out.drew⟩ (fun hHeld => ?_)
    refine p2_ 0 38 (bA_ 15 1) ?_
    refine p2_ 1 39 (bA_ 15 3) ?_
    refine p2_ 2 40 (bA_ 15 7) ?_
    refine p2_ 4 42 (bA_ 15 23) ?_
    refine p2_ 7 45 (bA_ 15 151) ?_
    refine p2_ 8 46 (bA_ 15 407) ?_
    refine p2_ 9 47 (bA_ 15 919) ?_
    refine p2_ 11 49 (bA_ 15 2967) ?_
    refine t2_ 3 41 (bA_ 15 2975) hHeld ?_ (hy := by rintro w' ⟨s0, s1, s2, s3⟩; go_simp; with_reducible rfl)
    refine p2_ 5 43 (bA_ 15 3007) ?_
    refine t2_ 6 44 (bA_ 15 3071) hHeld ?_ (hy := by rintro w' ⟨s0, s1, s2, s3⟩; go_simp; with_reducible rfl)
    refine t2_ 10 48 (bA_ 15 4095) hHeld ?_ (hy := by rintro w' ⟨s0, s1, s2, s3⟩; go_simp; with_reducible rfl)
    refine p2_ 12 50 (bA_ 15 8191) ?_
    refine t2_ 13 51 (bA_ 15 16383) hHeld ?_ (hy := by rintro w' ⟨s0, s1, s2, s3⟩; go_simp; with_reducible rfl)
    refine p2_ 14 52 (bA_ 15 32767) ?_
    refine done_ (by kernel_rfl) ?_
    go_wp2_with fail
    go_ret
    exact EqP.isF HF.out HB2.out.drew
theorem two46 (w : World) (X Y : Array Value) : ∀ W, (w.alloc (.cells X 46)).alloc (.cells Y 46) = W →
  Below w.heap.size w W ∧ W.heap[w.heap.size]? = some (.cells X 46 (0, 0)) ∧ W.heap[w.heap.size + 1]? = some (.cells Y 46 (0, 0)) := by
 rintro W rfl
 refine ⟨((Below.refl _ w).alloc (Nat.le_refl _) _).alloc (by simp) _, blk_alloc (blk_new w _) _, ?_⟩
 have := blk_new (w.alloc (.cells X 46)) (.cells Y 46)
 rwa [World.size_alloc] at this
theorem tab_eq {t u : TabP} (h0 : t.g = u.g) (h1 : t.far = u.far) (h2 : t.out = u.out) (h3 : t.inn = u.inn) (h4 : t.so = u.so) (h5 : t.si = u.si) : t = u := by
 cases t; cases u; simp only at *; subst h0 h1 h2 h3 h4 h5; rfl
set_option maxRecDepth 100000 in
set_option maxHeartbeats 8000000 in
theorem same26_walk (w : World) (a b : TabAt) (t u : TabP) (hT : TabC w a t) (hU : TabC w b u) :
  Calls Tryz.prog 26 #[.agg (a.cells t), .agg (b.cells u)] w (EqP (t = u) w) := by
 obtain ⟨A0, c0, A1, c1, A2, c2, A3, c3, A4, c4, A5, c5⟩ := a
 obtain ⟨B0, d0, B1, d1, B2, d2, B3, d3, B4, d4, B5, d5⟩ := b
 have H0 : Hid (∀ W, Below w.heap.size w W → Calls Tryz.prog 43 #[.slice A0 t.g.length c0, .slice B0 u.g.length d0] W (EqP (t.g = u.g) W)) := Lib.hid (fun W g => same43_walk W _ _ _ _ _ _ (Kd.C_below hT.g g) hT.cg (Kd.C_below hU.g g) hU.cg)
 have H1 : Hid (∀ W, Below w.heap.size w W → Calls Tryz.prog 62 #[.slice A1 t.far.length c1, .slice B1 u.far.length d1] W (EqP (t.far = u.far) W)) := Lib.hid (fun W g => same62_walk W _ _ _ _ _ _ (Kd.C_below hT.far g) (Kd.C_below hU.far g))
 have H2 : Hid (∀ W, Below w.heap.size w W → Calls Tryz.prog 63 #[.slice A2 t.out.length c2, .slice B2 u.out.length d2] W (EqP (t.out = u.out) W)) := Lib.hid (fun W g => same63_walk W _ _ _ _ _ _ (Kd.C_below hT.out g) (Kd.C_below hU.out g))
 have H3 : Hid (∀ W, Below w.heap.size w W → Calls Tryz.prog 63 #[.slice A3 t.inn.length c3, .slice B3 u.inn.length d3] W (EqP (t.inn = u.inn) W)) := Lib.hid (fun W g => same63_walk W _ _ _ _ _ _ (Kd.C_below hT.inn g) (Kd.C_below hU.inn g))
 have H4 : Hid (∀ W, Below w.heap.size w W → Calls Tryz.prog 62 #[.slice A4 t.so.length c4, .slice B4 u.so.length d4] W (EqP (t.so = u.so) W)) := Lib.hid (fun W g => same62_walk W _ _ _ _ _ _ (Kd.C_below hT.so g) (Kd.C_below hU.so g))
 have H5 : Hid (∀ W, Below w.heap.size w W → Calls Tryz.prog 62 #[.slice A5 t.si.length c5, .slice B5 u.si.length d5] W (EqP (t.si = u.si) W)) := Lib.hid (fun W g => same62_walk W _ _ _ _ _ _ (Kd.C_below hT.si g) (Kd.C_below hU.si g))
 have HEQ := Lib.hid (tab_eq (t := t) (u := u))
 have HN0 : Hid (¬ t.g = u.g → ¬ t = u) := Lib.hid (fun h e => h (by rw [e]))
 have HN1 : Hid (¬ t.far = u.far → ¬ t = u) := Lib.hid (fun h e => h (by rw [e]))
 have HN2 : Hid (¬ t.out = u.out → ¬ t = u) := Lib.hid (fun h e => h (by rw [e]))
 have HN3 : Hid (¬ t.inn = u.inn → ¬ t = u) := Lib.hid (fun h e => h (by rw [e]))
 have HN4 : Hid (¬ t.so = u.so → ¬ t = u) := Lib.hid (fun h e => h (by rw [e]))
 have HN5 : Hid (¬ t.si = u.si → ¬ t = u) := Lib.hid (fun h e => h (by rw [e]))
 simp only [TabAt.cells]
 generalize t.g.length = l0 at *
 generalize u.g.length = m0 at *
 generalize t.far.length = l1 at *
 generalize u.far.length = m1 at *
 generalize t.out.length = l2 at *
 generalize u.out.length = m2 at *
 generalize t.inn.length = l3 at *
 generalize u.inn.length = m3 at *
 generalize t.so.length = l4 at *
 generalize u.so.length = m4 at *
 generalize t.si.length = l5 at *
 generalize u.si.length = m5 at *
 generalize t.g = x0 at *
 generalize u.g = y0 at *
 generalize t.far = x1 at *
 generalize u.far = y1 at *
 generalize t.out = x2 at *
 generalize u.out = y2 at *
 generalize t.inn = x3 at *
 generalize u.inn = y3 at *
 generalize t.so = x4 at *
 generalize u.so = y4 at *
 generalize t.si = x5 at *
 generalize u.si = y5 at *
 clear hT hU
 obtain ⟨W, hW⟩ : ∃ W, (w.alloc (.cells #[.slice A0 l0 c0, .slice A1 l1 c1, .slice A2 l2 c2, .slice A3 l3 c3, .slice A4 l4 c4, .slice A5 l5 c5] 46)).alloc (.cells #[.slice B0 m0 d0, .slice B1 m1 d1, .slice B2 m2 d2, .slice B3 m3 d3, .slice B4 m4 d4, .slice B5 m5 d5] 46) = W := ⟨_, rfl⟩
 obtain ⟨hB, hba, hbb⟩ := two46 w _ _ W hW
 have HBB : Hid (∀ V, Below W.heap.size W V → (w.heap.size < V.heap.size ∧ w.heap.size + 1 < V.heap.size) ∧ V.cell? ⟨w.heap.size, 0, none⟩ = some (.slice A0 l0 c0) ∧ V.cell? ⟨w.heap.size, 1, none⟩ = some (.slice A1 l1 c1) ∧ V.cell? ⟨w.heap.size, 2, none⟩ = some (.slice A2 l2 c2) ∧ V.cell? ⟨w.heap.size, 3, none⟩ = some (.slice A3 l3 c3) ∧ V.cell? ⟨w.heap.size, 4, none⟩ = some (.slice A4 l4 c4) ∧ V.cell? ⟨w.heap.size, 5, none⟩ = some (.slice A5 l5 c5) ∧ V.cell? ⟨w.heap.size + 1, 0, none⟩ = some (.slice B0 m0 d0) ∧ V.cell? ⟨w.heap.size + 1, 1, none⟩ = some (.slice B1 m1 d1) ∧ V.cell? ⟨w.heap.size + 1, 2, none⟩ = some (.slice B2 m2 d2) ∧ V.cell? ⟨w.heap.size + 1, 3, none⟩ = some (.slice B3 m3 d3) ∧ V.cell? ⟨w.heap.size + 1, 4, none⟩ = some (.slice B4 m4 d4) ∧ V.cell? ⟨w.heap.size + 1, 5, none⟩ = some (.slice B5 m5 d5)) := Lib.hid (fun V g => by
  have ha := (g.block _ (blk_lt hba)).trans hba
  have hb := (g.block _ (blk_lt hbb)).trans hbb
  exact ⟨⟨blk_lt ha, blk_lt hb⟩, (blk_cell ha 0).trans rfl, (blk_cell ha 1).trans rfl, (blk_cell ha 2).trans rfl, (blk_cell ha 3).trans rfl, (blk_cell ha 4).trans rfl, (blk_cell ha 5).trans rfl, (blk_cell hb 0).trans rfl, (blk_cell hb 1).trans rfl, (blk_cell hb 2).trans rfl, (blk_cell hb 3).trans rfl, (blk_cell hb 4).trans rfl, (blk_cell hb 5).trans rfl⟩)
 have HB := Lib.hid hB
 have HW := Lib.hid hW
 clear hB hba hbb hW
 go_enter Tryz.func26, Tryz.ntmps26
 go_upto_region 1 with fail
 rw [HW.out]
 clear HW
 have HC0 := Lib.hid (H0.out W HB.out)
 obtain ⟨⟨s0, s1⟩, p0, p1, p2, p3, p4, p5, q0, q1, q2, q3, q4, q5⟩ := HBB.out W (Below.refl _ _)
 by_cases h0 : x0 = y0
 rotate_left
 ·have HF := Lib.hid (HN0.out h0)
  go_wp2_with (first | (go_at_call 43; refine HC0.out.mono ?_; rintro e w0 hh; obtain ⟨rfl, g⟩ := EqP.no h0 hh; have HG0 := Lib.hid g; clear HC0 hh g; clear s0 s1 p0 p1 p2 p3 p4 p5 q0 q1 q2 q3 q4 q5; obtain ⟨⟨s0, s1⟩, p0, p1, p2, p3, p4, p5, q0, q1, q2, q3, q4, q5⟩ := HBB.out w0 HG0.out))
  go_ret
  exact EqP.isF HF.out (HB.out.trans (HG0.out.mono HB.out.size))
 by_cases h1 : x1 = y1
 rotate_left
 ·have HF := Lib.hid (HN1.out h1)
  go_wp2_with (first | (go_at_call 43; refine HC0.out.mono ?_; rintro e w0 hh; obtain ⟨rfl, g⟩ := EqP.yes h0 hh; have HG0 := Lib.hid g; clear HC0 hh g; clear s0 s1 p0 p1 p2 p3 p4 p5 q0 q1 q2 q3 q4 q5; obtain ⟨⟨s0, s1⟩, p0, p1, p2, p3, p4, p5, q0, q1, q2, q3, q4, q5⟩ := HBB.out w0 HG0.out; have HC1 := Lib.hid (H1.out w0 (HB.out.trans (HG0.out.mono HB.out.size)))) | (go_at_call 62; refine HC1.out.mono ?_; rintro e w1 hh; obtain ⟨rfl, g⟩ := EqP.no h1 hh; have HG1 := Lib.hid (HG0.out.trans (g.mono HG0.out.size)); clear HC1 hh g; clear s0 s1 p0 p1 p2 p3 p4 p5 q0 q1 q2 q3 q4 q5; obtain ⟨⟨s0, s1⟩, p0, p1, p2, p3, p4, p5, q0, q1, q2, q3, q4, q5⟩ := HBB.out w1 HG1.out))
  go_ret
  exact EqP.isF HF.out (HB.out.trans (HG1.out.mono HB.out.size))
 by_cases h2 : x2 = y2
 rotate_left
 ·have HF := Lib.hid (HN2.out h2)
  go_wp2_with (first | (go_at_call 43; refine HC0.out.mono ?_; rintro e w0 hh; obtain ⟨rfl, g⟩ := EqP.yes h0 hh; have HG0 := Lib.hid g; clear HC0 hh g; clear s0 s1 p0 p1 p2 p3 p4 p5 q0 q1 q2 q3 q4 q5; obtain ⟨⟨s0, s1⟩, p0, p1, p2, p3, p4, p5, q0, q1, q2, q3, q4, q5⟩ := HBB.out w0 HG0.out; have HC1 := Lib.hid (H1.out w0 (HB.out.trans (HG0.out.mono HB.out.size)))) | (go_at_call 62; refine HC1.out.mono ?_; rintro e w1 hh; obtain ⟨rfl, g⟩ := EqP.yes h1 hh; have HG1 := Lib.hid (HG0.out.trans (g.mono HG0.out.size)); clear HC1 hh g; clear s0 s1 p0 p1 p2 p3 p4 p5 q0 q1 q2 q3 q4 q5; obtain ⟨⟨s0, s1⟩, p0, p1, p2, p3, p4, p5, q0, q1, q2, q3, q4, q5⟩ := HBB.out w1 HG1.out; have HC2 := Lib.hid (H2.out w1 (HB.out.trans (HG1.out.mono HB.out.size)))) | (go_at_call 63; refine HC2.out.mono ?_; rintro e w2 hh; obtain ⟨rfl, g⟩ := EqP.no h2 hh; have HG2 := Lib.hid (HG1.out.trans (g.mono HG1.out.size)); clear HC2 hh g; clear s0 s1 p0 p1 p2 p3 p4 p5 q0 q1 q2 q3 q4 q5; obtain ⟨⟨s0, s1⟩, p0, p1, p2, p3, p4, p5, q0, q1, q2, q3, q4, q5⟩ := HBB.out w2 HG2.out))
  go_ret
  exact EqP.isF HF.out (HB.out.trans (HG2.out.mono HB.out.size))
 by_cases h3 : x3 = y3
 rotate_left
 ·have HF := Lib.hid (HN3.out h3)
  go_wp2_with (first | (go_at_call 43; refine HC0.out.mono ?_; rintro e w0 hh; obtain ⟨rfl, g⟩ := EqP.yes h0 hh; have HG0 := Lib.hid g; clear HC0 hh g; clear s0 s1 p0 p1 p2 p3 p4 p5 q0 q1 q2 q3 q4 q5; obtain ⟨⟨s0, s1⟩, p0, p1, p2, p3, p4, p5, q0, q1, q2, q3, q4, q5⟩ := HBB.out w0 HG0.out; have HC1 := Lib.hid (H1.out w0 (HB.out.trans (HG0.out.mono HB.out.size)))) | (go_at_call 62; refine HC1.out.mono ?_; rintro e w1 hh; obtain ⟨rfl, g⟩ := EqP.yes h1 hh; have HG1 := Lib.hid (HG0.out.trans (g.mono HG0.out.size)); clear HC1 hh g; clear s0 s1 p0 p1 p2 p3 p4 p5 q0 q1 q2 q3 q4 q5; obtain ⟨⟨s0, s1⟩, p0, p1, p2, p3, p4, p5, q0, q1, q2, q3, q4, q5⟩ := HBB.out w1 HG1.out; have HC2 := Lib.hid (H2.out w1 (HB.out.trans (HG1.out.mono HB.out.size)))) | (go_at_call 63; refine HC2.out.mono ?_; rintro e w2 hh; obtain ⟨rfl, g⟩ := EqP.yes h2 hh; have HG2 := Lib.hid (HG1.out.trans (g.mono HG1.out.size)); clear HC2 hh g; clear s0 s1 p0 p1 p2 p3 p4 p5 q0 q1 q2 q3 q4 q5; obtain ⟨⟨s0, s1⟩, p0, p1, p2, p3, p4, p5, q0, q1, q2, q3, q4, q5⟩ := HBB.out w2 HG2.out; have HC3 := Lib.hid (H3.out w2 (HB.out.trans (HG2.out.mono HB.out.size)))) | (go_at_call 63; refine HC3.out.mono ?_; rintro e w3 hh; obtain ⟨rfl, g⟩ := EqP.no h3 hh; have HG3 := Lib.hid (HG2.out.trans (g.mono HG2.out.size)); clear HC3 hh g; clear s0 s1 p0 p1 p2 p3 p4 p5 q0 q1 q2 q3 q4 q5; obtain ⟨⟨s0, s1⟩, p0, p1, p2, p3, p4, p5, q0, q1, q2, q3, q4, q5⟩ := HBB.out w3 HG3.out))
  go_ret
  exact EqP.isF HF.out (HB.out.trans (HG3.out.mono HB.out.size))
 by_cases h4 : x4 = y4
 rotate_left
 ·have HF := Lib.hid (HN4.out h4)
  go_wp2_with (first | (go_at_call 43; refine HC0.out.mono ?_; rintro e w0 hh; obtain ⟨rfl, g⟩ := EqP.yes h0 hh; have HG0 := Lib.hid g; clear HC0 hh g; clear s0 s1 p0 p1 p2 p3 p4 p5 q0 q1 q2 q3 q4 q5; obtain ⟨⟨s0, s1⟩, p0, p1, p2, p3, p4, p5, q0, q1, q2, q3, q4, q5⟩ := HBB.out w0 HG0.out; have HC1 := Lib.hid (H1.out w0 (HB.out.trans (HG0.out.mono HB.out.size)))) | (go_at_call 62; refine HC1.out.mono ?_; rintro e w1 hh; obtain ⟨rfl, g⟩ := EqP.yes h1 hh; have HG1 := Lib.hid (HG0.out.trans (g.mono HG0.out.size)); clear HC1 hh g; clear s0 s1 p0 p1 p2 p3 p4 p5 q0 q1 q2 q3 q4 q5; obtain ⟨⟨s0, s1⟩, p0, p1, p2, p3, p4, p5, q0, q1, q2, q3, q4, q5⟩ := HBB.out w1 HG1.out; have HC2 := Lib.hid (H2.out w1 (HB.out.trans (HG1.out.mono HB.out.size)))) | (go_at_call 63; refine HC2.out.mono ?_; rintro e w2 hh; obtain ⟨rfl, g⟩ := EqP.yes h2 hh; have HG2 := Lib.hid (HG1.out.trans (g.mono HG1.out.size)); clear HC2 hh g; clear s0 s1 p0 p1 p2 p3 p4 p5 q0 q1 q2 q3 q4 q5; obtain ⟨⟨s0, s1⟩, p0, p1, p2, p3, p4, p5, q0, q1, q2, q3, q4, q5⟩ := HBB.out w2 HG2.out; have HC3 := Lib.hid (H3.out w2 (HB.out.trans (HG2.out.mono HB.out.size)))) | (go_at_call 63; refine HC3.out.mono ?_; rintro e w3 hh; obtain ⟨rfl, g⟩ := EqP.yes h3 hh; have HG3 := Lib.hid (HG2.out.trans (g.mono HG2.out.size)); clear HC3 hh g; clear s0 s1 p0 p1 p2 p3 p4 p5 q0 q1 q2 q3 q4 q5; obtain ⟨⟨s0, s1⟩, p0, p1, p2, p3, p4, p5, q0, q1, q2, q3, q4, q5⟩ := HBB.out w3 HG3.out; have HC4 := Lib.hid (H4.out w3 (HB.out.trans (HG3.out.mono HB.out.size)))) | (go_at_call 62; refine HC4.out.mono ?_; rintro e w4 hh; obtain ⟨rfl, g⟩ := EqP.no h4 hh; have HG4 := Lib.hid (HG3.out.trans (g.mono HG3.out.size)); clear HC4 hh g; clear s0 s1 p0 p1 p2 p3 p4 p5 q0 q1 q2 q3 q4 q5; obtain ⟨⟨s0, s1⟩, p0, p1, p2, p3, p4, p5, q0, q1, q2, q3, q4, q5⟩ := HBB.out w4 HG4.out))
  go_ret
  exact EqP.isF HF.out (HB.out.trans (HG4.out.mono HB.out.size))
 by_cases h5 : x5 = y5
 rotate_left
 ·have HF := Lib.hid (HN5.out h5)
  go_wp2_with (first | (go_at_call 43; refine HC0.out.mono ?_; rintro e w0 hh; obtain ⟨rfl, g⟩ := EqP.yes h0 hh; have HG0 := Lib.hid g; clear HC0 hh g; clear s0 s1 p0 p1 p2 p3 p4 p5 q0 q1 q2 q3 q4 q5; obtain ⟨⟨s0, s1⟩, p0, p1, p2, p3, p4, p5, q0, q1, q2, q3, q4, q5⟩ := HBB.out w0 HG0.out; have HC1 := Lib.hid (H1.out w0 (HB.out.trans (HG0.out.mono HB.out.size)))) | (go_at_call 62; refine HC1.out.mono ?_; rintro e w1 hh; obtain ⟨rfl, g⟩ := EqP.yes h1 hh; have HG1 := Lib.hid (HG0.out.trans (g.mono HG0.out.size)); clear HC1 hh g; clear s0 s1 p0 p1 p2 p3 p4 p5 q0 q1 q2 q3 q4 q5; obtain ⟨⟨s0, s1⟩, p0, p1, p2, p3, p4, p5, q0, q1, q2, q3, q4, q5⟩ := HBB.out w1 HG1.out; have HC2 := Lib.hid (H2.out w1 (HB.out.trans (HG1.out.mono HB.out.size)))) | (go_at_call 63; refine HC2.out.mono ?_; rintro e w2 hh; obtain ⟨rfl, g⟩ := EqP.yes h2 hh; have HG2 := Lib.hid (HG1.out.trans (g.mono HG1.out.size)); clear HC2 hh g; clear s0 s1 p0 p1 p2 p3 p4 p5 q0 q1 q2 q3 q4 q5; obtain ⟨⟨s0, s1⟩, p0, p1, p2, p3, p4, p5, q0, q1, q2, q3, q4, q5⟩ := HBB.out w2 HG2.out; have HC3 := Lib.hid (H3.out w2 (HB.out.trans (HG2.out.mono HB.out.size)))) | (go_at_call 63; refine HC3.out.mono ?_; rintro e w3 hh; obtain ⟨rfl, g⟩ := EqP.yes h3 hh; have HG3 := Lib.hid (HG2.out.trans (g.mono HG2.out.size)); clear HC3 hh g; clear s0 s1 p0 p1 p2 p3 p4 p5 q0 q1 q2 q3 q4 q5; obtain ⟨⟨s0, s1⟩, p0, p1, p2, p3, p4, p5, q0, q1, q2, q3, q4, q5⟩ := HBB.out w3 HG3.out; have HC4 := Lib.hid (H4.out w3 (HB.out.trans (HG3.out.mono HB.out.size)))) | (go_at_call 62; refine HC4.out.mono ?_; rintro e w4 hh; obtain ⟨rfl, g⟩ := EqP.yes h4 hh; have HG4 := Lib.hid (HG3.out.trans (g.mono HG3.out.size)); clear HC4 hh g; clear s0 s1 p0 p1 p2 p3 p4 p5 q0 q1 q2 q3 q4 q5; obtain ⟨⟨s0, s1⟩, p0, p1, p2, p3, p4, p5, q0, q1, q2, q3, q4, q5⟩ := HBB.out w4 HG4.out; have HC5 := Lib.hid (H5.out w4 (HB.out.trans (HG4.out.mono HB.out.size)))) | (go_at_call 62; refine HC5.out.mono ?_; rintro e w5 hh; obtain ⟨rfl, g⟩ := EqP.no h5 hh; have HG5 := Lib.hid (HG4.out.trans (g.mono HG4.out.size)); clear HC5 hh g; clear s0 s1 p0 p1 p2 p3 p4 p5 q0 q1 q2 q3 q4 q5; obtain ⟨⟨s0, s1⟩, p0, p1, p2, p3, p4, p5, q0, q1, q2, q3, q4, q5⟩ := HBB.out w5 HG5.out))
  go_ret
  exact EqP.isF HF.out (HB.out.trans (HG5.out.mono HB.out.size))
 have HF := Lib.hid (HEQ.out h0 h1 h2 h3 h4 h5)
 go_wp2_with (first | (go_at_call 43; refine HC0.out.mono ?_; rintro e w0 hh; obtain ⟨rfl, g⟩ := EqP.yes h0 hh; have HG0 := Lib.hid g; clear HC0 hh g; clear s0 s1 p0 p1 p2 p3 p4 p5 q0 q1 q2 q3 q4 q5; obtain ⟨⟨s0, s1⟩, p0, p1, p2, p3, p4, p5, q0, q1, q2, q3, q4, q5⟩ := HBB.out w0 HG0.out; have HC1 := Lib.hid (H1.out w0 (HB.out.trans (HG0.out.mono HB.out.size)))) | (go_at_call 62; refine HC1.out.mono ?_; rintro e w1 hh; obtain ⟨rfl, g⟩ := EqP.yes h1 hh; have HG1 := Lib.hid (HG0.out.trans (g.mono HG0.out.size)); clear HC1 hh g; clear s0 s1 p0 p1 p2 p3 p4 p5 q0 q1 q2 q3 q4 q5; obtain ⟨⟨s0, s1⟩, p0, p1, p2, p3, p4, p5, q0, q1, q2, q3, q4, q5⟩ := HBB.out w1 HG1.out; have HC2 := Lib.hid (H2.out w1 (HB.out.trans (HG1.out.mono HB.out.size)))) | (go_at_call 63; refine HC2.out.mono ?_; rintro e w2 hh; obtain ⟨rfl, g⟩ := EqP.yes h2 hh; have HG2 := Lib.hid (HG1.out.trans (g.mono HG1.out.size)); clear HC2 hh g; clear s0 s1 p0 p1 p2 p3 p4 p5 q0 q1 q2 q3 q4 q5; obtain ⟨⟨s0, s1⟩, p0, p1, p2, p3, p4, p5, q0, q1, q2, q3, q4, q5⟩ := HBB.out w2 HG2.out; have HC3 := Lib.hid (H3.out w2 (HB.out.trans (HG2.out.mono HB.out.size)))) | (go_at_call 63; refine HC3.out.mono ?_; rintro e w3 hh; obtain ⟨rfl, g⟩ := EqP.yes h3 hh; have HG3 := Lib.hid (HG2.out.trans (g.mono HG2.out.size)); clear HC3 hh g; clear s0 s1 p0 p1 p2 p3 p4 p5 q0 q1 q2 q3 q4 q5; obtain ⟨⟨s0, s1⟩, p0, p1, p2, p3, p4, p5, q0, q1, q2, q3, q4, q5⟩ := HBB.out w3 HG3.out; have HC4 := Lib.hid (H4.out w3 (HB.out.trans (HG3.out.mono HB.out.size)))) | (go_at_call 62; refine HC4.out.mono ?_; rintro e w4 hh; obtain ⟨rfl, g⟩ := EqP.yes h4 hh; have HG4 := Lib.hid (HG3.out.trans (g.mono HG3.out.size)); clear HC4 hh g; clear s0 s1 p0 p1 p2 p3 p4 p5 q0 q1 q2 q3 q4 q5; obtain ⟨⟨s0, s1⟩, p0, p1, p2, p3, p4, p5, q0, q1, q2, q3, q4, q5⟩ := HBB.out w4 HG4.out; have HC5 := Lib.hid (H5.out w4 (HB.out.trans (HG4.out.mono HB.out.size)))) | (go_at_call 62; refine HC5.out.mono ?_; rintro e w5 hh; obtain ⟨rfl, g⟩ := EqP.yes h5 hh; have HG5 := Lib.hid (HG4.out.trans (g.mono HG4.out.size)); clear HC5 hh g; clear s0 s1 p0 p1 p2 p3 p4 p5 q0 q1 q2 q3 q4 q5; obtain ⟨⟨s0, s1⟩, p0, p1, p2, p3, p4, p5, q0, q1, q2, q3, q4, q5⟩ := HBB.out w5 HG5.out))
 go_ret
 exact EqP.isT HF.out (HB.out.trans (HG5.out.mono HB.out.size))
set_option maxRecDepth 100000 in
set_option maxHeartbeats 8000000 in
theorem same27_walk (w : World) (a b : TabAt) (t u : TabP) (hT : TabC w a t) (hU : TabC w b u) :
  Calls Tryz.prog 27 #[.agg (a.cells t), .agg (b.cells u)] w (EqP (t = u) w) := by
 obtain ⟨A0, c0, A1, c1, A2, c2, A3, c3, A4, c4, A5, c5⟩ := a
 obtain ⟨B0, d0, B1, d1, B2, d2, B3, d3, B4, d4, B5, d5⟩ := b
 have H0 : Hid (∀ W, Below w.heap.size w W → Calls Tryz.prog 64 #[.slice A0 t.g.length c0, .slice B0 u.g.length d0] W (EqP (t.g = u.g) W)) := Lib.hid (fun W g => equalI_walk W _ _ _ _ _ _ (Kd.C_below hT.g g) (Kd.C_below hU.g g))
 have H1 : Hid (∀ W, Below w.heap.size w W → Calls Tryz.prog 65 #[.slice A1 t.far.length c1, .slice B1 u.far.length d1, .func (.func 64) #[] #[]] W (EqP (t.far = u.far) W)) := Lib.hid (fun W g => equalII_walk W _ _ _ _ _ _ (Kd.C_below hT.far g) (Kd.C_below hU.far g))
 have H2 : Hid (∀ W, Below w.heap.size w W → Calls Tryz.prog 66 #[.slice A2 t.out.length c2, .slice B2 u.out.length d2, .func (.func 67) #[] #[]] W (EqP (t.out = u.out) W)) := Lib.hid (fun W g => equalRR_walk W _ _ _ _ _ _ (Kd.C_below hT.out g) (Kd.C_below hU.out g))
 have H3 : Hid (∀ W, Below w.heap.size w W → Calls Tryz.prog 66 #[.slice A3 t.inn.length c3, .slice B3 u.inn.length d3, .func (.func 67) #[] #[]] W (EqP (t.inn = u.inn) W)) := Lib.hid (fun W g => equalRR_walk W _ _ _ _ _ _ (Kd.C_below hT.inn g) (Kd.C_below hU.inn g))
 have H4 : Hid (∀ W, Below w.heap.size w W → Calls Tryz.prog 65 #[.slice A4 t.so.length c4, .slice B4 u.so.length d4, .func (.func 64) #[] #[]] W (EqP (t.so = u.so) W)) := Lib.hid (fun W g => equalII_walk W _ _ _ _ _ _ (Kd.C_below hT.so g) (Kd.C_below hU.so g))
 have H5 : Hid (∀ W, Below w.heap.size w W → Calls Tryz.prog 65 #[.slice A5 t.si.length c5, .slice B5 u.si.length d5, .func (.func 64) #[] #[]] W (EqP (t.si = u.si) W)) := Lib.hid (fun W g => equalII_walk W _ _ _ _ _ _ (Kd.C_below hT.si g) (Kd.C_below hU.si g))
 have HEQ := Lib.hid (tab_eq (t := t) (u := u))
 have HN0 : Hid (¬ t.g = u.g → ¬ t = u) := Lib.hid (fun h e => h (by rw [e]))
 have HN1 : Hid (¬ t.far = u.far → ¬ t = u) := Lib.hid (fun h e => h (by rw [e]))
 have HN2 : Hid (¬ t.out = u.out → ¬ t = u) := Lib.hid (fun h e => h (by rw [e]))
 have HN3 : Hid (¬ t.inn = u.inn → ¬ t = u) := Lib.hid (fun h e => h (by rw [e]))
 have HN4 : Hid (¬ t.so = u.so → ¬ t = u) := Lib.hid (fun h e => h (by rw [e]))
 have HN5 : Hid (¬ t.si = u.si → ¬ t = u) := Lib.hid (fun h e => h (by rw [e]))
 simp only [TabAt.cells]
 generalize t.g.length = l0 at *
 generalize u.g.length = m0 at *
 generalize t.far.length = l1 at *
 generalize u.far.length = m1 at *
 generalize t.out.length = l2 at *
 generalize u.out.length = m2 at *
 generalize t.inn.length = l3 at *
 generalize u.inn.length = m3 at *
 generalize t.so.length = l4 at *
 generalize u.so.length = m4 at *
 generalize t.si.length = l5 at *
 generalize u.si.length = m5 at *
 generalize t.g = x0 at *
 generalize u.g = y0 at *
 generalize t.far = x1 at *
 generalize u.far = y1 at *
 generalize t.out = x2 at *
 generalize u.out = y2 at *
 generalize t.inn = x3 at *
 generalize u.inn = y3 at *
 generalize t.so = x4 at *
 generalize u.so = y4 at *
 generalize t.si = x5 at *
 generalize u.si = y5 at *
 clear hT hU
 obtain ⟨W, hW⟩ : ∃ W, (w.alloc (.cells #[.slice A0 l0 c0, .slice A1 l1 c1, .slice A2 l2 c2, .slice A3 l3 c3, .slice A4 l4 c4, .slice A5 l5 c5] 46)).alloc (.cells #[.slice B0 m0 d0, .slice B1 m1 d1, .slice B2 m2 d2, .slice B3 m3 d3, .slice B4 m4 d4, .slice B5 m5 d5] 46) = W := ⟨_, rfl⟩
 obtain ⟨hB, hba, hbb⟩ := two46 w _ _ W hW
 have HBB : Hid (∀ V, Below W.heap.size W V → (w.heap.size < V.heap.size ∧ w.heap.size + 1 < V.heap.size) ∧ V.cell? ⟨w.heap.size, 0, none⟩ = some (.slice A0 l0 c0) ∧ V.cell? ⟨w.heap.size, 1, none⟩ = some (.slice A1 l1 c1) ∧ V.cell? ⟨w.heap.size, 2, none⟩ = some (.slice A2 l2 c2) ∧ V.cell? ⟨w.heap.size, 3, none⟩ = some (.slice A3 l3 c3) ∧ V.cell? ⟨w.heap.size, 4, none⟩ = some (.slice A4 l4 c4) ∧ V.cell? ⟨w.heap.size, 5, none⟩ = some (.slice A5 l5 c5) ∧ V.cell? ⟨w.heap.size + 1, 0, none⟩ = some (.slice B0 m0 d0) ∧ V.cell? ⟨w.heap.size + 1, 1, none⟩ = some (.slice B1 m1 d1) ∧ V.cell? ⟨w.heap.size + 1, 2, none⟩ = some (.slice B2 m2 d2) ∧ V.cell? ⟨w.heap.size + 1, 3, none⟩ = some (.slice B3 m3 d3) ∧ V.cell? ⟨w.heap.size + 1, 4, none⟩ = some (.slice B4 m4 d4) ∧ V.cell? ⟨w.heap.size + 1, 5, none⟩ = some (.slice B5 m5 d5)) := Lib.hid (fun V g => by
  have ha := (g.block _ (blk_lt hba)).trans hba
  have hb := (g.block _ (blk_lt hbb)).trans hbb
  exact ⟨⟨blk_lt ha, blk_lt hb⟩, (blk_cell ha 0).trans rfl, (blk_cell ha 1).trans rfl, (blk_cell ha 2).trans rfl, (blk_cell ha 3).trans rfl, (blk_cell ha 4).trans rfl, (blk_cell ha 5).trans rfl, (blk_cell hb 0).trans rfl, (blk_cell hb 1).trans rfl, (blk_cell hb 2).trans rfl, (blk_cell hb 3).trans rfl, (blk_cell hb 4).trans rfl, (blk_cell hb 5).trans rfl⟩)
 have HB := Lib.hid hB
 have HW := Lib.hid hW
 clear hB hba hbb hW
 go_enter Tryz.func27, Tryz.ntmps27
 go_upto_region 1 with fail
 rw [HW.out]
 clear HW
 have HC0 := Lib.hid (H0.out W HB.out)
 obtain ⟨⟨s0, s1⟩, p0, p1, p2, p3, p4, p5, q0, q1, q2, q3, q4, q5⟩ := HBB.out W (Below.refl _ _)
 by_cases h0 : x0 = y0
 rotate_left
 ·have HF := Lib.hid (HN0.out h0)
  go_wp2_with (first | (go_at_call 64; refine HC0.out.mono ?_; rintro e w0 hh; obtain ⟨rfl, g⟩ := EqP.no h0 hh; have HG0 := Lib.hid g; clear HC0 hh g; clear s0 s1 p0 p1 p2 p3 p4 p5 q0 q1 q2 q3 q4 q5; obtain ⟨⟨s0, s1⟩, p0, p1, p2, p3, p4, p5, q0, q1, q2, q3, q4, q5⟩ := HBB.out w0 HG0.out))
  go_ret
  exact EqP.isF HF.out (HB.out.trans (HG0.out.mono HB.out.size))
 by_cases h1 : x1 = y1
 rotate_left
 ·have HF := Lib.hid (HN1.out h1)
  go_wp2_with (first | (go_at_call 64; refine HC0.out.mono ?_; rintro e w0 hh; obtain ⟨rfl, g⟩ := EqP.yes h0 hh; have HG0 := Lib.hid g; clear HC0 hh g; clear s0 s1 p0 p1 p2 p3 p4 p5 q0 q1 q2 q3 q4 q5; obtain ⟨⟨s0, s1⟩, p0, p1, p2, p3, p4, p5, q0, q1, q2, q3, q4, q5⟩ := HBB.out w0 HG0.out; have HC1 := Lib.hid (H1.out w0 (HB.out.trans (HG0.out.mono HB.out.size)))) | (go_at_call 65; refine HC1.out.mono ?_; rintro e w1 hh; obtain ⟨rfl, g⟩ := EqP.no h1 hh; have HG1 := Lib.hid (HG0.out.trans (g.mono HG0.out.size)); clear HC1 hh g; clear s0 s1 p0 p1 p2 p3 p4 p5 q0 q1 q2 q3 q4 q5; obtain ⟨⟨s0, s1⟩, p0, p1, p2, p3, p4, p5, q0, q1, q2, q3, q4, q5⟩ := HBB.out w1 HG1.out))
  go_ret
  exact EqP.isF HF.out (HB.out.trans (HG1.out.mono HB.out.size))
 by_cases h2 : x2 = y2
 rotate_left
 ·have HF := Lib.hid (HN2.out h2)
  go_wp2_with (first | (go_at_call 64; refine HC0.out.mono ?_; rintro e w0 hh; obtain ⟨rfl, g⟩ := EqP.yes h0 hh; have HG0 := Lib.hid g; clear HC0 hh g; clear s0 s1 p0 p1 p2 p3 p4 p5 q0 q1 q2 q3 q4 q5; obtain ⟨⟨s0, s1⟩, p0, p1, p2, p3, p4, p5, q0, q1, q2, q3, q4, q5⟩ := HBB.out w0 HG0.out; have HC1 := Lib.hid (H1.out w0 (HB.out.trans (HG0.out.mono HB.out.size)))) | (go_at_call 65; refine HC1.out.mono ?_; rintro e w1 hh; obtain ⟨rfl, g⟩ := EqP.yes h1 hh; have HG1 := Lib.hid (HG0.out.trans (g.mono HG0.out.size)); clear HC1 hh g; clear s0 s1 p0 p1 p2 p3 p4 p5 q0 q1 q2 q3 q4 q5; obtain ⟨⟨s0, s1⟩, p0, p1, p2, p3, p4, p5, q0, q1, q2, q3, q4, q5⟩ := HBB.out w1 HG1.out; have HC2 := Lib.hid (H2.out w1 (HB.out.trans (HG1.out.mono HB.out.size)))) | (go_at_call 66; refine HC2.out.mono ?_; rintro e w2 hh; obtain ⟨rfl, g⟩ := EqP.no h2 hh; have HG2 := Lib.hid (HG1.out.trans (g.mono HG1.out.size)); clear HC2 hh g; clear s0 s1 p0 p1 p2 p3 p4 p5 q0 q1 q2 q3 q4 q5; obtain ⟨⟨s0, s1⟩, p0, p1, p2, p3, p4, p5, q0, q1, q2, q3, q4, q5⟩ := HBB.out w2 HG2.out))
  go_ret
  exact EqP.isF HF.out (HB.out.trans (HG2.out.mono HB.out.size))
 by_cases h3 : x3 = y3
 rotate_left
 ·have HF := Lib.hid (HN3.out h3)
  go_wp2_with (first | (go_at_call 64; refine HC0.out.mono ?_; rintro e w0 hh; obtain ⟨rfl, g⟩ := EqP.yes h0 hh; have HG0 := Lib.hid g; clear HC0 hh g; clear s0 s1 p0 p1 p2 p3 p4 p5 q0 q1 q2 q3 q4 q5; obtain ⟨⟨s0, s1⟩, p0, p1, p2, p3, p4, p5, q0, q1, q2, q3, q4, q5⟩ := HBB.out w0 HG0.out; have HC1 := Lib.hid (H1.out w0 (HB.out.trans (HG0.out.mono HB.out.size)))) | (go_at_call 65; refine HC1.out.mono ?_; rintro e w1 hh; obtain ⟨rfl, g⟩ := EqP.yes h1 hh; have HG1 := Lib.hid (HG0.out.trans (g.mono HG0.out.size)); clear HC1 hh g; clear s0 s1 p0 p1 p2 p3 p4 p5 q0 q1 q2 q3 q4 q5; obtain ⟨⟨s0, s1⟩, p0, p1, p2, p3, p4, p5, q0, q1, q2, q3, q4, q5⟩ := HBB.out w1 HG1.out; have HC2 := Lib.hid (H2.out w1 (HB.out.trans (HG1.out.mono HB.out.size)))) | (go_at_call 66; refine HC2.out.mono ?_; rintro e w2 hh; obtain ⟨rfl, g⟩ := EqP.yes h2 hh; have HG2 := Lib.hid (HG1.out.trans (g.mono HG1.out.size)); clear HC2 hh g; clear s0 s1 p0 p1 p2 p3 p4 p5 q0 q1 q2 q3 q4 q5; obtain ⟨⟨s0, s1⟩, p0, p1, p2, p3, p4, p5, q0, q1, q2, q3, q4, q5⟩ := HBB.out w2 HG2.out; have HC3 := Lib.hid (H3.out w2 (HB.out.trans (HG2.out.mono HB.out.size)))) | (go_at_call 66; refine HC3.out.mono ?_; rintro e w3 hh; obtain ⟨rfl, g⟩ := EqP.no h3 hh; have HG3 := Lib.hid (HG2.out.trans (g.mono HG2.out.size)); clear HC3 hh g; clear s0 s1 p0 p1 p2 p3 p4 p5 q0 q1 q2 q3 q4 q5; obtain ⟨⟨s0, s1⟩, p0, p1, p2, p3, p4, p5, q0, q1, q2, q3, q4, q5⟩ := HBB.out w3 HG3.out))
  go_ret
  exact EqP.isF HF.out (HB.out.trans (HG3.out.mono HB.out.size))
 by_cases h4 : x4 = y4
 rotate_left
 ·have HF := Lib.hid (HN4.out h4)
  go_wp2_with (first | (go_at_call 64; refine HC0.out.mono ?_; rintro e w0 hh; obtain ⟨rfl, g⟩ := EqP.yes h0 hh; have HG0 := Lib.hid g; clear HC0 hh g; clear s0 s1 p0 p1 p2 p3 p4 p5 q0 q1 q2 q3 q4 q5; obtain ⟨⟨s0, s1⟩, p0, p1, p2, p3, p4, p5, q0, q1, q2, q3, q4, q5⟩ := HBB.out w0 HG0.out; have HC1 := Lib.hid (H1.out w0 (HB.out.trans (HG0.out.mono HB.out.size)))) | (go_at_call 65; refine HC1.out.mono ?_; rintro e w1 hh; obtain ⟨rfl, g⟩ := EqP.yes h1 hh; have HG1 := Lib.hid (HG0.out.trans (g.mono HG0.out.size)); clear HC1 hh g; clear s0 s1 p0 p1 p2 p3 p4 p5 q0 q1 q2 q3 q4 q5; obtain ⟨⟨s0, s1⟩, p0, p1, p2, p3, p4, p5, q0, q1, q2, q3, q4, q5⟩ := HBB.out w1 HG1.out; have HC2 := Lib.hid (H2.out w1 (HB.out.trans (HG1.out.mono HB.out.size)))) | (go_at_call 66; refine HC2.out.mono ?_; rintro e w2 hh; obtain ⟨rfl, g⟩ := EqP.yes h2 hh; have HG2 := Lib.hid (HG1.out.trans (g.mono HG1.out.size)); clear HC2 hh g; clear s0 s1 p0 p1 p2 p3 p4 p5 q0 q1 q2 q3 q4 q5; obtain ⟨⟨s0, s1⟩, p0, p1, p2, p3, p4, p5, q0, q1, q2, q3, q4, q5⟩ := HBB.out w2 HG2.out; have HC3 := Lib.hid (H3.out w2 (HB.out.trans (HG2.out.mono HB.out.size)))) | (go_at_call 66; refine HC3.out.mono ?_; rintro e w3 hh; obtain ⟨rfl, g⟩ := EqP.yes h3 hh; have HG3 := Lib.hid (HG2.out.trans (g.mono HG2.out.size)); clear HC3 hh g; clear s0 s1 p0 p1 p2 p3 p4 p5 q0 q1 q2 q3 q4 q5; obtain ⟨⟨s0, s1⟩, p0, p1, p2, p3, p4, p5, q0, q1, q2, q3, q4, q5⟩ := HBB.out w3 HG3.out; have HC4 := Lib.hid (H4.out w3 (HB.out.trans (HG3.out.mono HB.out.size)))) | (go_at_call 65; refine HC4.out.mono ?_; rintro e w4 hh; obtain ⟨rfl, g⟩ := EqP.no h4 hh; have HG4 := Lib.hid (HG3.out.trans (g.mono HG3.out.size)); clear HC4 hh g; clear s0 s1 p0 p1 p2 p3 p4 p5 q0 q1 q2 q3 q4 q5; obtain ⟨⟨s0, s1⟩, p0, p1, p2, p3, p4, p5, q0, q1, q2, q3, q4, q5⟩ := HBB.out w4 HG4.out))
  go_ret
  exact EqP.isF HF.out (HB.out.trans (HG4.out.mono HB.out.size))
 by_cases h5 : x5 = y5
 rotate_left
 ·have HF := Lib.hid (HN5.out h5)
  go_wp2_with (first | (go_at_call 64; refine HC0.out.mono ?_; rintro e w0 hh; obtain ⟨rfl, g⟩ := EqP.yes h0 hh; have HG0 := Lib.hid g; clear HC0 hh g; clear s0 s1 p0 p1 p2 p3 p4 p5 q0 q1 q2 q3 q4 q5; obtain ⟨⟨s0, s1⟩, p0, p1, p2, p3, p4, p5, q0, q1, q2, q3, q4, q5⟩ := HBB.out w0 HG0.out; have HC1 := Lib.hid (H1.out w0 (HB.out.trans (HG0.out.mono HB.out.size)))) | (go_at_call 65; refine HC1.out.mono ?_; rintro e w1 hh; obtain ⟨rfl, g⟩ := EqP.yes h1 hh; have HG1 := Lib.hid (HG0.out.trans (g.mono HG0.out.size)); clear HC1 hh g; clear s0 s1 p0 p1 p2 p3 p4 p5 q0 q1 q2 q3 q4 q5; obtain ⟨⟨s0, s1⟩, p0, p1, p2, p3, p4, p5, q0, q1, q2, q3, q4, q5⟩ := HBB.out w1 HG1.out; have HC2 := Lib.hid (H2.out w1 (HB.out.trans (HG1.out.mono HB.out.size)))) | (go_at_call 66; refine HC2.out.mono ?_; rintro e w2 hh; obtain ⟨rfl, g⟩ := EqP.yes h2 hh; have HG2 := Lib.hid (HG1.out.trans (g.mono HG1.out.size)); clear HC2 hh g; clear s0 s1 p0 p1 p2 p3 p4 p5 q0 q1 q2 q3 q4 q5; obtain ⟨⟨s0, s1⟩, p0, p1, p2, p3, p4, p5, q0, q1, q2, q3, q4, q5⟩ := HBB.out w2 HG2.out; have HC3 := Lib.hid (H3.out w2 (HB.out.trans (HG2.out.mono HB.out.size)))) | (go_at_call 66; refine HC3.out.mono ?_; rintro e w3 hh; obtain ⟨rfl, g⟩ := EqP.yes h3 hh; have HG3 := Lib.hid (HG2.out.trans (g.mono HG2.out.size)); clear HC3 hh g; clear s0 s1 p0 p1 p2 p3 p4 p5 q0 q1 q2 q3 q4 q5; obtain ⟨⟨s0, s1⟩, p0, p1, p2, p3, p4, p5, q0, q1, q2, q3, q4, q5⟩ := HBB.out w3 HG3.out; have HC4 := Lib.hid (H4.out w3 (HB.out.trans (HG3.out.mono HB.out.size)))) | (go_at_call 65; refine HC4.out.mono ?_; rintro e w4 hh; obtain ⟨rfl, g⟩ := EqP.yes h4 hh; have HG4 := Lib.hid (HG3.out.trans (g.mono HG3.out.size)); clear HC4 hh g; clear s0 s1 p0 p1 p2 p3 p4 p5 q0 q1 q2 q3 q4 q5; obtain ⟨⟨s0, s1⟩, p0, p1, p2, p3, p4, p5, q0, q1, q2, q3, q4, q5⟩ := HBB.out w4 HG4.out; have HC5 := Lib.hid (H5.out w4 (HB.out.trans (HG4.out.mono HB.out.size)))) | (go_at_call 65; refine HC5.out.mono ?_; rintro e w5 hh; obtain ⟨rfl, g⟩ := EqP.no h5 hh; have HG5 := Lib.hid (HG4.out.trans (g.mono HG4.out.size)); clear HC5 hh g; clear s0 s1 p0 p1 p2 p3 p4 p5 q0 q1 q2 q3 q4 q5; obtain ⟨⟨s0, s1⟩, p0, p1, p2, p3, p4, p5, q0, q1, q2, q3, q4, q5⟩ := HBB.out w5 HG5.out))
  go_ret
  exact EqP.isF HF.out (HB.out.trans (HG5.out.mono HB.out.size))
 have HF := Lib.hid (HEQ.out h0 h1 h2 h3 h4 h5)
 go_wp2_with (first | (go_at_call 64; refine HC0.out.mono ?_; rintro e w0 hh; obtain ⟨rfl, g⟩ := EqP.yes h0 hh; have HG0 := Lib.hid g; clear HC0 hh g; clear s0 s1 p0 p1 p2 p3 p4 p5 q0 q1 q2 q3 q4 q5; obtain ⟨⟨s0, s1⟩, p0, p1, p2, p3, p4, p5, q0, q1, q2, q3, q4, q5⟩ := HBB.out w0 HG0.out; have HC1 := Lib.hid (H1.out w0 (HB.out.trans (HG0.out.mono HB.out.size)))) | (go_at_call 65; refine HC1.out.mono ?_; rintro e w1 hh; obtain ⟨rfl, g⟩ := EqP.yes h1 hh; have HG1 := Lib.hid (HG0.out.trans (g.mono HG0.out.size)); clear HC1 hh g; clear s0 s1 p0 p1 p2 p3 p4 p5 q0 q1 q2 q3 q4 q5; obtain ⟨⟨s0, s1⟩, p0, p1, p2, p3, p4, p5, q0, q1, q2, q3, q4, q5⟩ := HBB.out w1 HG1.out; have HC2 := Lib.hid (H2.out w1 (HB.out.trans (HG1.out.mono HB.out.size)))) | (go_at_call 66; refine HC2.out.mono ?_; rintro e w2 hh; obtain ⟨rfl, g⟩ := EqP.yes h2 hh; have HG2 := Lib.hid (HG1.out.trans (g.mono HG1.out.size)); clear HC2 hh g; clear s0 s1 p0 p1 p2 p3 p4 p5 q0 q1 q2 q3 q4 q5; obtain ⟨⟨s0, s1⟩, p0, p1, p2, p3, p4, p5, q0, q1, q2, q3, q4, q5⟩ := HBB.out w2 HG2.out; have HC3 := Lib.hid (H3.out w2 (HB.out.trans (HG2.out.mono HB.out.size)))) | (go_at_call 66; refine HC3.out.mono ?_; rintro e w3 hh; obtain ⟨rfl, g⟩ := EqP.yes h3 hh; have HG3 := Lib.hid (HG2.out.trans (g.mono HG2.out.size)); clear HC3 hh g; clear s0 s1 p0 p1 p2 p3 p4 p5 q0 q1 q2 q3 q4 q5; obtain ⟨⟨s0, s1⟩, p0, p1, p2, p3, p4, p5, q0, q1, q2, q3, q4, q5⟩ := HBB.out w3 HG3.out; have HC4 := Lib.hid (H4.out w3 (HB.out.trans (HG3.out.mono HB.out.size)))) | (go_at_call 65; refine HC4.out.mono ?_; rintro e w4 hh; obtain ⟨rfl, g⟩ := EqP.yes h4 hh; have HG4 := Lib.hid (HG3.out.trans (g.mono HG3.out.size)); clear HC4 hh g; clear s0 s1 p0 p1 p2 p3 p4 p5 q0 q1 q2 q3 q4 q5; obtain ⟨⟨s0, s1⟩, p0, p1, p2, p3, p4, p5, q0, q1, q2, q3, q4, q5⟩ := HBB.out w4 HG4.out; have HC5 := Lib.hid (H5.out w4 (HB.out.trans (HG4.out.mono HB.out.size)))) | (go_at_call 65; refine HC5.out.mono ?_; rintro e w5 hh; obtain ⟨rfl, g⟩ := EqP.yes h5 hh; have HG5 := Lib.hid (HG4.out.trans (g.mono HG4.out.size)); clear HC5 hh g; clear s0 s1 p0 p1 p2 p3 p4 p5 q0 q1 q2 q3 q4 q5; obtain ⟨⟨s0, s1⟩, p0, p1, p2, p3, p4, p5, q0, q1, q2, q3, q4, q5⟩ := HBB.out w5 HG5.out))
 go_ret
 exact EqP.isT HF.out (HB.out.trans (HG5.out.mono HB.out.size))
end Go.Proofs.YtfkejflmhidnaaaGreat.PAll
