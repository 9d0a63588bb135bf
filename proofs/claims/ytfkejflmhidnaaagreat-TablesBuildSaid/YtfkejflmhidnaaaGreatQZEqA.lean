import Derived.Test.YtfkejflmhidnaaaGreatQZSuP
import Derived.Test.YtfkejflmhidnaaaGreatQZChB
set_option linter.all false
namespace Go.Proofs.YtfkejflmhidnaaaGreat.PAll
open RowKit YW.PrintWords YW.PrintLast YW.PrintMore
open Hp hiding Good
def EqP (p : Prop) (w : World) (r : Ending) (w' : World) : Prop := ∃ b : Bool, r = .returned (.bool b) ∧ (b = true ↔ p) ∧ Below w.heap.size w w'
theorem EqP.yes {p : Prop} {w w' : World} {r : Ending} (hp : p) (h : EqP p w r w') : r = .returned (.bool true) ∧ Below w.heap.size w w' := by
 obtain ⟨b, rfl, hb, g⟩ := h
 rw [hb.2 hp]
 exact ⟨rfl, g⟩
theorem EqP.no {p : Prop} {w w' : World} {r : Ending} (hp : ¬ p) (h : EqP p w r w') : r = .returned (.bool false) ∧ Below w.heap.size w w' := by
 obtain ⟨b, rfl, hb, g⟩ := h
 cases b
 ·exact ⟨rfl, g⟩
 ·exact absurd (hb.1 rfl) hp
theorem EqP.isT {p : Prop} {w w' : World} (hp : p) (g : Below w.heap.size w w') : EqP p w (.returned (.bool true)) w' := ⟨true, rfl, ⟨fun _ => hp, fun _ => rfl⟩, g⟩
theorem EqP.isF {p : Prop} {w w' : World} (hp : ¬ p) (g : Below w.heap.size w w') : EqP p w (.returned (.bool false)) w' := ⟨false, rfl, ⟨fun h => by (cases h), fun h => absurd h hp⟩, g⟩
theorem take_eq_succ {α : Type} {x y : List α} {i : Nat} (hx : i < x.length) (hy : i < y.length) (h : x.take i = y.take i) (e : x[i] = y[i]) : x.take (i + 1) = y.take (i + 1) := by
 rw [List.take_succ_eq_append_getElem hx, List.take_succ_eq_append_getElem hy, h, e]
theorem ne_of_get {α : Type} {x y : List α} {i : Nat} (hx : i < x.length) (hy : i < y.length) (e : ¬ x[i] = y[i]) : ¬ x = y := fun h => e (by subst h; rfl)
theorem eq_of_take {α : Type} {x y : List α} {n : Nat} (hx : x.length = n) (hy : y.length = n) (h : x.take n = y.take n) : x = y := by
 rw [← hx, List.take_length, hx, ← hy, List.take_length] at h
 exact h
theorem rdL7_get {l : List (List S37)} {q : Nat} (h : q < l.length) : rd_L7 l (q : Int) = l[q] := by simp [rd_L7, List.getD, h]
theorem ne_len {α : Type} {x y : List α} (h : ¬ x.length = y.length) : ¬ x = y := fun e => h (by rw [e])
theorem laterI {w : World} {A : Option Addr} {n : Nat} {x : List Int} (h : Kd.C (Kd.int .i64) w A n x) (i : Nat) (hi : i < n) : ∃ a : Addr, A = some a ∧ ∀ W, Below w.heap.size w W → W.cell? (a.add i) = some (.int .i64 (rd x (i : Int))) := by
 obtain ⟨a, ha, c⟩ := Kd.at_int h (i : Int) (by omega) (by omega)
 have c' : w.cell? (a.add i) = some (.int .i64 (rd x (i : Int))) := c
 exact ⟨a, ha, fun W g => (g.cell (World.block_lt_of_cell? _ _ c')).trans c'⟩
theorem laterP {w : World} {A : Option Addr} {n : Nat} {x : List S37} (h : Kd.C k37 w A n x) (i : Nat) (hi : i < n) : ∃ a : Addr, A = some a ∧ ∀ W, Below w.heap.size w W → W.cell? (a.add (i * 2)) = some (.int .i64 (rd_T37 x (i : Int)).f0) ∧ W.cell? ⟨(a.add (i * 2)).block, (a.add (i * 2)).off + 1, none⟩ = some (.int .i64 (rd_T37 x (i : Int)).f1) := by
 obtain ⟨a, ha, c, d⟩ := at_T37 h (i : Int) (by omega) (by omega)
 rw [Int.toNat_natCast] at c d
 exact ⟨a, ha, fun W g => ⟨(g.cell (World.block_lt_of_cell? _ _ c)).trans c, (g.cell (World.block_lt_of_cell? _ _ d)).trans d⟩⟩
theorem laterII {w : World} {A : Option Addr} {n : Nat} {x : List (List Int)} (h : Kd.C kII w A n x) (i : Nat) (hi : i < n) : ∃ (a : Addr) (B : Option Addr) (c : Nat), A = some a ∧ ∀ W, Below w.heap.size w W → W.cell? (a.add i) = some (.slice B (rd_L5 x (i : Int)).length c) ∧ (rd_L5 x (i : Int)).length ≤ c ∧ Kd.C (Kd.int .i64) W B (rd_L5 x (i : Int)).length (rd_L5 x (i : Int)) := by
 obtain ⟨a, B, c, ha, hc, hl, hr⟩ := at_L5 h (i : Int) (by omega) (by omega)
 rw [Int.toNat_natCast] at hc
 exact ⟨a, B, c, ha, fun W g => ⟨(g.cell (World.block_lt_of_cell? _ _ hc)).trans hc, hl, Kd.C_below hr g⟩⟩
theorem laterRR {w : World} {A : Option Addr} {n : Nat} {x : List (List S37)} (h : Kd.C kRR w A n x) (i : Nat) (hi : i < n) : ∃ (a : Addr) (B : Option Addr) (c : Nat), A = some a ∧ ∀ W, Below w.heap.size w W → W.cell? (a.add i) = some (.slice B (rd_L7 x (i : Int)).length c) ∧ (rd_L7 x (i : Int)).length ≤ c ∧ Kd.C k37 W B (rd_L7 x (i : Int)).length (rd_L7 x (i : Int)) := by
 obtain ⟨a, B, c, ha, hc, hl, hr⟩ := at_L7 h (i : Int) (by omega) (by omega)
 rw [Int.toNat_natCast] at hc
 exact ⟨a, B, c, ha, fun W g => ⟨(g.cell (World.block_lt_of_cell? _ _ hc)).trans hc, hl, Kd.C_below hr g⟩⟩
theorem eqP37 (d : Nat) (w : World) (x0 y0 : Int) (x1 y1 : Int) :
  (Op.equalIn (d + 2) 37 (.agg #[.int .i64 x0, .int .i64 x1]) (.agg #[.int .i64 y0, .int .i64 y1])).run Tryz.prog w = .ok (x0 == y0 && (x1 == y1)) w := by
 refine eqA_of Tryz.underlying37 (by kernel_rfl) ?_
 refine eqf_cons (by rfl) (by go_simp; rfl) (by go_simp; rfl) (by go_simp) ?_
 exact eqf_last (by rfl) (by go_simp; rfl) (by go_simp; rfl) (by go_simp)
attribute [local go_sem high] eqP37
set_option maxRecDepth 100000 in
set_option maxHeartbeats 4000000 in
theorem equalI_walk (w : World) (A0 A1 : Option Addr) (c0 c1 : Nat) (x y : List Int) (h0 : Kd.C (Kd.int .i64) w A0 x.length x) (h1 : Kd.C (Kd.int .i64) w A1 y.length y) :
  Calls Tryz.prog 64 #[.slice A0 x.length c0, .slice A1 y.length c1] w (EqP (x = y) w) := by
 have hsx := h0.2.1
 have HNL := Lib.hid (ne_len (x := x) (y := y))
 obtain ⟨n, hn⟩ : ∃ n, x.length = n := ⟨_, rfl⟩
 obtain ⟨m, hm⟩ : ∃ m, y.length = m := ⟨_, rfl⟩
 rw [hn] at h0 hsx
 rw [hm] at h1
 rw [hn, hm] at HNL
 have HX := Lib.hid (laterI h0)
 have HY := Lib.hid (laterI h1)
 have HST : Hid (∀ i : Nat, i < n → i < m → x.take i = y.take i → rd x (i : Int) = rd y (i : Int) → x.take (i + 1) = y.take (i + 1)) := Lib.hid (fun i h h' ht e => take_eq_succ (i := i) (by omega) (by omega) ht (by rw [← rd_get (by omega), ← rd_get (by omega)]; exact e))
 have HNE : Hid (∀ i : Nat, i < n → i < m → ¬ rd x (i : Int) = rd y (i : Int) → ¬ x = y) := Lib.hid (fun i h h' e => ne_of_get (i := i) (by omega) (by omega) (by rw [← rd_get (by omega), ← rd_get (by omega)]; exact e))
 have HFU : Hid (n = m → x.take n = y.take n → x = y) := Lib.hid (fun e h => eq_of_take hn (by omega) h)
 rw [hn, hm]
 clear h0 h1 hn hm
 go_enter Tryz.func64, Tryz.ntmps64
 by_cases hnm : n = m
 rotate_left
 ·have t0 : ((n : Int) != (m : Int)) = true := by simp; omega
  go_wp2_with fail
  go_ret
  exact EqP.isF (HNL.out hnm) (Below.refl _ _)
 subst hnm
 have HFX := Lib.hid (HFU.out rfl)
 clear HFU
 have t0 : ((n : Int) != (n : Int)) = false := by simp
 go_wp2_with fail
 clear t0
 go_loopw [13] (fun v wr => ∃ i : Nat, v = .int .i64 i ∧ i ≤ n ∧ Hid (x.take i = y.take i) ∧ Hid (Below w.heap.size w wr)) (fun v _ => n - (intOf v).toNat)
 case atStart => exact ⟨0, rfl, by omega, Lib.hid rfl, Lib.hid (Below.refl _ _)⟩
 case round =>
  obtain ⟨i, rfl, hi, HT, HB⟩ := hrel
  by_cases hlt : i < n
  rotate_left
  ·have hle : n ≤ i := by omega
   obtain rfl : i = n := by omega
   have HF := Lib.hid (HFX.out HT.out)
   go_wp2_with fail
   go_ret
   exact EqP.isT HF.out HB.out
  have hi0 : (0 : Int) ≤ (i : Int) := Int.natCast_nonneg _
  have hi1 : (i : Int) < (n : Int) := by omega
  obtain ⟨a, rfl, hx⟩ := HX.out i hlt
  obtain ⟨b, rfl, hy⟩ := HY.out i hlt
  have HCX := Lib.hid hx
  have HCY := Lib.hid hy
  have HTE := Lib.hid (HST.out i hlt hlt HT.out)
  have HNO := Lib.hid (HNE.out i hlt hlt)
  clear hx hy
  generalize rd x (i : Int) = p at *
  generalize rd y (i : Int) = q at *
  by_cases he : p = q
  ·have HT' := Lib.hid (HTE.out he)
   subst he
   have t1 : (p != p) = false := by simp
   go_upto_region 6 with fail
   refine start_ (n := 9) (S := fun w' => w'.cell? (a.add i) = some (.int .i64 p) ∧ w'.cell? (b.add i) = some (.int .i64 p)) (ds := []) (bA_ 9 0) (by kernel_rfl) rfl rfl ⟨HCX.out _ HB.out.drew, HCY.out _ HB.out.drew⟩ (fun hHeld => ?_)
   refine p2_ 0 16 (bA_ 9 1) ?_
   refine p2_ 1 17 (bA_ 9 3) ?_
   refine p2_ 2 18 (bA_ 9 7) ?_
   refine p2_ 4 20 (bA_ 9 23) ?_
   refine p2_ 5 21 (bA_ 9 55) ?_
   refine p2_ 6 22 (bA_ 9 119) ?_
   refine t2_ 3 19 (bA_ 9 127) hHeld ?_ (hy := by rintro w' ⟨s0, s1⟩; go_simp; with_reducible rfl)
   refine t2_ 7 23 (bA_ 9 255) hHeld ?_ (hy := by rintro w' ⟨s0, s1⟩; go_simp; with_reducible rfl)
   refine p2_ 8 24 (bA_ 9 511) ?_
   refine done_ (by kernel_rfl) ?_
   go_wp2_with fail
   go_roundw
   case measure => simp [intOf]; omega
   case rel => exact ⟨i + 1, by go_num, by omega, HT', Lib.hid HB.out.drew⟩
  ·have HF := Lib.hid (HNO.out he)
   have t1 : (p != q) = true := by simpa using he
   go_upto_region 6 with fail
   refine start_ (n := 9) (S := fun w' => w'.cell? (a.add i) = some (.int .i64 p) ∧ w'.cell? (b.add i) = some (.int .i64 q)) (ds := []) (bA_ 9 0) (by kernel_rfl) rfl rfl ⟨HCX.out _ HB.out.drew, HCY.out _ HB.out.drew⟩ (fun hHeld => ?_)
   refine p2_ 0 16 (bA_ 9 1) ?_
   refine p2_ 1 17 (bA_ 9 3) ?_
   refine p2_ 2 18 (bA_ 9 7) ?_
   refine p2_ 4 20 (bA_ 9 23) ?_
   refine p2_ 5 21 (bA_ 9 55) ?_
   refine p2_ 6 22 (bA_ 9 119) ?_
   refine t2_ 3 19 (bA_ 9 127) hHeld ?_ (hy := by rintro w' ⟨s0, s1⟩; go_simp; with_reducible rfl)
   refine t2_ 7 23 (bA_ 9 255) hHeld ?_ (hy := by rintro w' ⟨s0, s1⟩; go_simp; with_reducible rfl)
   refine p2_ 8 24 (bA_ 9 511) ?_
   refine done_ (by kernel_rfl) ?_
   go_wp2_with fail
   go_ret
   exact EqP.isF HF.out HB.out.drew
set_option maxRecDepth 100000 in
set_option maxHeartbeats 4000000 in
theorem equalP_walk (w : World) (A0 A1 : Option Addr) (c0 c1 : Nat) (x y : List S37) (h0 : Kd.C (k37) w A0 x.length x) (h1 : Kd.C (k37) w A1 y.length y) :
  Calls Tryz.prog 67 #[.slice A0 x.length c0, .slice A1 y.length c1] w (EqP (x = y) w) := by
 have hsx := h0.2.1
 have HNL := Lib.hid (ne_len (x := x) (y := y))
 obtain ⟨n, hn⟩ : ∃ n, x.length = n := ⟨_, rfl⟩
 obtain ⟨m, hm⟩ : ∃ m, y.length = m := ⟨_, rfl⟩
 rw [hn] at h0 hsx
 rw [hm] at h1
 rw [hn, hm] at HNL
 have HX := Lib.hid (laterP h0)
 have HY := Lib.hid (laterP h1)
 have HST : Hid (∀ i : Nat, i < n → i < m → x.take i = y.take i → rd_T37 x (i : Int) = rd_T37 y (i : Int) → x.take (i + 1) = y.take (i + 1)) := Lib.hid (fun i h h' ht e => take_eq_succ (i := i) (by omega) (by omega) ht (by rw [← rd37_get (by omega), ← rd37_get (by omega)]; exact e))
 have HNE : Hid (∀ i : Nat, i < n → i < m → ¬ rd_T37 x (i : Int) = rd_T37 y (i : Int) → ¬ x = y) := Lib.hid (fun i h h' e => ne_of_get (i := i) (by omega) (by omega) (by rw [← rd37_get (by omega), ← rd37_get (by omega)]; exact e))
 have HFU : Hid (n = m → x.take n = y.take n → x = y) := Lib.hid (fun e h => eq_of_take hn (by omega) h)
 rw [hn, hm]
 clear h0 h1 hn hm
 go_enter Tryz.func67, Tryz.ntmps67
 by_cases hnm : n = m
 rotate_left
 ·have t0 : ((n : Int) != (m : Int)) = true := by simp; omega
  go_wp2_with fail
  go_ret
  exact EqP.isF (HNL.out hnm) (Below.refl _ _)
 subst hnm
 have HFX := Lib.hid (HFU.out rfl)
 clear HFU
 have t0 : ((n : Int) != (n : Int)) = false := by simp
 go_wp2_with fail
 clear t0
 go_loopw [13] (fun v wr => ∃ i : Nat, v = .int .i64 i ∧ i ≤ n ∧ Hid (x.take i = y.take i) ∧ Hid (Below w.heap.size w wr)) (fun v _ => n - (intOf v).toNat)
 case atStart => exact ⟨0, rfl, by omega, Lib.hid rfl, Lib.hid (Below.refl _ _)⟩
 case round =>
  obtain ⟨i, rfl, hi, HT, HB⟩ := hrel
  by_cases hlt : i < n
  rotate_left
  ·have hle : n ≤ i := by omega
   obtain rfl : i = n := by omega
   have HF := Lib.hid (HFX.out HT.out)
   go_wp2_with fail
   go_ret
   exact EqP.isT HF.out HB.out
  have hi0 : (0 : Int) ≤ (i : Int) := Int.natCast_nonneg _
  have hi1 : (i : Int) < (n : Int) := by omega
  obtain ⟨a, rfl, hx⟩ := HX.out i hlt
  obtain ⟨b, rfl, hy⟩ := HY.out i hlt
  have HCX := Lib.hid hx
  have HCY := Lib.hid hy
  have HTE := Lib.hid (HST.out i hlt hlt HT.out)
  have HNO := Lib.hid (HNE.out i hlt hlt)
  clear hx hy
  generalize rd_T37 x (i : Int) = p at *
  generalize rd_T37 y (i : Int) = q at *
  obtain ⟨p0, p1⟩ := p
  obtain ⟨q0, q1⟩ := q
  simp only at HCX HCY
  by_cases he : (⟨p0, p1⟩ : S37) = ⟨q0, q1⟩
  ·have HT' := Lib.hid (HTE.out he)
   cases he
   have t1 : (p0 == p0) = true := by simp
   have t2 : (p1 == p1) = true := by simp
   go_upto_region 6 with fail
   refine start_ (n := 9) (S := fun w' => w'.cell? (a.add (i * 2)) = some (.int .i64 p0) ∧ w'.cell? ⟨(a.add (i * 2)).block, (a.add (i * 2)).off + 1, none⟩ = some (.int .i64 p1) ∧ w'.cell? (b.add (i * 2)) = some (.int .i64 p0) ∧ w'.cell? ⟨(b.add (i * 2)).block, (b.add (i * 2)).off + 1, none⟩ = some (.int .i64 p1)) (ds := []) (bA_ 9 0) (by kernel_rfl) rfl rfl ⟨(HCX.out _ HB.out.drew).1, (HCX.out _ HB.out.drew).2, (HCY.out _ HB.out.drew).1, (HCY.out _ HB.out.drew).2⟩ (fun hHeld => ?_)
   refine p2_ 0 16 (bA_ 9 1) ?_
   refine p2_ 1 17 (bA_ 9 3) ?_
   refine p2_ 2 18 (bA_ 9 7) ?_
   refine p2_ 4 20 (bA_ 9 23) ?_
   refine p2_ 5 21 (bA_ 9 55) ?_
   refine p2_ 6 22 (bA_ 9 119) ?_
   refine t2_ 3 19 (bA_ 9 127) hHeld ?_ (hy := by rintro w' ⟨s0, s1, s2, s3⟩; go_simp; with_reducible rfl)
   refine t2_ 7 23 (bA_ 9 255) hHeld ?_ (hy := by rintro w' ⟨s0, s1, s2, s3⟩; go_simp; with_reducible rfl)
   refine p2_ 8 24 (bA_ 9 511) ?_
   refine done_ (by kernel_rfl) ?_
   go_wp2_with fail
   go_roundw
   case measure => simp [intOf]; omega
   case rel => exact ⟨i + 1, by go_num, by omega, HT', Lib.hid HB.out.drew⟩
  ·have HF := Lib.hid (HNO.out he)
   have t1 : (!(p0 == q0 && (p1 == q1))) = true := by
    have : ¬ (p0 = q0 ∧ p1 = q1) := fun ⟨h0, h1⟩ => he (by rw [h0, h1])
    by_cases h0 : p0 = q0
    ·have : ¬ p1 = q1 := fun h1 => this ⟨h0, h1⟩
     simp [this]
    ·simp [h0]
   go_upto_region 6 with fail
   refine start_ (n := 9) (S := fun w' => w'.cell? (a.add (i * 2)) = some (.int .i64 p0) ∧ w'.cell? ⟨(a.add (i * 2)).block, (a.add (i * 2)).off + 1, none⟩ = some (.int .i64 p1) ∧ w'.cell? (b.add (i * 2)) = some (.int .i64 q0) ∧ w'.cell? ⟨(b.add (i * 2)).block, (b.add (i * 2)).off + 1, none⟩ = some (.int .i64 q1)) (ds := []) (bA_ 9 0) (by kernel_rfl) rfl rfl ⟨(HCX.out _ HB.out.drew).1, (HCX.out _ HB.out.drew).2, (HCY.out _ HB.out.drew).1, (HCY.out _ HB.out.drew).2⟩ (fun hHeld => ?_)
   refine p2_ 0 16 (bA_ 9 1) ?_
   refine p2_ 1 17 (bA_ 9 3) ?_
   refine p2_ 2 18 (bA_ 9 7) ?_
   refine p2_ 4 20 (bA_ 9 23) ?_
   refine p2_ 5 21 (bA_ 9 55) ?_
   refine p2_ 6 22 (bA_ 9 119) ?_
   refine t2_ 3 19 (bA_ 9 127) hHeld ?_ (hy := by rintro w' ⟨s0, s1, s2, s3⟩; go_simp; with_reducible rfl)
   refine t2_ 7 23 (bA_ 9 255) hHeld ?_ (hy := by rintro w' ⟨s0, s1, s2, s3⟩; go_simp; with_reducible rfl)
   refine p2_ 8 24 (bA_ 9 511) ?_
   refine done_ (by kernel_rfl) ?_
   go_wp2_with fail
   go_ret
   exact EqP.isF HF.out HB.out.drew
set_option maxRecDepth 100000 in
set_option maxHeartbeats 4000000 in
theorem equalII_walk (w : World) (A0 A1 : Option Addr) (c0 c1 : Nat) (x y : List (List Int)) (h0 : Kd.C (kII) w A0 x.length x) (h1 : Kd.C (kII) w A1 y.length y) :
  Calls Tryz.prog 65 #[.slice A0 x.length c0, .slice A1 y.length c1, .func (.func 64) #[] #[]] w (EqP (x = y) w) := by
 have hsx := h0.2.1
 have HNL := Lib.hid (ne_len (x := x) (y := y))
 obtain ⟨n, hn⟩ : ∃ n, x.length = n := ⟨_, rfl⟩
 obtain ⟨m, hm⟩ : ∃ m, y.length = m := ⟨_, rfl⟩
 rw [hn] at h0 hsx
 rw [hm] at h1
 rw [hn, hm] at HNL
 have HX := Lib.hid (laterII h0)
 have HY := Lib.hid (laterII h1)
 have HST : Hid (∀ i : Nat, i < n → i < m → x.take i = y.take i → rd_L5 x (i : Int) = rd_L5 y (i : Int) → x.take (i + 1) = y.take (i + 1)) := Lib.hid (fun i h h' ht e => take_eq_succ (i := i) (by omega) (by omega) ht (by rw [← rdL5_get (by omega), ← rdL5_get (by omega)]; exact e))
 have HNE : Hid (∀ i : Nat, i < n → i < m → ¬ rd_L5 x (i : Int) = rd_L5 y (i : Int) → ¬ x = y) := Lib.hid (fun i h h' e => ne_of_get (i := i) (by omega) (by omega) (by rw [← rdL5_get (by omega), ← rdL5_get (by omega)]; exact e))
 have HFU : Hid (n = m → x.take n = y.take n → x = y) := Lib.hid (fun e h => eq_of_take hn (by omega) h)
 rw [hn, hm]
 clear h0 h1 hn hm
 go_enter Tryz.func65, Tryz.ntmps65
 by_cases hnm : n = m
 rotate_left
 ·have t0 : ((n : Int) != (m : Int)) = true := by simp; omega
  go_wp2_with fail
  go_ret
  exact EqP.isF (HNL.out hnm) (Below.refl _ _)
 subst hnm
 have HFX := Lib.hid (HFU.out rfl)
 clear HFU
 have t0 : ((n : Int) != (n : Int)) = false := by simp
 go_wp2_with fail
 clear t0
 go_loopw [17] (fun v wr => ∃ i : Nat, v = .int .i64 i ∧ i ≤ n ∧ Hid (x.take i = y.take i) ∧ Hid (Below w.heap.size w wr)) (fun v _ => n - (intOf v).toNat)
 case atStart => exact ⟨0, rfl, by omega, Lib.hid rfl, Lib.hid (Below.refl _ _)⟩
 case round =>
  obtain ⟨i, rfl, hi, HT, HB⟩ := hrel
  by_cases hlt : i < n
  rotate_left
  ·have hle : n ≤ i := by omega
   obtain rfl : i = n := by omega
   have HF := Lib.hid (HFX.out HT.out)
   go_wp2_with fail
   go_ret
   exact EqP.isT HF.out HB.out
  have hi0 : (0 : Int) ≤ (i : Int) := Int.natCast_nonneg _
  have hi1 : (i : Int) < (n : Int) := by omega
  obtain ⟨a, B, cb, rfl, hx⟩ := HX.out i hlt
  obtain ⟨b, D, cd, rfl, hy⟩ := HY.out i hlt
  obtain ⟨x0, hlx, x1⟩ := hx wr HB.out
  obtain ⟨y0, hly, y1⟩ := hy wr HB.out
  have HTE := Lib.hid (HST.out i hlt hlt HT.out)
  have HNO := Lib.hid (HNE.out i hlt hlt)
  have HC := Lib.hid (equalI_walk wr B D cb cd _ _ x1 y1)
  clear hx hy x1 y1 hlx hly
  generalize rd_L5 x (i : Int) = p at *
  generalize rd_L5 y (i : Int) = q at *
  generalize p.length = lp at *
  generalize q.length = lq at *
  by_cases he : p = q
  ·have HT' := Lib.hid (HTE.out he)
   go_wp2_with (first | (go_at_call 64; refine HC.out.mono ?_; rintro e w1 hh; obtain ⟨rfl, g1⟩ := EqP.yes he hh; have HG := Lib.hid (HB.out.trans (g1.mono HB.out.size)); clear g1 hh))
   go_roundw
   case measure => simp [intOf]; omega
   case rel => exact ⟨i + 1, by go_num, by omega, HT', HG⟩
  ·have HF := Lib.hid (HNO.out he)
   go_wp2_with (first | (go_at_call 64; refine HC.out.mono ?_; rintro e w1 hh; obtain ⟨rfl, g1⟩ := EqP.no he hh; have HG := Lib.hid (HB.out.trans (g1.mono HB.out.size)); clear g1 hh))
   go_ret
   exact EqP.isF HF.out HG.out
set_option maxRecDepth 100000 in
set_option maxHeartbeats 4000000 in
theorem equalRR_walk (w : World) (A0 A1 : Option Addr) (c0 c1 : Nat) (x y : List (List S37)) (h0 : Kd.C (kRR) w A0 x.length x) (h1 : Kd.C (kRR) w A1 y.length y) :
  Calls Tryz.prog 66 #[.slice A0 x.length c0, .slice A1 y.length c1, .func (.func 67) #[] #[]] w (EqP (x = y) w) := by
 have hsx := h0.2.1
 have HNL := Lib.hid (ne_len (x := x) (y := y))
 obtain ⟨n, hn⟩ : ∃ n, x.length = n := ⟨_, rfl⟩
 obtain ⟨m, hm⟩ : ∃ m, y.length = m := ⟨_, rfl⟩
 rw [hn] at h0 hsx
 rw [hm] at h1
 rw [hn, hm] at HNL
 have HX := Lib.hid (laterRR h0)
 have HY := Lib.hid (laterRR h1)
 have HST : Hid (∀ i : Nat, i < n → i < m → x.take i = y.take i → rd_L7 x (i : Int) = rd_L7 y (i : Int) → x.take (i + 1) = y.take (i + 1)) := Lib.hid (fun i h h' ht e => take_eq_succ (i := i) (by omega) (by omega) ht (by rw [← rdL7_get (by omega), ← rdL7_get (by omega)]; exact e))
 have HNE : Hid (∀ i : Nat, i < n → i < m → ¬ rd_L7 x (i : Int) = rd_L7 y (i : Int) → ¬ x = y) := Lib.hid (fun i h h' e => ne_of_get (i := i) (by omega) (by omega) (by rw [← rdL7_get (by omega), ← rdL7_get (by omega)]; exact e))
 have HFU : Hid (n = m → x.take n = y.take n → x = y) := Lib.hid (fun e h => eq_of_take hn (by omega) h)
 rw [hn, hm]
 clear h0 h1 hn hm
 go_enter Tryz.func66, Tryz.ntmps66
 by_cases hnm : n = m
 rotate_left
 ·have t0 : ((n : Int) != (m : Int)) = true := by simp; omega
  go_wp2_with fail
  go_ret
  exact EqP.isF (HNL.out hnm) (Below.refl _ _)
 subst hnm
 have HFX := Lib.hid (HFU.out rfl)
 clear HFU
 have t0 : ((n : Int) != (n : Int)) = false := by simp
 go_wp2_with fail
 clear t0
 go_loopw [17] (fun v wr => ∃ i : Nat, v = .int .i64 i ∧ i ≤ n ∧ Hid (x.take i = y.take i) ∧ Hid (Below w.heap.size w wr)) (fun v _ => n - (intOf v).toNat)
 case atStart => exact ⟨0, rfl, by omega, Lib.hid rfl, Lib.hid (Below.refl _ _)⟩
 case round =>
  obtain ⟨i, rfl, hi, HT, HB⟩ := hrel
  by_cases hlt : i < n
  rotate_left
  ·have hle : n ≤ i := by omega
   obtain rfl : i = n := by omega
   have HF := Lib.hid (HFX.out HT.out)
   go_wp2_with fail
   go_ret
   exact EqP.isT HF.out HB.out
  have hi0 : (0 : Int) ≤ (i : Int) := Int.natCast_nonneg _
  have hi1 : (i : Int) < (n : Int) := by omega
  obtain ⟨a, B, cb, rfl, hx⟩ := HX.out i hlt
  obtain ⟨b, D, cd, rfl, hy⟩ := HY.out i hlt
  obtain ⟨x0, hlx, x1⟩ := hx wr HB.out
  obtain ⟨y0, hly, y1⟩ := hy wr HB.out
  have HTE := Lib.hid (HST.out i hlt hlt HT.out)
  have HNO := Lib.hid (HNE.out i hlt hlt)
  have HC := Lib.hid (equalP_walk wr B D cb cd _ _ x1 y1)
  clear hx hy x1 y1 hlx hly
  generalize rd_L7 x (i : Int) = p at *
  generalize rd_L7 y (i : Int) = q at *
  generalize p.length = lp at *
  generalize q.length = lq at *
  by_cases he : p = q
  ·have HT' := Lib.hid (HTE.out he)
   go_wp2_with (first | (go_at_call 67; refine HC.out.mono ?_; rintro e w1 hh; obtain ⟨rfl, g1⟩ := EqP.yes he hh; have HG := Lib.hid (HB.out.trans (g1.mono HB.out.size)); clear g1 hh))
   go_roundw
   case measure => simp [intOf]; omega
   case rel => exact ⟨i + 1, by go_num, by omega, HT', HG⟩
  ·have HF := Lib.hid (HNO.out he)
   go_wp2_with (first | (go_at_call 67; refine HC.out.mono ?_; rintro e w1 hh; obtain ⟨rfl, g1⟩ := EqP.no he hh; have HG := Lib.hid (HB.out.trans (g1.mono HB.out.size)); clear g1 hh))
   go_ret
   exact EqP.isF HF.out HG.out
end Go.Proofs.YtfkejflmhidnaaaGreat.PAll
