import Derived.Test.YtfkejflmhidnaaaGreatQPAllx0
import Derived.Lib.Hide
set_option linter.all false
namespace Go.Proofs.YtfkejflmhidnaaaGreat.PAll
open RowKit YtfkejflmhidnaaaGreatW.PrintWords YtfkejflmhidnaaaGreatW.PrintLast YtfkejflmhidnaaaGreatW.PrintMore
attribute [local go_sem] max2_int min2_int max_two min_two max_three min_three max_four min_four
def cmp_isNaN_int.f (a0 : Int) : Option (Bool) := some (a0 != a0)
set_option maxHeartbeats 8000000 in
set_option maxRecDepth 100000 in
theorem cmp_isNaN_int.calls (a0 : Int) (r : Bool) (w : World) (h : cmp_isNaN_int.f a0 = some r) :
  Calls Tryz.prog 123 #[.int .i64 a0] w fun e w' => e = .returned (.bool r) ∧ Drawn0 w w' := by
 have H : (some (a0 != a0)) = some r := h
 clear h
 obtain rfl := Option.some.inj H
 go_enter Tryz.func123, Tryz.ntmps123
 go_wp2
 go_ret
 exact ⟨by first | rfl | (simp; done) | (simp [*]; done), by repeat (first | exact Drawn0.refl _ | apply Drawn0.step)⟩
end Go.Proofs.YtfkejflmhidnaaaGreat.PAll
namespace Go.Proofs.YtfkejflmhidnaaaGreat.PAll
open RowKit YtfkejflmhidnaaaGreatW.PrintWords YtfkejflmhidnaaaGreatW.PrintLast YtfkejflmhidnaaaGreatW.PrintMore
def cmp_Compare_int.f (a0 : Int) (a1 : Int) : Option (Int) := (cmp_isNaN_int.f a0).bind fun t753 => ((cmp_isNaN_int.f a1).bind fun t754 => (if t753 = true then (if t754 = true then (some 0) else (some (-1))) else (if t754 = true then (some 1) else (if a0 < a1 then (some (-1)) else (if a0 > a1 then (some 1) else (some 0))))))
set_option maxRecDepth 100000 in
theorem cmp_Compare_int.calls (a0 : Int) (a1 : Int) (r : Int) (w : World) (h : cmp_Compare_int.f a0 a1 = some r) :
  Calls Tryz.prog 116 #[.int .i64 a0, .int .i64 a1] w fun e w' => e = .returned (.int .i64 r) ∧ Drawn0 w w' := by
 have key : ∀ x, cmp_isNaN_int.f x = some false := fun x => by simp [cmp_isNaN_int.f]
 unfold cmp_Compare_int.f at h
 rw [key, key] at h
 simp only [Option.bind_some, Bool.false_eq_true, if_false] at h
 have HN : Hid (∀ (x : Int) (W : World), Calls Tryz.prog 123 #[.int .i64 x] W fun e w' => e = .returned (.bool false) ∧ Drawn0 W w') := Lib.hid (fun x W => cmp_isNaN_int.calls x false W (key x))
 have HA := Lib.hid (HN.out a0 w)
 clear key
 by_cases h1 : a0 < a1
 ·rw [if_pos h1] at h
  obtain rfl := Option.some.inj h
  have t1 : decide (a0 < a1) = true := decide_eq_true h1
  clear h h1
  go_enter Tryz.func116, Tryz.ntmps116
  go_wp2_with (first | (go_at_call 123; refine HA.out.mono ?_; rintro e w1 ⟨rfl, hd⟩; have HD := Lib.hid hd; have HB := Lib.hid (HN.out a1 w1); clear HA hd) | (go_at_call 123; refine HB.out.mono ?_; rintro e w2 ⟨rfl, hd⟩; have HE := Lib.hid hd; clear HB hd))
  go_ret
  exact ⟨rfl, by obtain ⟨⟨j, rfl⟩⟩ := HE.out; exact HD.out.step j⟩
 ·rw [if_neg h1] at h
  have t1 : decide (a0 < a1) = false := decide_eq_false h1
  by_cases h2 : a0 > a1
  ·rw [if_pos h2] at h
   obtain rfl := Option.some.inj h
   have t2 : decide (a0 > a1) = true := decide_eq_true h2
   have t3 : decide (a1 < a0) = true := decide_eq_true h2
   clear h h1 h2
   go_enter Tryz.func116, Tryz.ntmps116
   go_wp2_with (first | (go_at_call 123; refine HA.out.mono ?_; rintro e w1 ⟨rfl, hd⟩; have HD := Lib.hid hd; have HB := Lib.hid (HN.out a1 w1); clear HA hd) | (go_at_call 123; refine HB.out.mono ?_; rintro e w2 ⟨rfl, hd⟩; have HE := Lib.hid hd; clear HB hd))
   go_ret
   exact ⟨rfl, by obtain ⟨⟨j, rfl⟩⟩ := HE.out; exact HD.out.step j⟩
  ·rw [if_neg h2] at h
   obtain rfl := Option.some.inj h
   have t2 : decide (a0 > a1) = false := decide_eq_false h2
   have t3 : decide (a1 < a0) = false := decide_eq_false h2
   clear h h1 h2
   go_enter Tryz.func116, Tryz.ntmps116
   go_wp2_with (first | (go_at_call 123; refine HA.out.mono ?_; rintro e w1 ⟨rfl, hd⟩; have HD := Lib.hid hd; have HB := Lib.hid (HN.out a1 w1); clear HA hd) | (go_at_call 123; refine HB.out.mono ?_; rintro e w2 ⟨rfl, hd⟩; have HE := Lib.hid hd; clear HB hd))
   go_ret
   exact ⟨rfl, by obtain ⟨⟨j, rfl⟩⟩ := HE.out; exact HD.out.step j⟩
attribute [local go_sem] max2_int min2_int max_two min_two max_three min_three max_four min_four
def cmp_Or_int.l0 : Nat → Int → List Int → Int → Int → Option (Int)
 | 0, _, _, _, _ => none
 | k + 1, x3, x6, x7, x8 => if x8 < x7 then (if 0 ≤ x8 then (if x8 < (x6.length : Int) then (if (rd x6 x8) = x3 then (cmp_Or_int.l0 k x3 x6 x7 (wrap64 (x8 + 1))) else (some (rd x6 x8))) else (none)) else (none)) else (some x3)
def cmp_Or_int.f (k : Nat) (l0 : List Int) : Option (Int) := cmp_Or_int.l0 k 0 l0 (l0.length : Int) 0
set_option maxHeartbeats 8000000 in
set_option maxRecDepth 100000 in
theorem cmp_Or_int.calls (k : Nat) (A0 : Option Addr) (c0 : Nat) (l0 : List Int) (r : Int) (w : World) (hr0 : Kd.C (Kd.int .i64) w A0 l0.length l0) (hc0 : l0.length ≤ c0) (h : cmp_Or_int.f k l0 = some r) :
  Calls Tryz.prog 115 #[.slice A0 l0.length c0] w fun e w' => e = .returned (.int .i64 r) ∧ Drawn0 w w' := by
 have HR0 := Aside0.mk hr0
 have HC0 := Aside0.mk hc0
 clear hr0 hc0
 have H : (cmp_Or_int.l0 k 0 l0 (l0.length : Int) 0) = some r := h
 clear h
 have H' := Aside0.mk H
 clear H
 go_enter Tryz.func115, Tryz.ntmps115
 go_wp2
 go_loopg [8] k (fun kq v8 w' => ∃ (x8_1 : Int), v8 = .int .i64 x8_1 ∧ Aside0 (cmp_Or_int.l0 kq 0 l0 (l0.length : Int) x8_1 = some r) ∧ Aside0 (kq ≤ k) ∧ Drawn0 w w')
 case atStart => exact ⟨(0), (by first | rfl | (simp; done) | (simp [*]; done)), H', ⟨Nat.le_refl _⟩, by repeat (first | exact Drawn0.refl _ | apply Drawn0.step)⟩
 case round =>
  clear H'
  try clear c1
  obtain ⟨x8_1, rfl, HA, HK1, ⟨m1, rfl⟩⟩ := hrel
  cases gk with
  | zero => exact absurd HA.out (by simp [cmp_Or_int.l0])
  | succ k1 =>
   have H := HA.out
   clear HA
   simp only [cmp_Or_int.l0] at H
   by_cases c2 : x8_1 < (l0.length : Int)
   ·rw [if_pos c2] at H
    have c2b0 : decide (x8_1 < (l0.length : Int)) = true := decide_eq_true c2
    clear c2
    by_cases c3 : 0 ≤ x8_1
    ·rw [if_pos c3] at H
     have c3b0 : decide (0 ≤ x8_1) = true := decide_eq_true c3
     clear c3
     by_cases c4 : x8_1 < (l0.length : Int)
     ·rw [if_pos c4] at H
      have c4b0 : decide (x8_1 < (l0.length : Int)) = true := decide_eq_true c4
      clear c4
      by_cases c5 : (rd l0 x8_1) = 0
      ·rw [if_pos c5] at H
       have c5b0 : ((rd l0 x8_1) == 0) = true := beq_iff_eq.mpr c5
       have c5b1 : ((rd l0 x8_1) != 0) = false := bne_eq_false_iff_eq.mpr c5
       clear c5
       have H' := Aside0.mk H
       clear H
       have p752 : 0 ≤ (x8_1 : Int) := of_decide_eq_true (by first | (with_reducible assumption) | assumption)
       have q752 : x8_1 < (l0.length : Int) := of_decide_eq_true (by first | (with_reducible assumption) | assumption)
       obtain ⟨ad752, e752, hx752_0⟩ := Kd.at_int HR0.out x8_1 p752 q752
       cases e752
       replace p752 := eq_true p752
       replace q752 := eq_true q752
       go_wp2
       go_roundg k1
       case measure => have := HK1.out; omega
       case rel => exact ⟨(wrap64 (x8_1 + 1)), (by first | rfl | (simp; done) | (simp [*]; done)), H', ⟨by have := HK1.out; omega⟩, by repeat (first | exact Drawn0.refl _ | apply Drawn0.step)⟩
      ·rw [if_neg c5] at H
       have c5b0 : ((rd l0 x8_1) == 0) = false := beq_eq_false_iff_ne.mpr c5
       have c5b1 : ((rd l0 x8_1) != 0) = true := bne_iff_ne.mpr c5
       obtain rfl := Option.some.inj H
       have p752 : 0 ≤ (x8_1 : Int) := of_decide_eq_true (by first | (with_reducible assumption) | assumption)
       have q752 : x8_1 < (l0.length : Int) := of_decide_eq_true (by first | (with_reducible assumption) | assumption)
       obtain ⟨ad752, e752, hx752_0⟩ := Kd.at_int HR0.out x8_1 p752 q752
       cases e752
       replace p752 := eq_true p752
       replace q752 := eq_true q752
       go_wp2
       go_ret
       exact ⟨by first | rfl | (simp; done) | (simp [*]; done), by repeat (first | exact Drawn0.refl _ | apply Drawn0.step)⟩
     ·rw [if_neg c4] at H
      exact absurd H (by simp)
    ·rw [if_neg c3] at H
     exact absurd H (by simp)
   ·rw [if_neg c2] at H
    have c2b0 : decide (x8_1 < (l0.length : Int)) = false := decide_eq_false c2
    clear c2
    obtain rfl := Option.some.inj H
    go_wp2
    go_ret
    exact ⟨by first | rfl | (simp; done) | (simp [*]; done), by repeat (first | exact Drawn0.refl _ | apply Drawn0.step)⟩
end Go.Proofs.YtfkejflmhidnaaaGreat.PAll
namespace Go.Proofs.YtfkejflmhidnaaaGreat.PAll
open RowKit YtfkejflmhidnaaaGreatW.PrintWords YtfkejflmhidnaaaGreatW.PrintLast YtfkejflmhidnaaaGreatW.PrintMore
def heap_entry_int_before.f (k : Nat) (a0_0 : Int) (a0_1 : Int) (a1_0 : Int) (a1_1 : Int) : Option (Bool) := (cmp_Compare_int.f a0_1 a1_1).bind fun t757 => ((cmp_Compare_int.f a0_0 a1_0).bind fun t758 => ((cmp_Or_int.f k (([t757, t758] : List Int))).bind fun t762 => (some (decide (t762 < 0)))))
theorem hb_drawn {w w' : World} (h : Drawn0 w w') : Below w.heap.size w w' := by
 obtain ⟨⟨j, rfl⟩⟩ := h
 exact pw_below_drewN (Below.refl _ _) j
theorem hb_two (w : World) (X Y : Array Value) (t : TypeId) : ∀ W, (w.alloc (.cells X t)).alloc (.cells Y t) = W →
  Below w.heap.size w W ∧ W.heap[w.heap.size]? = some (.cells X t (0, 0)) ∧ W.heap[w.heap.size + 1]? = some (.cells Y t (0, 0)) := by
 rintro W rfl
 refine ⟨((Below.refl _ w).alloc (Nat.le_refl _) _).alloc (by simp) _, blk_alloc (blk_new w _) _, ?_⟩
 have := blk_new (w.alloc (.cells X t)) (.cells Y t)
 rwa [World.size_alloc] at this
theorem hb_row (W : World) (q : Nat) (x y : Int) (h : W.heap[q]? = some (.cells #[.int .i64 x, .int .i64 y] 3 (0, 0))) : Kd.C (Kd.int .i64) W (some ⟨q, 0, none⟩) [x, y].length [x, y] := by
 refine ⟨rfl, by simp, fun _ => ⟨_, rfl, fun j p hj => ?_⟩⟩
 refine ⟨[.int .i64 p], rfl, rfl, fun i u hu => ?_⟩
 match i, hu with
 | 0, hu =>
  cases hu
  match j, hj with
  | 0, hj => cases hj; exact (blk_cell h 0).trans rfl
  | 1, hj => cases hj; exact (blk_cell h 1).trans rfl
  | j + 2, hj => simp at hj
 | i + 1, hu => simp at hu
set_option maxRecDepth 100000 in
set_option maxHeartbeats 4000000 in
theorem heap_entry_int_before.calls (k : Nat) (a0_0 : Int) (a0_1 : Int) (a1_0 : Int) (a1_1 : Int) (r : Bool) (w : World) (h : heap_entry_int_before.f k a0_0 a0_1 a1_0 a1_1 = some r) :
  Calls Tryz.prog 170 #[.agg #[.int .i64 a0_0, .int .i64 a0_1], .agg #[.int .i64 a1_0, .int .i64 a1_1]] w fun e w' => e = .returned (.bool r) ∧ Below w.heap.size w w' := by
 obtain ⟨t1, h1, h⟩ := Option.bind_eq_some_iff.mp h
 obtain ⟨t2, h2, h⟩ := Option.bind_eq_some_iff.mp h
 obtain ⟨t3, h3, h⟩ := Option.bind_eq_some_iff.mp h
 obtain rfl := Option.some.inj h
 have HC1 : Hid (∀ W, Calls Tryz.prog 116 #[.int .i64 a0_1, .int .i64 a1_1] W fun e w' => e = .returned (.int .i64 t1) ∧ Below W.heap.size W w') := Lib.hid (fun W => (cmp_Compare_int.calls _ _ _ W h1).mono (fun e w' h => ⟨h.1, hb_drawn h.2⟩))
 have HC2 : Hid (∀ W, Calls Tryz.prog 116 #[.int .i64 a0_0, .int .i64 a1_0] W fun e w' => e = .returned (.int .i64 t2) ∧ Below W.heap.size W w') := Lib.hid (fun W => (cmp_Compare_int.calls _ _ _ W h2).mono (fun e w' h => ⟨h.1, hb_drawn h.2⟩))
 have HO : Hid (∀ (W : World) (q : Nat), W.heap[q]? = some (.cells #[.int .i64 t1, .int .i64 t2] 3 (0, 0)) → Calls Tryz.prog 115 #[.slice (some ⟨q, 0, none⟩) 2 2] W fun e w' => e = .returned (.int .i64 t3) ∧ Below W.heap.size W w') := Lib.hid (fun W q hq => (cmp_Or_int.calls k _ 2 [t1, t2] _ W (hb_row W q t1 t2 hq) (by simp) h3).mono (fun e w' h => ⟨h.1, hb_drawn h.2⟩))
 clear h1 h2 h3
 obtain ⟨W, hW⟩ : ∃ W, (w.alloc (.cells #[.int .i64 a0_0, .int .i64 a0_1] 205)).alloc (.cells #[.int .i64 a1_0, .int .i64 a1_1] 205) = W := ⟨_, rfl⟩
 obtain ⟨hB, hba, hbb⟩ := hb_two w _ _ 205 W hW
 have HBB : Hid (∀ V, Below W.heap.size W V → V.cell? ⟨w.heap.size, 0, none⟩ = some (.int .i64 a0_0) ∧ V.cell? ⟨w.heap.size, 1, none⟩ = some (.int .i64 a0_1) ∧ V.cell? ⟨w.heap.size + 1, 0, none⟩ = some (.int .i64 a1_0) ∧ V.cell? ⟨w.heap.size + 1, 1, none⟩ = some (.int .i64 a1_1)) := Lib.hid (fun V g => by
  have ha := (g.block _ (blk_lt hba)).trans hba
  have hb := (g.block _ (blk_lt hbb)).trans hbb
  exact ⟨(blk_cell ha 0).trans rfl, (blk_cell ha 1).trans rfl, (blk_cell hb 0).trans rfl, (blk_cell hb 1).trans rfl⟩)
 have HB := Lib.hid hB
 have HW := Lib.hid hW
 clear hB hba hbb hW
 go_enter Tryz.func170, Tryz.ntmps170
 go_upto_region 1 with fail
 rw [HW.out]
 clear HW
 refine start_ (n := 14) (S := fun w' => w'.cell? ⟨w.heap.size, 0, none⟩ = some (.int .i64 a0_0) ∧ w'.cell? ⟨w.heap.size, 1, none⟩ = some (.int .i64 a0_1) ∧ w'.cell? ⟨w.heap.size + 1, 0, none⟩ = some (.int .i64 a1_0) ∧ w'.cell? ⟨w.heap.size + 1, 1, none⟩ = some (.int .i64 a1_1)) (ds := []) (bA_ 14 0) (by kernel_rfl) rfl rfl ⟨(HBB.out _ (Below.refl W.heap.size W).drew).1, (HBB.out _ (Below.refl W.heap.size W).drew).2.1, (HBB.out _ (Below.refl W.heap.size W).drew).2.2.1, (HBB.out _ (Below.refl W.heap.size W).drew).2.2.2⟩ (fun hHeld => ?_)
 refine p2_ 0 5 (bA_ 14 1) ?_
 refine p2_ 2 7 (bA_ 14 5) ?_
 refine p2_ 5 10 (bA_ 14 37) ?_
 refine p2_ 7 12 (bA_ 14 165) ?_
 refine t2_ 1 6 (bA_ 14 167) hHeld ?_ (hy := by rintro w' ⟨s0, s1, s2, s3⟩; go_simp; with_reducible rfl)
 refine t2_ 3 8 (bA_ 14 175) hHeld ?_ (hy := by rintro w' ⟨s0, s1, s2, s3⟩; go_simp; with_reducible rfl)
 refine t2_ 6 11 (bA_ 14 239) hHeld ?_ (hy := by rintro w' ⟨s0, s1, s2, s3⟩; go_simp; with_reducible rfl)
 refine t2_ 8 13 (bA_ 14 495) hHeld ?_ (hy := by rintro w' ⟨s0, s1, s2, s3⟩; go_simp; with_reducible rfl)
 refine o2_ 4 9 (bA_ 14 511) (fun K hK => ?_)
 refine g2_ Tryz.func116 #[.int .i64 a0_1, .int .i64 a1_1] ?_
 with_reducible refine (HC1.out _).mono ?_
 rintro e w1 ⟨rfl, g⟩
 refine ⟨_, rfl, ?_⟩
 have HG1 := Lib.hid (((Below.refl W.heap.size W).drew).trans (g.mono ((Below.refl W.heap.size W).drew).size))
 clear g
 refine hK.out _ _ ⟨(HBB.out _ HG1.out).1, (HBB.out _ HG1.out).2.1, (HBB.out _ HG1.out).2.2.1, (HBB.out _ HG1.out).2.2.2⟩ (fun hHeld => ?_)
 clear hK K
 refine n2_ 9 ?_
 refine o2_ 9 14 (bA_ 14 1023) (fun K hK => ?_)
 refine g2_ Tryz.func116 #[.int .i64 a0_0, .int .i64 a1_0] ?_
 with_reducible refine (HC2.out _).mono ?_
 rintro e w2 ⟨rfl, g⟩
 refine ⟨_, rfl, ?_⟩
 have HG2 := Lib.hid ((HG1.out).trans (g.mono (HG1.out).size))
 clear g
 refine hK.out _ _ ⟨(HBB.out _ HG2.out).1, (HBB.out _ HG2.out).2.1, (HBB.out _ HG2.out).2.2.1, (HBB.out _ HG2.out).2.2.2⟩ (fun hHeld => ?_)
 clear hK K
 refine n2_ 14 ?_
 refine o2_ 10 15 (bA_ 14 2047) (fun K hK => ?_)
 refine value_ (w1 := ?_) (v := ?_) (by rfl) rfl ?_ ?_
 rotate_left 2
 ·go_simp
  constructor
  ·rfl
  ·rfl
 refine hK.out _ _ ⟨(HBB.out _ (HG2.out.alloc HG2.out.size (.cells #[.int .i64 t1, .int .i64 t2] 3))).1, (HBB.out _ (HG2.out.alloc HG2.out.size (.cells #[.int .i64 t1, .int .i64 t2] 3))).2.1, (HBB.out _ (HG2.out.alloc HG2.out.size (.cells #[.int .i64 t1, .int .i64 t2] 3))).2.2.1, (HBB.out _ (HG2.out.alloc HG2.out.size (.cells #[.int .i64 t1, .int .i64 t2] 3))).2.2.2⟩ (fun hHeld => ?_)
 clear hK K
 refine n2_ 15 ?_
 refine o2_ 11 16 (bA_ 14 4095) (fun K hK => ?_)
 refine g2_ Tryz.func115 #[.slice (some ⟨w2.heap.size, 0, none⟩) 2 2] ?_
 with_reducible refine (HO.out _ _ (blk_new w2 _)).mono ?_
 rintro e w3 ⟨rfl, g⟩
 refine ⟨_, rfl, ?_⟩
 have HG3 := Lib.hid (((HG2.out.alloc HG2.out.size (.cells #[.int .i64 t1, .int .i64 t2] 3))).trans (g.mono ((HG2.out.alloc HG2.out.size (.cells #[.int .i64 t1, .int .i64 t2] 3))).size))
 clear g
 refine hK.out _ _ ⟨(HBB.out _ HG3.out).1, (HBB.out _ HG3.out).2.1, (HBB.out _ HG3.out).2.2.1, (HBB.out _ HG3.out).2.2.2⟩ (fun hHeld => ?_)
 clear hK K
 refine n2_ 16 ?_
 refine p2_ 12 17 (bA_ 14 8191) ?_
 refine p2_ 13 4 (bA_ 14 16383) ?_
 refine done_ (by kernel_rfl) ?_
 go_wp2_with fail
 go_ret
 exact ⟨rfl, HB.out.trans (HG3.out.mono HB.out.size)⟩
end Go.Proofs.YtfkejflmhidnaaaGreat.PAll
