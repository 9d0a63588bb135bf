import Derived.Test.YtfkejflmhidnaaaGreatQPAllx0
import Derived.Test.YtfkejflmhidnaaaGreatQFHeapEntryIntBefore
import Derived.Test.YtfkejflmhidnaaaGreatQHpF
set_option linter.all false
namespace Go.Proofs.YtfkejflmhidnaaaGreat.PAll
open RowKit YtfkejflmhidnaaaGreatW.PrintWords YtfkejflmhidnaaaGreatW.PrintLast YtfkejflmhidnaaaGreatW.PrintMore
attribute [local go_sem] max2_int min2_int max_two min_two max_three min_three max_four min_four
def cmp_Less_int.f (a0 : Int) (a1 : Int) : Option (Bool) := (cmp_isNaN_int.f a0).bind fun t431 => (if t431 = true then ((cmp_isNaN_int.f a1).bind fun t432 => (if t432 = true then (some (decide (a0 < a1))) else (some true))) else (some (decide (a0 < a1))))
set_option maxHeartbeats 8000000 in
set_option maxRecDepth 100000 in
theorem cmp_Less_int.calls (a0 : Int) (a1 : Int) (r : Bool) (w : World) (h : cmp_Less_int.f a0 a1 = some r) :
  Calls Tryz.prog 92 #[.int .i64 a0, .int .i64 a1] w fun e w' => e = .returned (.bool r) ∧ Drawn0 w w' := by
 have H : ((cmp_isNaN_int.f a0).bind fun t431 => (if t431 = true then ((cmp_isNaN_int.f a1).bind fun t432 => (if t432 = true then (some (decide (a0 < a1))) else (some true))) else (some (decide (a0 < a1))))) = some r := h
 clear h
 replace H := Option.bind_eq_some_iff.mp H
 obtain ⟨t431, A30, H⟩ := H
 replace H : (if t431 = true then ((cmp_isNaN_int.f a1).bind fun t432 => (if t432 = true then (some (decide (a0 < a1))) else (some true))) else (some (decide (a0 < a1)))) = some r := H
 have A3 := Aside0.mk A30
 clear A30
 by_cases c4 : t431 = true
 ·subst c4
  have H1 : ((cmp_isNaN_int.f a1).bind fun t432 => (if t432 = true then (some (decide (a0 < a1))) else (some true))) = some r := by rw [if_pos rfl] at H; exact H
  clear H
  have H := H1
  clear H1
  replace H := Option.bind_eq_some_iff.mp H
  obtain ⟨t432, A50, H⟩ := H
  replace H : (if t432 = true then (some (decide (a0 < a1))) else (some true)) = some r := H
  have A5 := Aside0.mk A50
  clear A50
  by_cases c6 : t432 = true
  ·subst c6
   have H1 : (some (decide (a0 < a1))) = some r := by rw [if_pos rfl] at H; exact H
   clear H
   have H := H1
   clear H1
   obtain rfl := Option.some.inj H
   go_enter Tryz.func92, Tryz.ntmps92
   go_wp2_with (first | ((with_reducible refine gate_callee (f := 123) rfl ?_); refine goesL_ (some 6) rfl rfl Tryz.func123 (by kernel_rfl) rfl #[.int .i64 a0] rfl (by (try simp only [List.map_toArray, List.map_cons, List.map_nil]); first | done | rfl | (simp only [List.length_drop, List.length_take]; rfl)) ?_; (with_reducible refine (cmp_isNaN_int.calls a0 true _ A3.out).mono ?_); rintro e w' ⟨rfl, ⟨nd, rfl⟩⟩; refine ⟨_, rfl, ?_⟩) | (go_at_call 123; (with_reducible refine (cmp_isNaN_int.calls a1 true _ A5.out).mono ?_); rintro e w' ⟨rfl, ⟨nd, rfl⟩⟩))
   go_ret
   exact ⟨by first | rfl | (simp; done) | (simp [*]; done), by repeat (first | exact Drawn0.refl _ | apply Drawn0.step)⟩
  ·replace c6 := Bool.eq_false_iff.mpr c6
   subst c6
   have H1 : (some true) = some r := by rw [if_neg (show ¬ (false = true) by decide)] at H; exact H
   clear H
   have H := H1
   clear H1
   obtain rfl := Option.some.inj H
   go_enter Tryz.func92, Tryz.ntmps92
   go_wp2_with (first | ((with_reducible refine gate_callee (f := 123) rfl ?_); refine goesL_ (some 6) rfl rfl Tryz.func123 (by kernel_rfl) rfl #[.int .i64 a0] rfl (by (try simp only [List.map_toArray, List.map_cons, List.map_nil]); first | done | rfl | (simp only [List.length_drop, List.length_take]; rfl)) ?_; (with_reducible refine (cmp_isNaN_int.calls a0 true _ A3.out).mono ?_); rintro e w' ⟨rfl, ⟨nd, rfl⟩⟩; refine ⟨_, rfl, ?_⟩) | (go_at_call 123; (with_reducible refine (cmp_isNaN_int.calls a1 false _ A5.out).mono ?_); rintro e w' ⟨rfl, ⟨nd, rfl⟩⟩))
   go_ret
   exact ⟨by first | rfl | (simp; done) | (simp [*]; done), by repeat (first | exact Drawn0.refl _ | apply Drawn0.step)⟩
 ·replace c4 := Bool.eq_false_iff.mpr c4
  subst c4
  have H1 : (some (decide (a0 < a1))) = some r := by rw [if_neg (show ¬ (false = true) by decide)] at H; exact H
  clear H
  have H := H1
  clear H1
  obtain rfl := Option.some.inj H
  go_enter Tryz.func92, Tryz.ntmps92
  go_wp2_with (first | ((with_reducible refine gate_callee (f := 123) rfl ?_); refine goesL_ (some 6) rfl rfl Tryz.func123 (by kernel_rfl) rfl #[.int .i64 a0] rfl (by (try simp only [List.map_toArray, List.map_cons, List.map_nil]); first | done | rfl | (simp only [List.length_drop, List.length_take]; rfl)) ?_; (with_reducible refine (cmp_isNaN_int.calls a0 false _ A3.out).mono ?_); rintro e w' ⟨rfl, ⟨nd, rfl⟩⟩; refine ⟨_, rfl, ?_⟩))
  go_ret
  exact ⟨by first | rfl | (simp; done) | (simp [*]; done), by repeat (first | exact Drawn0.refl _ | apply Drawn0.step)⟩
end Go.Proofs.YtfkejflmhidnaaaGreat.PAll
namespace Go.Proofs.YtfkejflmhidnaaaGreat.PAll
open RowKit YtfkejflmhidnaaaGreatW.PrintWords YtfkejflmhidnaaaGreatW.PrintLast YtfkejflmhidnaaaGreatW.PrintMore
attribute [local go_sem] max2_int min2_int max_two min_two max_three min_three max_four min_four
def slices_isNaN_int.f (a0 : Int) : Option (Bool) := some (a0 != a0)
set_option maxHeartbeats 8000000 in
set_option maxRecDepth 100000 in
theorem slices_isNaN_int.calls (a0 : Int) (r : Bool) (w : World) (h : slices_isNaN_int.f a0 = some r) :
  Calls Tryz.prog 93 #[.int .i64 a0] w fun e w' => e = .returned (.bool r) ∧ Drawn0 w w' := by
 have H : (some (a0 != a0)) = some r := h
 clear h
 obtain rfl := Option.some.inj H
 go_enter Tryz.func93, Tryz.ntmps93
 go_wp2
 go_ret
 exact ⟨by first | rfl | (simp; done) | (simp [*]; done), by repeat (first | exact Drawn0.refl _ | apply Drawn0.step)⟩
end Go.Proofs.YtfkejflmhidnaaaGreat.PAll
namespace Go.Proofs.YtfkejflmhidnaaaGreat.PAll
open RowKit YtfkejflmhidnaaaGreatW.PrintWords YtfkejflmhidnaaaGreatW.PrintLast YtfkejflmhidnaaaGreatW.PrintMore
attribute [local go_sem] max2_int min2_int max_two min_two max_three min_three max_four min_four
def slices_BinarySearch_int_int.l0 : Nat → List Int → Int → Int → Int → Int → Option (Int × Bool)
 | 0, _, _, _, _, _ => none
 | k + 1, x0, x1, x6, x7, x8 => if x7 < x8 then (if 0 ≤ (wrap64 ((IntKind.u64.wrap (wrap64 (x7 + x8))) / 2)) then (if (wrap64 ((IntKind.u64.wrap (wrap64 (x7 + x8))) / 2)) < (x0.length : Int) then ((cmp_Less_int.f (rd x0 (wrap64 ((IntKind.u64.wrap (wrap64 (x7 + x8))) / 2))) x1).bind fun t764 => (if t764 = true then (slices_BinarySearch_int_int.l0 k x0 x1 x6 (wrap64 ((wrap64 ((IntKind.u64.wrap (wrap64 (x7 + x8))) / 2)) + 1)) x8) else (slices_BinarySearch_int_int.l0 k x0 x1 x6 x7 (wrap64 ((IntKind.u64.wrap (wrap64 (x7 + x8))) / 2))))) else (none)) else (none)) else (if x7 < x6 then (if 0 ≤ x7 then (if x7 < (x0.length : Int) then (if (rd x0 x7) = x1 then (some (x7, true)) else ((slices_isNaN_int.f (rd x0 x7)).bind fun t767 => (if t767 = true then ((slices_isNaN_int.f x1).bind fun t768 => (some (x7, t768))) else (some (x7, false))))) else (none)) else (none)) else (some (x7, false)))
def slices_BinarySearch_int_int.f (k : Nat) (l0 : List Int) (a1 : Int) : Option (Int × Bool) := slices_BinarySearch_int_int.l0 k l0 a1 (l0.length : Int) 0 (l0.length : Int)
set_option maxHeartbeats 8000000 in
set_option maxRecDepth 100000 in
theorem slices_BinarySearch_int_int.calls (k : Nat) (A0 : Option Addr) (c0 : Nat) (l0 : List Int) (a1 : Int) (r1 : Int) (r2 : Bool) (w : World) (hr0 : Kd.C (Kd.int .i64) w A0 l0.length l0) (hc0 : l0.length ≤ c0) (h : slices_BinarySearch_int_int.f k l0 a1 = some (r1, r2)) :
  Calls Tryz.prog 41 #[.slice A0 l0.length c0, .int .i64 a1] w fun e w' => e = .returned (.tuple #[.int .i64 r1, .bool r2]) ∧ Drawn0 w w' := by
 have HR0 := Aside0.mk hr0
 have HC0 := Aside0.mk hc0
 clear hr0 hc0
 have H : (slices_BinarySearch_int_int.l0 k l0 a1 (l0.length : Int) 0 (l0.length : Int)) = some (r1, r2) := h
 clear h
 have H' := Aside0.mk H
 clear H
 go_enter Tryz.func41, Tryz.ntmps41
 go_wp2
 go_loopg [7, 8] k (fun kq v7 v8 w' => ∃ (x7_1 : Int) (x8_1 : Int), v7 = .int .i64 x7_1 ∧ v8 = .int .i64 x8_1 ∧ Aside0 (slices_BinarySearch_int_int.l0 kq l0 a1 (l0.length : Int) x7_1 x8_1 = some (r1, r2)) ∧ Aside0 (kq ≤ k) ∧ Drawn0 w w')
 case atStart => exact ⟨(0), ((l0.length : Int)), (by first | rfl | (simp; done) | (simp [*]; done)), (by first | rfl | (simp; done) | (simp [*]; done)), H', ⟨Nat.le_refl _⟩, by repeat (first | exact Drawn0.refl _ | apply Drawn0.step)⟩
 case round =>
  clear H'
  try clear p2
  obtain ⟨x7_1, x8_1, rfl, rfl, HA, HK1, ⟨m1, rfl⟩⟩ := hrel
  cases gk with
  | zero => exact absurd HA.out (by simp [slices_BinarySearch_int_int.l0])
  | succ k1 =>
   have H := HA.out
   clear HA
   simp only [slices_BinarySearch_int_int.l0] at H
   by_cases c3 : x7_1 < x8_1
   ·rw [if_pos c3] at H
    have c3b0 : decide (x7_1 < x8_1) = true := decide_eq_true c3
    clear c3
    obtain ⟨ji4, hji4⟩ : ∃ j_ : Int, (wrap64 ((IntKind.u64.wrap (wrap64 (x7_1 + x8_1))) / 2)) = j_ := ⟨_, rfl⟩
    replace H : (if 0 ≤ (ji4) then (if (ji4) < (l0.length : Int) then ((cmp_Less_int.f (rd l0 (ji4)) a1).bind fun t764 => (if t764 = true then (slices_BinarySearch_int_int.l0 k1 l0 a1 (l0.length : Int) (wrap64 ((ji4) + 1)) x8_1) else (slices_BinarySearch_int_int.l0 k1 l0 a1 (l0.length : Int) x7_1 ji4))) else (none)) else (none)) = some (r1, r2) := by first | (rw [hji4] at H; exact H) | (simp only [hji4] at H ⊢; exact H)
    have hji4w : (IntKind.i64.wrap ((IntKind.u64.wrap (wrap64 (x7_1 + x8_1))) / 2)) = ji4 := (i64_w _).trans hji4
    by_cases c5 : 0 ≤ (ji4)
    ·rw [if_pos c5] at H
     have c5b0 : decide (0 ≤ (ji4)) = true := decide_eq_true c5
     clear c5
     by_cases c6 : (ji4) < (l0.length : Int)
     ·rw [if_pos c6] at H
      have c6b0 : decide ((ji4) < (l0.length : Int)) = true := decide_eq_true c6
      clear c6
      replace H := Option.bind_eq_some_iff.mp H
      obtain ⟨t764, A70, H⟩ := H
      replace H : (if t764 = true then (slices_BinarySearch_int_int.l0 k1 l0 a1 (l0.length : Int) (wrap64 ((ji4) + 1)) x8_1) else (slices_BinarySearch_int_int.l0 k1 l0 a1 (l0.length : Int) x7_1 ji4)) = some (r1, r2) := H
      have A7 := Aside0.mk A70
      clear A70
      by_cases c8 : t764 = true
      ·subst c8
       have H1 : (slices_BinarySearch_int_int.l0 k1 l0 a1 (l0.length : Int) (wrap64 ((ji4) + 1)) x8_1) = some (r1, r2) := by rw [if_pos rfl] at H; exact H
       clear H
       have H := H1
       clear H1
       have H' := Aside0.mk H
       clear H
       have p763 : 0 ≤ ((ji4) : Int) := of_decide_eq_true (by first | (with_reducible assumption) | assumption)
       have q763 : (ji4) < (l0.length : Int) := of_decide_eq_true (by first | (with_reducible assumption) | assumption)
       obtain ⟨ad763, e763, hx763_0⟩ := Kd.at_int HR0.out (ji4) p763 q763
       cases e763
       replace p763 := eq_true p763
       replace q763 := eq_true q763
       go_wp2_with (first | ((with_reducible refine gate_callee (f := 92) rfl ?_); refine goesL_ (some 27) rfl rfl Tryz.func92 (by kernel_rfl) rfl #[.int .i64 (rd l0 (ji4)), .int .i64 a1] rfl (by (try simp only [List.map_toArray, List.map_cons, List.map_nil]); first | done | (simp only [hji4]; rfl) | rfl | (simp only [List.length_drop, List.length_take]; rfl)) ?_; (with_reducible refine (cmp_Less_int.calls (rd l0 (ji4)) a1 true _ A7.out).mono ?_); rintro e w' ⟨rfl, ⟨nd, rfl⟩⟩; refine ⟨_, rfl, ?_⟩))
       go_roundg k1
       case measure => have := HK1.out; omega
       case rel => exact ⟨(wrap64 ((ji4) + 1)), (x8_1), (by first | rfl | (simp; done) | (simp only [← hji4] <;> (first | rfl | simp)) | (simp [*]; done)), (by first | rfl | (simp; done) | (simp [*]; done)), H', ⟨by have := HK1.out; omega⟩, by repeat (first | exact Drawn0.refl _ | apply Drawn0.step)⟩
      ·replace c8 := Bool.eq_false_iff.mpr c8
       subst c8
       have H1 : (slices_BinarySearch_int_int.l0 k1 l0 a1 (l0.length : Int) x7_1 ji4) = some (r1, r2) := by rw [if_neg (show ¬ (false = true) by decide)] at H; exact H
       clear H
       have H := H1
       clear H1
       have H' := Aside0.mk H
       clear H
       have p763 : 0 ≤ ((ji4) : Int) := of_decide_eq_true (by first | (with_reducible assumption) | assumption)
       have q763 : (ji4) < (l0.length : Int) := of_decide_eq_true (by first | (with_reducible assumption) | assumption)
       obtain ⟨ad763, e763, hx763_0⟩ := Kd.at_int HR0.out (ji4) p763 q763
       cases e763
       replace p763 := eq_true p763
       replace q763 := eq_true q763
       go_wp2_with (first | ((with_reducible refine gate_callee (f := 92) rfl ?_); refine goesL_ (some 27) rfl rfl Tryz.func92 (by kernel_rfl) rfl #[.int .i64 (rd l0 (ji4)), .int .i64 a1] rfl (by (try simp only [List.map_toArray, List.map_cons, List.map_nil]); first | done | (simp only [hji4]; rfl) | rfl | (simp only [List.length_drop, List.length_take]; rfl)) ?_; (with_reducible refine (cmp_Less_int.calls (rd l0 (ji4)) a1 false _ A7.out).mono ?_); rintro e w' ⟨rfl, ⟨nd, rfl⟩⟩; refine ⟨_, rfl, ?_⟩))
       go_roundg k1
       case measure => have := HK1.out; omega
       case rel => exact ⟨(x7_1), (ji4), (by first | rfl | (simp; done) | (simp [*]; done)), (by first | rfl | (simp; done) | (simp only [← hji4] <;> (first | rfl | simp)) | (simp [*]; done)), H', ⟨by have := HK1.out; omega⟩, by repeat (first | exact Drawn0.refl _ | apply Drawn0.step)⟩
     ·rw [if_neg c6] at H
      exact absurd H (by simp)
    ·rw [if_neg c5] at H
     exact absurd H (by simp)
   ·rw [if_neg c3] at H
    have c3b0 : decide (x7_1 < x8_1) = false := decide_eq_false c3
    clear c3
    by_cases c9 : x7_1 < (l0.length : Int)
    ·rw [if_pos c9] at H
     have c9b0 : decide (x7_1 < (l0.length : Int)) = true := decide_eq_true c9
     clear c9
     by_cases c10 : 0 ≤ x7_1
     ·rw [if_pos c10] at H
      have c10b0 : decide (0 ≤ x7_1) = true := decide_eq_true c10
      clear c10
      by_cases c11 : x7_1 < (l0.length : Int)
      ·rw [if_pos c11] at H
       have c11b0 : decide (x7_1 < (l0.length : Int)) = true := decide_eq_true c11
       clear c11
       by_cases c12 : (rd l0 x7_1) = a1
       ·rw [if_pos c12] at H
        have c12b0 : ((rd l0 x7_1) == a1) = true := beq_iff_eq.mpr c12
        have c12b1 : ((rd l0 x7_1) != a1) = false := bne_eq_false_iff_eq.mpr c12
        clear c12
        simp only [Option.some.injEq, Prod.mk.injEq] at H
        obtain ⟨rfl, rfl⟩ := H
        have p765 : 0 ≤ (x7_1 : Int) := of_decide_eq_true (by first | (with_reducible assumption) | assumption)
        have q765 : x7_1 < (l0.length : Int) := of_decide_eq_true (by first | (with_reducible assumption) | assumption)
        obtain ⟨ad765, e765, hx765_0⟩ := Kd.at_int HR0.out x7_1 p765 q765
        cases e765
        replace p765 := eq_true p765
        replace q765 := eq_true q765
        go_wp2
        go_ret2
        exact ⟨by first | rfl | (simp; done) | (simp [*]; done), by repeat (first | exact Drawn0.refl _ | apply Drawn0.step)⟩
       ·rw [if_neg c12] at H
        have c12b0 : ((rd l0 x7_1) == a1) = false := beq_eq_false_iff_ne.mpr c12
        have c12b1 : ((rd l0 x7_1) != a1) = true := bne_iff_ne.mpr c12
        replace H := Option.bind_eq_some_iff.mp H
        obtain ⟨t767, A130, H⟩ := H
        replace H : (if t767 = true then ((slices_isNaN_int.f a1).bind fun t768 => (some (x7_1, t768))) else (some (x7_1, false))) = some (r1, r2) := H
        have A13 := Aside0.mk A130
        clear A130
        by_cases c14 : t767 = true
        ·subst c14
         have H1 : ((slices_isNaN_int.f a1).bind fun t768 => (some (x7_1, t768))) = some (r1, r2) := by rw [if_pos rfl] at H; exact H
         clear H
         have H := H1
         clear H1
         replace H := Option.bind_eq_some_iff.mp H
         obtain ⟨t768, A150, H⟩ := H
         replace H : (some (x7_1, t768)) = some (r1, r2) := H
         have A15 := Aside0.mk A150
         clear A150
         simp only [Option.some.injEq, Prod.mk.injEq] at H
         obtain ⟨rfl, rfl⟩ := H
         have p765 : 0 ≤ (x7_1 : Int) := of_decide_eq_true (by first | (with_reducible assumption) | assumption)
         have q765 : x7_1 < (l0.length : Int) := of_decide_eq_true (by first | (with_reducible assumption) | assumption)
         obtain ⟨ad765, e765, hx765_0⟩ := Kd.at_int HR0.out x7_1 p765 q765
         cases e765
         replace p765 := eq_true p765
         replace q765 := eq_true q765
         have p766 : 0 ≤ (x7_1 : Int) := of_decide_eq_true (by first | (with_reducible assumption) | assumption)
         have q766 : x7_1 < (l0.length : Int) := of_decide_eq_true (by first | (with_reducible assumption) | assumption)
         obtain ⟨ad766, e766, hx766_0⟩ := Kd.at_int HR0.out x7_1 p766 q766
         obtain rfl : ad765 = ad766 := (by injection e766)
         replace p766 := eq_true p766
         replace q766 := eq_true q766
         go_wp2_with (first | (go_at_call 93; (with_reducible refine (slices_isNaN_int.calls (rd l0 x7_1) true _ A13.out).mono ?_); rintro e w' ⟨rfl, ⟨nd, rfl⟩⟩) | (go_at_call 93; (with_reducible refine (slices_isNaN_int.calls a1 t768 _ A15.out).mono ?_); rintro e w' ⟨rfl, ⟨nd, rfl⟩⟩))
         go_ret2
         exact ⟨by first | rfl | (simp; done) | (simp [*]; done), by repeat (first | exact Drawn0.refl _ | apply Drawn0.step)⟩
        ·replace c14 := Bool.eq_false_iff.mpr c14
         subst c14
         have H1 : (some (x7_1, false)) = some (r1, r2) := by rw [if_neg (show ¬ (false = true) by decide)] at H; exact H
         clear H
         have H := H1
         clear H1
         simp only [Option.some.injEq, Prod.mk.injEq] at H
         obtain ⟨rfl, rfl⟩ := H
         have p765 : 0 ≤ (x7_1 : Int) := of_decide_eq_true (by first | (with_reducible assumption) | assumption)
         have q765 : x7_1 < (l0.length : Int) := of_decide_eq_true (by first | (with_reducible assumption) | assumption)
         obtain ⟨ad765, e765, hx765_0⟩ := Kd.at_int HR0.out x7_1 p765 q765
         cases e765
         replace p765 := eq_true p765
         replace q765 := eq_true q765
         have p766 : 0 ≤ (x7_1 : Int) := of_decide_eq_true (by first | (with_reducible assumption) | assumption)
         have q766 : x7_1 < (l0.length : Int) := of_decide_eq_true (by first | (with_reducible assumption) | assumption)
         obtain ⟨ad766, e766, hx766_0⟩ := Kd.at_int HR0.out x7_1 p766 q766
         obtain rfl : ad765 = ad766 := (by injection e766)
         replace p766 := eq_true p766
         replace q766 := eq_true q766
         go_wp2_with (first | (go_at_call 93; (with_reducible refine (slices_isNaN_int.calls (rd l0 x7_1) false _ A13.out).mono ?_); rintro e w' ⟨rfl, ⟨nd, rfl⟩⟩))
         go_ret2
         exact ⟨by first | rfl | (simp; done) | (simp [*]; done), by repeat (first | exact Drawn0.refl _ | apply Drawn0.step)⟩
      ·rw [if_neg c11] at H
       exact absurd H (by simp)
     ·rw [if_neg c10] at H
      exact absurd H (by simp)
    ·rw [if_neg c9] at H
     have c9b0 : decide (x7_1 < (l0.length : Int)) = false := decide_eq_false c9
     clear c9
     simp only [Option.some.injEq, Prod.mk.injEq] at H
     obtain ⟨rfl, rfl⟩ := H
     go_wp2
     go_ret2
     exact ⟨by first | rfl | (simp; done) | (simp [*]; done), by repeat (first | exact Drawn0.refl _ | apply Drawn0.step)⟩
end Go.Proofs.YtfkejflmhidnaaaGreat.PAll
namespace Go.Proofs.YtfkejflmhidnaaaGreat.PAll
open RowKit YtfkejflmhidnaaaGreatW.PrintWords YtfkejflmhidnaaaGreatW.PrintLast YtfkejflmhidnaaaGreatW.PrintMore
open Hp hiding Good
theorem half_wrap {i j : Nat} (h : i + j ≤ 9000000) : wrap64 (IntKind.u64.wrap (wrap64 ((i : Int) + (j : Int))) / 2) = ((i + j) / 2 : Nat) := by
 have e1 : wrap64 ((i : Int) + (j : Int)) = ((i + j : Nat) : Int) := by unfold wrap64; omega
 have e2 : IntKind.u64.wrap ((i + j : Nat) : Int) = ((i + j : Nat) : Int) := by rw [IntKind.wrap_u64]; omega
 rw [e1, e2]
 unfold wrap64; omega
theorem bs_law (l : List Int) (t : Int) (hs : l.Pairwise (fun a b => a < b)) (hl : l.length ≤ 1000000) : ∀ (k i j : Nat), i ≤ j → j ≤ l.length → j - i < k → (∀ p : Nat, p < i → rd l (p : Int) < t) → (∀ p : Nat, j ≤ p → p < l.length → t ≤ rd l (p : Int)) →
  ∃ r, slices_BinarySearch_int_int.l0 k l t (l.length : Int) (i : Int) (j : Int) = some (r, decide (t ∈ l))
 | 0, i, j, _, _, h, _, _ => by omega
 | k + 1, i, j, hij, hj, hk, hlo, hhi => by
  have hrd : ∀ p : Nat, ∀ h : p < l.length, rd l (p : Int) = l[p] := fun p h => by simp [rd, List.getD, h]
  have hmono : ∀ p q : Nat, p < q → q < l.length → rd l (p : Int) < rd l (q : Int) := fun p q hpq hq => by
   rw [hrd p (by omega), hrd q hq]
   exact List.pairwise_iff_getElem.1 hs p q (by omega) hq hpq
  unfold slices_BinarySearch_int_int.l0
  by_cases hlt : i < j
  ·rw [if_pos (by omega), half_wrap (by omega), if_pos (by omega), if_pos (by omega)]
   have hh : (i + j) / 2 < j ∧ i ≤ (i + j) / 2 := by omega
   generalize (i + j) / 2 = m at *
   have hc : cmp_Less_int.f (rd l (m : Int)) t = some (decide (rd l (m : Int) < t)) := by simp [cmp_Less_int.f, cmp_isNaN_int.f]
   rw [hc, Option.bind_some]
   by_cases hm : rd l (m : Int) < t
   ·rw [if_pos (by simpa using hm)]
    have hw : wrap64 ((m : Int) + 1) = ((m + 1 : Nat) : Int) := by unfold wrap64; omega
    rw [hw]
    refine bs_law l t hs hl k (m + 1) j (by omega) hj (by omega) (fun p hp => ?_) hhi
    rcases Nat.lt_or_ge p m with h | h
    ·have := hmono p m h (by omega); omega
    ·have : p = m := by omega
     rw [this]; exact hm
   ·rw [if_neg (by simpa using hm)]
    refine bs_law l t hs hl k i m (by omega) (by omega) (by omega) hlo (fun p hp hpl => ?_)
    rcases Nat.lt_or_ge m p with h | h
    ·have := hmono m p h hpl; omega
    ·have : p = m := by omega
     rw [this]; omega
  ·have hij2 : i = j := by omega
   subst hij2
   rw [if_neg (by omega)]
   have hmem : t ∈ l ↔ i < l.length ∧ rd l (i : Int) = t := by
    constructor
    ·intro h
     obtain ⟨p, hp, e⟩ := List.getElem_of_mem h
     rw [← hrd p hp] at e
     rcases Nat.lt_trichotomy p i with h | h | h
     ·have := hlo p h; omega
     ·subst h; exact ⟨hp, e⟩
     ·have h1 := hhi i (Nat.le_refl _) (by omega)
      have h2 := hmono i p h hp
      omega
    ·rintro ⟨h, e⟩
     rw [hrd i h] at e
     rw [← e]; exact List.getElem_mem _
   by_cases hn : i < l.length
   ·rw [if_pos (by omega), if_pos (by omega), if_pos (by omega)]
    by_cases he : rd l (i : Int) = t
    ·rw [if_pos he]
     exact ⟨_, by rw [show decide (t ∈ l) = true from by simp [hmem, hn, he]]⟩
    ·rw [if_neg he]
     refine ⟨(i : Int), ?_⟩
     rw [show decide (t ∈ l) = false from by simp [hmem, he]]
     simp [slices_isNaN_int.f]
   ·rw [if_neg (by omega)]
    exact ⟨_, by rw [show decide (t ∈ l) = false from by simp [hmem, hn]]⟩
theorem bsearch_walk (w : World) (A : Option Addr) (c : Nat) (l : List Int) (t : Int) (hC : Kd.C (Kd.int .i64) w A l.length l) (hc : l.length ≤ c) (hs : l.Pairwise (fun a b => a < b)) (hl : l.length ≤ 1000000) :
  Calls Tryz.prog 41 #[.slice A l.length c, .int .i64 t] w fun r w' => ∃ i, r = .returned (.tuple #[.int .i64 i, .bool (decide (t ∈ l))]) ∧ ∃ j, w' = w.drewN j := by
 obtain ⟨r, hr⟩ := bs_law l t hs hl (l.length + 1) 0 l.length (by omega) (by omega) (by omega) (fun p h => by omega) (fun p h1 h2 => by omega)
 refine (slices_BinarySearch_int_int.calls (l.length + 1) A c l t r (decide (t ∈ l)) w hC hc hr).mono ?_
 rintro e w' ⟨rfl, hd⟩
 obtain ⟨⟨j, rfl⟩⟩ := hd
 exact ⟨r, rfl, j, rfl⟩
theorem local1_walk (w : World) (bb : Nat) (A : Option Addr) (c : Nat) (l : List Int) (t : Int) (hb : w.cell? ⟨bb, 0, none⟩ = some (.slice A l.length c)) (hC : Kd.C (Kd.int .i64) w A l.length l) (hc : l.length ≤ c) (hs : l.Pairwise (fun a b => a < b)) (hl : l.length ≤ 1000000) :
  Calls Tryz.prog 40 #[.int .i64 t, .pointer (some ⟨bb, 0, none⟩)] w fun r w' => r = .returned (.bool (decide (t ∈ l))) ∧ ∃ j, w' = w.drewN j := by
 have HS := Lib.hid (bsearch_walk w A c l t hC hc hs hl)
 clear hC hc hs hl
 go_enter Tryz.func40, Tryz.ntmps40
 go_wp2_with (first | (go_at_call 41; refine HS.out.mono ?_; rintro e w1 ⟨i, rfl, j, rfl⟩))
 all_goals go_ret
 all_goals exact ⟨rfl, _, rfl⟩
def localP (a b : List Int) : Bool := a.any fun x => decide (x ∈ b)
theorem localP_take (a b : List Int) (i : Nat) (h : i < a.length) : localP (a.take (i + 1)) b = (localP (a.take i) b || decide (rd a (i : Int) ∈ b)) := by
 unfold localP
 rw [List.take_succ_eq_append_getElem h, List.any_append]
 simp [rd, List.getD, h]
set_option maxHeartbeats 1000000 in
theorem index_walk (w : World) (bb : Nat) (Aa Ab : Option Addr) (ca cb : Nat) (a b : List Int) (hb : w.cell? ⟨bb, 0, none⟩ = some (.slice Ab b.length cb)) (hCa : Kd.C (Kd.int .i64) w Aa a.length a) (hca : a.length ≤ ca) (hCb : Kd.C (Kd.int .i64) w Ab b.length b) (hcb : b.length ≤ cb) (hs : b.Pairwise (fun a b => a < b)) (hl : b.length ≤ 1000000) (hla : a.length ≤ 1000000) :
  Calls Tryz.prog 91 #[.slice Aa a.length ca, .func (.func 40) #[] #[.pointer (some ⟨bb, 0, none⟩)]] w fun r w' => ∃ i : Int, r = .returned (.int .i64 i) ∧ decide (i ≥ 0) = localP a b ∧ ∃ j, w' = w.drewN j := by
 obtain ⟨len, hlen⟩ : ∃ len, a.length = len := ⟨_, rfl⟩
 have HLEN := Lib.hid hlen
 have HC : Hid (∀ j t, Calls Tryz.prog 40 #[.int .i64 t, .pointer (some ⟨bb, 0, none⟩)] (w.drewN j) fun r w' => r = .returned (.bool (decide (t ∈ b))) ∧ ∃ j', w' = w.drewN j') := Lib.hid (fun j t =>
  (local1_walk (w.drewN j) bb Ab cb b t hb (Kd.C_drewN hCb j) hcb hs hl).mono (fun r w' hh => ⟨hh.1, by obtain ⟨j', rfl⟩ := hh.2; exact ⟨j + j', by simp⟩⟩))
 have HA := Lib.hid hCa
 rw [hlen] at hca hla ⊢
 clear hb hCa hCb hcb hs hl hlen
 have HW : Hid (∃ j, w = w.drewN j) := Lib.hid ⟨0, rfl⟩
 go_enter Tryz.func91, Tryz.ntmps91
 go_wp2_with fail
 go_loopw [8] (fun v8 wr => ∃ i j : Nat, v8 = .int .i64 i ∧ i ≤ len ∧ wr = w.drewN j ∧ Hid (localP (a.take i) b = false)) (fun v8 _ => len - (intOf v8).toNat)
 case atStart => exact ⟨0, 0, rfl, by omega, rfl, Lib.hid rfl⟩
 case round =>
  obtain ⟨i, j, rfl, hi, rfl, HF⟩ := hrel
  by_cases hlt : i < len
  ·obtain ⟨ad, rfl, hc⟩ := Kd.at_int HA.out (i : Int) (by omega) (by have := HLEN.out; omega)
   have hc' : (w.drewN j).cell? (ad.add i) = some (.int .i64 (rd a i)) := hc
   have hT := localP_take a b i (by have := HLEN.out; omega)
   rw [HF.out, Bool.false_or] at hT
   have HC' := Lib.hid (HC.out j (rd a i))
   have hi0 : (0 : Int) ≤ (i : Int) := Int.natCast_nonneg _
   have hi1 : (i : Int) < (len : Int) := by omega
   clear hc
   generalize decide (rd a i ∈ b) = B at *
   have HT := Lib.hid hT
   clear hT
   cases B with
   | true =>
    have HAL : Hid (localP a b = true) := Lib.hid (by
     have h1 := HT.out
     unfold localP at h1 ⊢
     rw [List.any_eq_true] at h1 ⊢
     obtain ⟨x, hx, hp⟩ := h1
     exact ⟨x, List.mem_of_mem_take hx, hp⟩)
    go_wp2_with (first | (go_at_call 40; refine HC'.out.mono ?_; rintro e w1 ⟨rfl, j1, rfl⟩))
    (try rw [Exit.noGoto_ret])
    go_ret
    exact ⟨_, rfl, by rw [HAL.out]; simp, _, rfl⟩
   | false =>
    go_wp2_with (first | (go_at_call 40; refine HC'.out.mono ?_; rintro e w1 ⟨rfl, j1, rfl⟩))
    go_roundw
    case measure => simp [intOf]; omega
    case rel => exact ⟨i + 1, j1, by go_num, by omega, rfl, Lib.hid HT.out⟩
  ·have HAL : Hid (localP a b = false) := Lib.hid (by have := HF.out; rwa [List.take_of_length_le (by have := HLEN.out; omega)] at this)
   have hil : len ≤ i := by omega
   go_wp2_with fail
   go_ret
   exact ⟨_, rfl, by rw [HAL.out]; simp, _, rfl⟩
theorem contains_walk (w : World) (bb : Nat) (Aa Ab : Option Addr) (ca cb : Nat) (a b : List Int) (hb : w.cell? ⟨bb, 0, none⟩ = some (.slice Ab b.length cb)) (hCa : Kd.C (Kd.int .i64) w Aa a.length a) (hca : a.length ≤ ca) (hCb : Kd.C (Kd.int .i64) w Ab b.length b) (hcb : b.length ≤ cb) (hs : b.Pairwise (fun a b => a < b)) (hl : b.length ≤ 1000000) (hla : a.length ≤ 1000000) :
  Calls Tryz.prog 39 #[.slice Aa a.length ca, .func (.func 40) #[] #[.pointer (some ⟨bb, 0, none⟩)]] w fun r w' => r = .returned (.bool (localP a b)) ∧ ∃ j, w' = w.drewN j := by
 have HI := Lib.hid (index_walk w bb Aa Ab ca cb a b hb hCa hca hCb hcb hs hl hla)
 clear hb hCa hca hCb hcb hs hl hla
 generalize a.length = la at *
 go_enter Tryz.func39, Tryz.ntmps39
 go_wp2_with fail
 refine HI.out.mono ?_
 rintro e w1 ⟨i, rfl, hi, j, rfl⟩
 have HE := Lib.hid hi
 clear hi
 go_wp2_with fail
 go_ret
 exact ⟨by rw [← HE.out]; rfl, _, rfl⟩
theorem local_walk (w : World) (Aa Ab : Option Addr) (ca cb : Nat) (a b : List Int) (hCa : Kd.C (Kd.int .i64) w Aa a.length a) (hca : a.length ≤ ca) (hCb : Kd.C (Kd.int .i64) w Ab b.length b) (hcb : b.length ≤ cb) (hs : b.Pairwise (fun a b => a < b)) (hl : b.length ≤ 1000000) (hla : a.length ≤ 1000000) :
  Calls Tryz.prog 17 #[.slice Aa a.length ca, .slice Ab b.length cb] w fun r w' => r = .returned (.bool (localP a b)) ∧ Below w.heap.size w w' := by
 have hcell := (blk_cell (blk_new w (.cells #[.slice Ab b.length cb] 28)) 0).trans rfl
 have HI := Lib.hid (contains_walk (w.alloc (.cells #[.slice Ab b.length cb] 28)) w.heap.size Aa Ab ca cb a b hcell (Kd.C_alloc hCa _) hca (Kd.C_alloc hCb _) hcb hs hl hla)
 clear hCa hca hCb hcb hs hl hla hcell
 generalize a.length = la at *
 generalize b.length = lb at *
 generalize localP a b = B at *
 go_enter Tryz.func17, Tryz.ntmps17
 go_wp2_with fail
 refine HI.out.mono ?_
 rintro e w1 ⟨rfl, j, rfl⟩
 go_wp2_with fail
 go_ret
 exact ⟨rfl, pw_below_drewN ((Below.refl _ _).alloc (Nat.le_refl _) _) _⟩
end Go.Proofs.YtfkejflmhidnaaaGreat.PAll
