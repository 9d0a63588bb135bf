-- Out of a doctored print of this seat's translation, by a program (wip/gr/run.sh, doctor.py, post.py). Lean checks it.
import Derived.Test.YtegikndkokemjaaDoorPAllx0
import Derived.Test.YtegikndkokemjaaDoorExtN
import Derived.Test.YtegikndkokemjaaDoorPAllx5
import Derived.Test.YtegikndkokemjaaDoorPAllx9
namespace Go.Proofs.YtegikndkokemjaaDoor.PAll
open Go.RowKit Go.Proofs.YtegikndkokemjaaDoorW.PrintWords Go.Proofs.YtegikndkokemjaaDoorW.PrintLast Go.Proofs.YtegikndkokemjaaDoorW.PrintMore
attribute [local go_sem] max2_int min2_int max_two min_two max_three min_three max_four min_four   -- for this text's walks alone
set_option linter.unusedVariables false
set_option linter.unusedSimpArgs false

/-! ### postroadlaw05_GrNumbers: function 5 -/
mutual
def postroadlaw05_GrNumbers.j0 : Nat → Int → ByteArray → Bool → Option (Bool)
  | 0, _, _, _ => none
  | k + 1, x2, x7, x60 => if x60 = true then (some false) else (if x2 ≥ 48 then (postroadlaw05_GrNumbers.j1 k x2 x7 (decide (x2 ≤ 57))) else (postroadlaw05_GrNumbers.j1 k x2 x7 false))
def postroadlaw05_GrNumbers.j1 : Nat → Int → ByteArray → Bool → Option (Bool)
  | 0, _, _, _ => none
  | k + 1, x2, x7, x66 => if x66 = true then ((postroadlaw05_known.f k).bind fun t225 => (some t225)) else ((some (([x2] : List Int) : List Int)).bind fun y226 => (if x7.size + (strOfNums y226).size ≤ 9223372036854775807 then ((gr_Number.f (x7 ++ (strOfNums y226)) 4294967295).bind fun bt229 => (if bt229.2 = true then (some false) else ((postroadlaw05_known.f k).bind fun t231 => (some t231)))) else (none)))
end
def postroadlaw05_GrNumbers.f (k : Nat) (a0 : Int) (a1 : Int) (a2 : Int) : Option (Bool) := (postroadref05_Digits.f k (wrap64 (a0))).bind fun t220 => ((gr_Number.f t220 (wrap64 (a1))).bind fun bt221 => (if 1 + t220.size ≤ 9223372036854775807 then ((gr_Number.f ((⟨#[48]⟩ : ByteArray) ++ t220) (wrap64 (a1))).bind fun bt223 => (if bt223.2 = true then (postroadlaw05_GrNumbers.j0 k a2 t220 true) else (if bt223.1 = 0 then (if (bt221.2 != (decide (a0 ≤ a1))) = true then (postroadlaw05_GrNumbers.j0 k a2 t220 true) else (if bt221.2 = true then (if bt221.1 = (wrap64 (a0)) then (postroadlaw05_GrNumbers.j0 k a2 t220 false) else (postroadlaw05_GrNumbers.j0 k a2 t220 true)) else (postroadlaw05_GrNumbers.j0 k a2 t220 (bt221.1 != 0)))) else (postroadlaw05_GrNumbers.j0 k a2 t220 true)))) else (none)))
theorem postroadlaw05_GrNumbers.mono_l : ∀ k, (∀ y0 y1 y2, LeO (postroadlaw05_GrNumbers.j0 k y0 y1 y2) (postroadlaw05_GrNumbers.j0 (k + 1) y0 y1 y2)) ∧ (∀ y0 y1 y2, LeO (postroadlaw05_GrNumbers.j1 k y0 y1 y2) (postroadlaw05_GrNumbers.j1 (k + 1) y0 y1 y2))
  | 0 => ⟨fun _ _ _ r h => by simp [postroadlaw05_GrNumbers.j0] at h, fun _ _ _ r h => by simp [postroadlaw05_GrNumbers.j1] at h⟩
  | k + 1 => by
    obtain ⟨ih0, ih1⟩ := postroadlaw05_GrNumbers.mono_l k
    refine ⟨?_, ?_⟩
    · intro y0 y1 y2
      unfold postroadlaw05_GrNumbers.j0
      repeat' first
      | (with_reducible exact ih0 _ _ _)
      | (with_reducible exact ih1 _ _ _)
      | (with_reducible exact postroadlaw05_known.mono _)
      | (with_reducible exact postroadref05_Digits.mono _ _)
      | (with_reducible exact LeO.refl _)
      | (with_reducible exact LeO.none _)
      | (with_reducible refine LeO.ite ?_ ?_)
      | (with_reducible refine LeO.bind ?_ (fun _ => ?_))
      | exact ih0 _ _ _
      | exact ih1 _ _ _
      | exact postroadlaw05_known.mono _
      | exact postroadref05_Digits.mono _ _
      | exact LeO.none _
      | refine LeO.ite ?_ ?_
      | refine LeO.bind ?_ (fun _ => ?_)
    · intro y0 y1 y2
      unfold postroadlaw05_GrNumbers.j1
      repeat' first
      | (with_reducible exact ih0 _ _ _)
      | (with_reducible exact ih1 _ _ _)
      | (with_reducible exact postroadlaw05_known.mono _)
      | (with_reducible exact postroadref05_Digits.mono _ _)
      | (with_reducible exact LeO.refl _)
      | (with_reducible exact LeO.none _)
      | (with_reducible refine LeO.ite ?_ ?_)
      | (with_reducible refine LeO.bind ?_ (fun _ => ?_))
      | exact ih0 _ _ _
      | exact ih1 _ _ _
      | exact postroadlaw05_known.mono _
      | exact postroadref05_Digits.mono _ _
      | exact LeO.none _
      | refine LeO.ite ?_ ?_
      | refine LeO.bind ?_ (fun _ => ?_)
theorem postroadlaw05_GrNumbers.mono : ∀ a0 a1 a2 k, LeO (postroadlaw05_GrNumbers.f k a0 a1 a2) (postroadlaw05_GrNumbers.f (k + 1) a0 a1 a2) := by
  intro a0 a1 a2 k
  obtain ⟨ih0, ih1⟩ := postroadlaw05_GrNumbers.mono_l k
  unfold postroadlaw05_GrNumbers.f
  repeat' first
      | (with_reducible exact ih0 _ _ _)
      | (with_reducible exact ih1 _ _ _)
      | (with_reducible exact postroadlaw05_known.mono _)
      | (with_reducible exact postroadref05_Digits.mono _ _)
      | (with_reducible exact LeO.refl _)
      | (with_reducible exact LeO.none _)
      | (with_reducible refine LeO.ite ?_ ?_)
      | (with_reducible refine LeO.bind ?_ (fun _ => ?_))
      | exact ih0 _ _ _
      | exact ih1 _ _ _
      | exact postroadlaw05_known.mono _
      | exact postroadref05_Digits.mono _ _
      | exact LeO.none _
      | refine LeO.ite ?_ ?_
      | refine LeO.bind ?_ (fun _ => ?_)
set_option maxHeartbeats 8000000 in
set_option maxRecDepth 100000 in
theorem postroadlaw05_GrNumbers.calls (k : Nat) (a0 : Int) (a1 : Int) (a2 : Int) (r : Bool) (w : World) (h : postroadlaw05_GrNumbers.f k a0 a1 a2 = some r) :
    Calls Tryd.prog 5 #[.int .u32 a0, .int .u32 a1, .int .u8 a2] w fun e w' => e = .returned (.bool r) ∧ Below w.heap.size w w' := by
  have HB := Aside0.mk (Below.refl w.heap.size w)
  have H : ((postroadref05_Digits.f k (wrap64 (a0))).bind fun t220 => ((gr_Number.f t220 (wrap64 (a1))).bind fun bt221 => (if 1 + t220.size ≤ 9223372036854775807 then ((gr_Number.f ((⟨#[48]⟩ : ByteArray) ++ t220) (wrap64 (a1))).bind fun bt223 => (if bt223.2 = true then (postroadlaw05_GrNumbers.j0 k a2 t220 true) else (if bt223.1 = 0 then (if (bt221.2 != (decide (a0 ≤ a1))) = true then (postroadlaw05_GrNumbers.j0 k a2 t220 true) else (if bt221.2 = true then (if bt221.1 = (wrap64 (a0)) then (postroadlaw05_GrNumbers.j0 k a2 t220 false) else (postroadlaw05_GrNumbers.j0 k a2 t220 true)) else (postroadlaw05_GrNumbers.j0 k a2 t220 (bt221.1 != 0)))) else (postroadlaw05_GrNumbers.j0 k a2 t220 true)))) else (none)))) = some r := h
  clear h
  replace H := Option.bind_eq_some_iff.mp H
  obtain ⟨t220, A40, H⟩ := H
  replace H : ((gr_Number.f t220 (wrap64 (a1))).bind fun bt221 => (if 1 + t220.size ≤ 9223372036854775807 then ((gr_Number.f ((⟨#[48]⟩ : ByteArray) ++ t220) (wrap64 (a1))).bind fun bt223 => (if bt223.2 = true then (postroadlaw05_GrNumbers.j0 k a2 t220 true) else (if bt223.1 = 0 then (if (bt221.2 != (decide (a0 ≤ a1))) = true then (postroadlaw05_GrNumbers.j0 k a2 t220 true) else (if bt221.2 = true then (if bt221.1 = (wrap64 (a0)) then (postroadlaw05_GrNumbers.j0 k a2 t220 false) else (postroadlaw05_GrNumbers.j0 k a2 t220 true)) else (postroadlaw05_GrNumbers.j0 k a2 t220 (bt221.1 != 0)))) else (postroadlaw05_GrNumbers.j0 k a2 t220 true)))) else (none))) = some r := H
  have A4 := Aside0.mk A40
  clear A40
  replace H := Option.bind_eq_some_iff.mp H
  obtain ⟨⟨t221, t222⟩, A50, H⟩ := H
  replace H : (if 1 + t220.size ≤ 9223372036854775807 then ((gr_Number.f ((⟨#[48]⟩ : ByteArray) ++ t220) (wrap64 (a1))).bind fun bt223 => (if bt223.2 = true then (postroadlaw05_GrNumbers.j0 k a2 t220 true) else (if bt223.1 = 0 then (if (t222 != (decide (a0 ≤ a1))) = true then (postroadlaw05_GrNumbers.j0 k a2 t220 true) else (if t222 = true then (if t221 = (wrap64 (a0)) then (postroadlaw05_GrNumbers.j0 k a2 t220 false) else (postroadlaw05_GrNumbers.j0 k a2 t220 true)) else (postroadlaw05_GrNumbers.j0 k a2 t220 (t221 != 0)))) else (postroadlaw05_GrNumbers.j0 k a2 t220 true)))) else (none)) = some r := H
  have A5 := Aside0.mk A50
  clear A50
  by_cases c6 : 1 + t220.size ≤ 9223372036854775807
  · rw [if_pos c6] at H
    have c6b0 := eq_true c6
    have c6b1 : decide (1 + t220.size ≤ 9223372036854775807) = true := decide_eq_true c6
    try have c6b2 : (9223372036854775807 < 1 + t220.size) = False := eq_false (Nat.not_lt.2 c6)
    replace H := Option.bind_eq_some_iff.mp H
    obtain ⟨⟨t223, t224⟩, A70, H⟩ := H
    replace H : (if t224 = true then (postroadlaw05_GrNumbers.j0 k a2 t220 true) else (if t223 = 0 then (if (t222 != (decide (a0 ≤ a1))) = true then (postroadlaw05_GrNumbers.j0 k a2 t220 true) else (if t222 = true then (if t221 = (wrap64 (a0)) then (postroadlaw05_GrNumbers.j0 k a2 t220 false) else (postroadlaw05_GrNumbers.j0 k a2 t220 true)) else (postroadlaw05_GrNumbers.j0 k a2 t220 (t221 != 0)))) else (postroadlaw05_GrNumbers.j0 k a2 t220 true))) = some r := H
    have A7 := Aside0.mk A70
    clear A70
    have HC8 := Aside0.mk H
    clear H
    go_enter Tryd.func5, Tryd.ntmps5
    go_upto_region 4 with (first | ((with_reducible refine gate_callee (f := 15) rfl ?_); refine goesL_ (some 16) rfl rfl Tryd.func15 (by kernel_rfl) rfl #[.int .i64 (wrap64 (a0))] rfl (by (try simp only [List.map_toArray, List.map_cons, List.map_nil]); first | done | rfl | (simp only [List.length_drop, List.length_take]; rfl)) ?_; (with_reducible refine (postroadref05_Digits.calls k (wrap64 (a0)) t220 _ A4.out).mono ?_); rintro e w9 ⟨rfl, hb⟩; refine ⟨_, rfl, ?_⟩; have n0_ := Aside0.mk (below_step (by repeat (first | (with_reducible first | exact HB.out | apply below_alloc | apply pw_below_drewN | apply below_drew1) | exact HB.out)) hb); clear HB; have HB := n0_; clear n0_; (try clear hb); (try clear hb2); (try clear hk); (try clear hi)) | ((with_reducible refine gate_callee (f := 16) rfl ?_); refine goesL_ (some 21) rfl rfl Tryd.func16 (by kernel_rfl) rfl #[.string t220, .int .i64 (wrap64 (a1))] rfl (by (try simp only [List.map_toArray, List.map_cons, List.map_nil]); first | done | rfl | (simp only [List.length_drop, List.length_take]; rfl)) ?_; (with_reducible refine (gr_Number.calls t220 (wrap64 (a1)) t221 t222 _ A5.out).mono ?_); rintro e w10 ⟨rfl, hb⟩; refine ⟨_, rfl, ?_⟩; have n0_ := Aside0.mk (below_step (by repeat (first | (with_reducible first | exact HB.out | apply below_alloc | apply pw_below_drewN | apply below_drew1) | exact HB.out)) hb); clear HB; have HB := n0_; clear n0_; (try clear hb); (try clear hb2); (try clear hk); (try clear hi)) | ((with_reducible refine gate_callee (f := 16) rfl ?_); refine goesL_ (some 29) rfl rfl Tryd.func16 (by kernel_rfl) rfl #[.string ((⟨#[48]⟩ : ByteArray) ++ t220), .int .i64 (wrap64 (a1))] rfl (by (try simp only [List.map_toArray, List.map_cons, List.map_nil]); first | done | rfl | (simp only [List.length_drop, List.length_take]; rfl)) ?_; (with_reducible refine (gr_Number.calls ((⟨#[48]⟩ : ByteArray) ++ t220) (wrap64 (a1)) t223 t224 _ A7.out).mono ?_); rintro e w11 ⟨rfl, hb⟩; refine ⟨_, rfl, ?_⟩; have n0_ := Aside0.mk (below_step (by repeat (first | (with_reducible first | exact HB.out | apply below_alloc | apply pw_below_drewN | apply below_drew1) | exact HB.out)) hb); clear HB; have HB := n0_; clear n0_; (try clear hb); (try clear hb2); (try clear hk); (try clear hi)))
    (try simp only [Act.put, List.setIfInBounds_toArray, List.set_cons_zero, List.set_cons_succ])
    go_cut [60] (fun v60 wc => ∃ (kq : Nat) (x60_7 : Bool), v60 = .bool x60_7 ∧ Aside0 (postroadlaw05_GrNumbers.j0 kq a2 t220 x60_7 = some r) ∧ Aside0 (kq ≤ k) ∧ Aside0 (Below w.heap.size w wc))
    case first =>
      have H := HC8.out
      clear HC8
      by_cases c12 : t224 = true
      · subst c12
        have H1 : (postroadlaw05_GrNumbers.j0 k a2 t220 true) = some r := by rw [if_pos rfl] at H; exact H
        clear H
        have H := H1
        clear H1
        have H' := Aside0.mk H
        clear H
        go_wp2
        go_meet
        case rel => exact ⟨_, (true), (by first | rfl | (simp; done) | (simp [*]; done)), H', ⟨by first | omega | exact Nat.le_refl _⟩, ⟨by repeat (first | (with_reducible first | exact HB.out | apply below_alloc | apply pw_below_drewN | apply below_drew1) | exact HB.out)⟩⟩
      · replace c12 := Bool.eq_false_iff.mpr c12
        subst c12
        have H1 : (if t223 = 0 then (if (t222 != (decide (a0 ≤ a1))) = true then (postroadlaw05_GrNumbers.j0 k a2 t220 true) else (if t222 = true then (if t221 = (wrap64 (a0)) then (postroadlaw05_GrNumbers.j0 k a2 t220 false) else (postroadlaw05_GrNumbers.j0 k a2 t220 true)) else (postroadlaw05_GrNumbers.j0 k a2 t220 (t221 != 0)))) else (postroadlaw05_GrNumbers.j0 k a2 t220 true)) = some r := by rw [if_neg (show ¬ (false = true) by decide)] at H; exact H
        clear H
        have H := H1
        clear H1
        by_cases c13 : t223 = 0
        · rw [if_pos c13] at H
          have c13b0 : (t223 == 0) = true := beq_iff_eq.mpr c13
          have c13b1 : (t223 != 0) = false := bne_eq_false_iff_eq.mpr c13
          clear c13
          (first | rw [c13b0] | (simp only [i64_w, i32_w]; rw [c13b0]) | skip)
          by_cases c14 : (t222 != (decide (a0 ≤ a1))) = true
          · rw [if_pos c14] at H
            have c14b0 : (t222 != (decide (a0 ≤ a1))) = true := c14
            (try (have c14b1 : decide (t222 = (decide (a0 ≤ a1))) = false := by simpa using c14))
            (try (have c14b2 : (t222 == (decide (a0 ≤ a1))) = false := by simpa using c14))
            (try (have c14b3 : ¬ (t222 = (decide (a0 ≤ a1))) := by simpa using c14))
            clear c14
            have H' := Aside0.mk H
            clear H
            go_wp2
            go_meet
            case rel => exact ⟨_, (true), (by first | rfl | (simp; done) | (simp [*]; done)), H', ⟨by first | omega | exact Nat.le_refl _⟩, ⟨by repeat (first | (with_reducible first | exact HB.out | apply below_alloc | apply pw_below_drewN | apply below_drew1) | exact HB.out)⟩⟩
          · rw [if_neg c14] at H
            have c14b0 : (t222 != (decide (a0 ≤ a1))) = false := by simpa using c14
            (try (have c14b1 : decide (t222 = (decide (a0 ≤ a1))) = true := by simpa using c14))
            (try (have c14b2 : (t222 == (decide (a0 ≤ a1))) = true := by simpa using c14))
            clear c14
            by_cases c15 : t222 = true
            · subst c15
              have H1 : (if t221 = (wrap64 (a0)) then (postroadlaw05_GrNumbers.j0 k a2 t220 false) else (postroadlaw05_GrNumbers.j0 k a2 t220 true)) = some r := by rw [if_pos rfl] at H; exact H
              clear H
              have H := H1
              clear H1
              by_cases c16 : t221 = (wrap64 (a0))
              · rw [if_pos c16] at H
                have c16b0 : (t221 == (wrap64 (a0))) = true := beq_iff_eq.mpr c16
                have c16b1 : (t221 != (wrap64 (a0))) = false := bne_eq_false_iff_eq.mpr c16
                clear c16
                have H' := Aside0.mk H
                clear H
                go_wp2
                go_meet
                case rel => exact ⟨_, (false), (by first | rfl | (simp; done) | (simp [*]; done)), H', ⟨by first | omega | exact Nat.le_refl _⟩, ⟨by repeat (first | (with_reducible first | exact HB.out | apply below_alloc | apply pw_below_drewN | apply below_drew1) | exact HB.out)⟩⟩
              · rw [if_neg c16] at H
                have c16b0 : (t221 == (wrap64 (a0))) = false := beq_eq_false_iff_ne.mpr c16
                have c16b1 : (t221 != (wrap64 (a0))) = true := bne_iff_ne.mpr c16
                have H' := Aside0.mk H
                clear H
                go_wp2
                go_meet
                case rel => exact ⟨_, (true), (by first | rfl | (simp; done) | (simp [*]; done)), H', ⟨by first | omega | exact Nat.le_refl _⟩, ⟨by repeat (first | (with_reducible first | exact HB.out | apply below_alloc | apply pw_below_drewN | apply below_drew1) | exact HB.out)⟩⟩
            · replace c15 := Bool.eq_false_iff.mpr c15
              subst c15
              have H1 : (postroadlaw05_GrNumbers.j0 k a2 t220 (t221 != 0)) = some r := by rw [if_neg (show ¬ (false = true) by decide)] at H; exact H
              clear H
              have H := H1
              clear H1
              have H' := Aside0.mk H
              clear H
              go_wp2
              go_meet
              case rel => exact ⟨_, ((t221 != 0)), (by first | rfl | (simp; done) | (simp [*]; done)), H', ⟨by first | omega | exact Nat.le_refl _⟩, ⟨by repeat (first | (with_reducible first | exact HB.out | apply below_alloc | apply pw_below_drewN | apply below_drew1) | exact HB.out)⟩⟩
        · rw [if_neg c13] at H
          have c13b0 : (t223 == 0) = false := beq_eq_false_iff_ne.mpr c13
          have c13b1 : (t223 != 0) = true := bne_iff_ne.mpr c13
          (first | rw [c13b0] | (simp only [i64_w, i32_w]; rw [c13b0]) | skip)
          have H' := Aside0.mk H
          clear H
          go_wp2
          go_meet
          case rel => exact ⟨_, (true), (by first | rfl | (simp; done) | (simp [*]; done)), H', ⟨by first | omega | exact Nat.le_refl _⟩, ⟨by repeat (first | (with_reducible first | exact HB.out | apply below_alloc | apply pw_below_drewN | apply below_drew1) | exact HB.out)⟩⟩
    case rest =>
      clear HC8
      try clear c1
      try clear p2
      try clear c5
      try clear c6
      try clear c6b0
      try clear c6b1
      try clear c6b2
      try clear p6
      try clear c12
      try clear c13
      try clear c13b0
      try clear c13b1
      try clear c14
      try clear c14b0
      try clear c14b1
      try clear c14b2
      try clear c15
      try clear c16
      try clear c16b0
      try clear c16b1
      obtain ⟨kq, x60_7, rfl, HA, HJ7, HB⟩ := hcut
      cases kq with
      | zero => exact absurd HA.out (by simp [postroadlaw05_GrNumbers.j0])
      | succ kj7 =>
        have H := HA.out
        clear HA
        simp only [postroadlaw05_GrNumbers.j0] at H
        by_cases c17 : x60_7 = true
        · subst c17
          have H1 : (some false) = some r := by rw [if_pos rfl] at H; exact H
          clear H
          have H := H1
          clear H1
          obtain rfl := Option.some.inj H
          go_wp2
          go_ret
          exact ⟨by first | rfl | (simp [errW_none, errW_some] <;> rfl) | (simp [*, errW_none, errW_some] <;> rfl), by repeat (first | (with_reducible first | exact HB.out | apply below_alloc | apply pw_below_drewN | apply below_drew1) | exact HB.out)⟩
        · replace c17 := Bool.eq_false_iff.mpr c17
          subst c17
          have H1 : (if a2 ≥ 48 then (postroadlaw05_GrNumbers.j1 kj7 a2 t220 (decide (a2 ≤ 57))) else (postroadlaw05_GrNumbers.j1 kj7 a2 t220 false)) = some r := by rw [if_neg (show ¬ (false = true) by decide)] at H; exact H
          clear H
          have H := H1
          clear H1
          have HC18 := Aside0.mk H
          clear H
          go_upto_region 6 with (fail)
          go_cut [66] (fun v66 wc => ∃ (kq : Nat) (x66_17 : Bool), v66 = .bool x66_17 ∧ Aside0 (postroadlaw05_GrNumbers.j1 kq a2 t220 x66_17 = some r) ∧ Aside0 (kq ≤ kj7) ∧ Aside0 (Below w.heap.size w wc))
          case first =>
            have H := HC18.out
            clear HC18
            by_cases c19 : a2 ≥ 48
            · rw [if_pos c19] at H
              have c19b0 : decide (48 ≤ a2) = true := decide_eq_true c19
              clear c19
              (first | rw [c19b0] | (simp only [i64_w, i32_w]; rw [c19b0]) | skip)
              have H' := Aside0.mk H
              clear H
              go_wp2
              go_meet
              case rel => exact ⟨_, (decide (a2 ≤ 57)), (by first | rfl | (simp; done) | (simp [*]; done)), H', ⟨by have := HJ7.out; first | omega | exact Nat.le_refl _⟩, ⟨by repeat (first | (with_reducible first | exact HB.out | apply below_alloc | apply pw_below_drewN | apply below_drew1) | exact HB.out)⟩⟩
            · rw [if_neg c19] at H
              have c19b0 : decide (48 ≤ a2) = false := decide_eq_false c19
              clear c19
              (first | rw [c19b0] | (simp only [i64_w, i32_w]; rw [c19b0]) | skip)
              have H' := Aside0.mk H
              clear H
              go_wp2
              go_meet
              case rel => exact ⟨_, (false), (by first | rfl | (simp; done) | (simp [*]; done)), H', ⟨by have := HJ7.out; first | omega | exact Nat.le_refl _⟩, ⟨by repeat (first | (with_reducible first | exact HB.out | apply below_alloc | apply pw_below_drewN | apply below_drew1) | exact HB.out)⟩⟩
          case rest =>
            clear HC18
            try clear c1
            try clear p2
            try clear c5
            try clear c6
            try clear c6b0
            try clear c6b1
            try clear c6b2
            try clear p6
            try clear c12
            try clear c13
            try clear c13b0
            try clear c13b1
            try clear c14
            try clear c14b0
            try clear c14b1
            try clear c14b2
            try clear c15
            try clear c16
            try clear c16b0
            try clear c16b1
            try clear c17
            try clear c19
            try clear c19b0
            try clear p2
            try clear p6
            obtain ⟨kq, x66_17, rfl, HA, HJ17, HB⟩ := hcut
            cases kq with
            | zero => exact absurd HA.out (by simp [postroadlaw05_GrNumbers.j1])
            | succ kj17 =>
              have H := HA.out
              clear HA
              simp only [postroadlaw05_GrNumbers.j1] at H
              by_cases c20 : x66_17 = true
              · subst c20
                have H1 : ((postroadlaw05_known.f kj17).bind fun t225 => (some t225)) = some r := by rw [if_pos rfl] at H; exact H
                clear H
                have H := H1
                clear H1
                replace H := Option.bind_eq_some_iff.mp H
                obtain ⟨t225, A210, H⟩ := H
                replace H : (some t225) = some r := H
                have A21 := Aside0.mk A210
                clear A210
                obtain rfl := Option.some.inj H
                go_wp2_with (first | ((with_reducible refine gate_callee (f := 10) rfl ?_); refine goesL_ (some 67) rfl rfl Tryd.func10 (by kernel_rfl) rfl #[] rfl (by (try simp only [List.map_toArray, List.map_cons, List.map_nil]); first | done | rfl | (simp only [List.length_drop, List.length_take]; rfl)) ?_; (with_reducible refine (postroadlaw05_known.calls kj17  t225 _ A21.out).mono ?_); rintro e w22 ⟨rfl, hb⟩; refine ⟨_, rfl, ?_⟩; have n0_ := Aside0.mk (below_step (by repeat (first | (with_reducible first | exact HB.out | apply below_alloc | apply pw_below_drewN | apply below_drew1) | exact HB.out)) hb); clear HB; have HB := n0_; clear n0_; (try clear hb); (try clear hb2); (try clear hk); (try clear hi)))
                go_ret
                exact ⟨by first | rfl | (simp [errW_none, errW_some] <;> rfl) | (simp [*, errW_none, errW_some] <;> rfl), by repeat (first | (with_reducible first | exact HB.out | apply below_alloc | apply pw_below_drewN | apply below_drew1) | exact HB.out)⟩
              · replace c20 := Bool.eq_false_iff.mpr c20
                subst c20
                have H1 : ((some (([a2] : List Int) : List Int)).bind fun y226 => (if t220.size + (strOfNums y226).size ≤ 9223372036854775807 then ((gr_Number.f (t220 ++ (strOfNums y226)) 4294967295).bind fun bt229 => (if bt229.2 = true then (some false) else ((postroadlaw05_known.f kj17).bind fun t231 => (some t231)))) else (none))) = some r := by rw [if_neg (show ¬ (false = true) by decide)] at H; exact H
                clear H
                have H := H1
                clear H1
                obtain ⟨y226, hy226⟩ : ∃ y_ : List Int, y_ = (([a2] : List Int)) := ⟨_, rfl⟩
                replace H : (if t220.size + (strOfNums y226).size ≤ 9223372036854775807 then ((gr_Number.f (t220 ++ (strOfNums y226)) 4294967295).bind fun bt229 => (if bt229.2 = true then (some false) else ((postroadlaw05_known.f kj17).bind fun t231 => (some t231)))) else (none)) = some r := by first | (rw [hy226]; with_reducible exact H) | (have H2_ := (Option.bind_some _ _).symm.trans H; rw [hy226]; with_reducible exact H2_) | (have H2_ := (Option.bind_some _ _).symm.trans H; with_reducible exact H2_) | with_reducible exact H | (rw [hy226]; exact H) | exact H
                have Ny226 := Aside0.mk hy226
                clear hy226
                by_cases c23 : t220.size + (strOfNums y226).size ≤ 9223372036854775807
                · rw [if_pos c23] at H
                  have c23b0 := eq_true c23
                  have c23b1 : decide (t220.size + (strOfNums y226).size ≤ 9223372036854775807) = true := decide_eq_true c23
                  try have c23b2 : (9223372036854775807 < t220.size + (strOfNums y226).size) = False := eq_false (Nat.not_lt.2 c23)
                  replace H := Option.bind_eq_some_iff.mp H
                  obtain ⟨⟨t229, t230⟩, A240, H⟩ := H
                  replace H : (if t230 = true then (some false) else ((postroadlaw05_known.f kj17).bind fun t231 => (some t231))) = some r := H
                  have A24 := Aside0.mk A240
                  clear A240
                  by_cases c25 : t230 = true
                  · subst c25
                    have H1 : (some false) = some r := by rw [if_pos rfl] at H; exact H
                    clear H
                    have H := H1
                    clear H1
                    obtain rfl := Option.some.inj H
                    go_wp2_with (first | ((with_reducible refine gate_dst (N := 71) rfl ?_); refine Kd.R_lit (Kd.int .u8) _ 5 ?hg (N := 71) ?hd (xs := ([a2] : List Int)) (inner := [.int .u8 a2]) (ok := fun _ => True) (okp := fun _ => True) ?hr ?hp (fun _ hk => hk) trivial (Below.refl _ _) (Nat.le_refl _) (by simp) ?_; (case hd => rfl); (case hg => rfl); (case hr => first | (go_simp; done) | (go_simp; rfl)); (case hp => exact (Reps.one (show Kd.M (Kd.int .u8) _ _ _ a2 [.int .u8 a2] from rfl) (Reps.none _ _))); intro v227 w26 ho27 hb hg_ hnew_; clear hg_ hnew_; (first | rw [← Ny226.out] at ho27 | (simp only [Int.reduceToNat] at ho27; rw [← Ny226.out] at ho27)); have n0_ := Aside0.mk (Kd.R_lower ho27 (below_size (by repeat (first | (with_reducible first | exact HB.out | apply below_alloc | apply pw_below_drewN | apply below_drew1) | exact HB.out)))); have n1_ := Aside0.mk (below_step (by repeat (first | (with_reducible first | exact HB.out | apply below_alloc | apply pw_below_drewN | apply below_drew1) | exact HB.out)) hb); clear HB; have HO228 := n0_; have HB := n1_; clear n0_ n1_; clear hb ho27; have hcv28 := own_string (P := Tryd.prog) Tryd.underlying37 Tryd.underlying5 Tryd.underlying9 (Kd.own_of_R HO228.out)) | ((with_reducible refine gate_callee (f := 16) rfl ?_); refine goesL_ (some 74) rfl rfl Tryd.func16 (by kernel_rfl) rfl #[.string (t220 ++ (strOfNums y226)), .int .i64 4294967295] rfl (by (try simp only [List.map_toArray, List.map_cons, List.map_nil]); first | done | rfl | (simp only [List.length_drop, List.length_take]; rfl)) ?_; (with_reducible refine (gr_Number.calls (t220 ++ (strOfNums y226)) 4294967295 t229 true _ A24.out).mono ?_); rintro e w29 ⟨rfl, hb⟩; refine ⟨_, rfl, ?_⟩; have n0_ := Aside0.mk (Kd.R_below (by (with_reducible repeat (first | apply Kd.R_alloc | apply Kd.R_drewN | apply Kd.R_drew)); exact HO228.out) hb); have n1_ := Aside0.mk (below_step (by repeat (first | (with_reducible first | exact HB.out | apply below_alloc | apply pw_below_drewN | apply below_drew1) | exact HB.out)) hb); clear HO228; clear HB; have HO228 := n0_; have HB := n1_; clear n0_ n1_; (try clear hb); (try clear hb2); (try clear hk); (try clear hi)))
                    go_ret
                    exact ⟨by first | rfl | (simp [errW_none, errW_some] <;> rfl) | (simp [*, errW_none, errW_some] <;> rfl), by repeat (first | (with_reducible first | exact HB.out | apply below_alloc | apply pw_below_drewN | apply below_drew1) | exact HB.out)⟩
                  · replace c25 := Bool.eq_false_iff.mpr c25
                    subst c25
                    have H1 : ((postroadlaw05_known.f kj17).bind fun t231 => (some t231)) = some r := by rw [if_neg (show ¬ (false = true) by decide)] at H; exact H
                    clear H
                    have H := H1
                    clear H1
                    replace H := Option.bind_eq_some_iff.mp H
                    obtain ⟨t231, A300, H⟩ := H
                    replace H : (some t231) = some r := H
                    have A30 := Aside0.mk A300
                    clear A300
                    obtain rfl := Option.some.inj H
                    go_wp2_with (first | ((with_reducible refine gate_dst (N := 71) rfl ?_); refine Kd.R_lit (Kd.int .u8) _ 5 ?hg (N := 71) ?hd (xs := ([a2] : List Int)) (inner := [.int .u8 a2]) (ok := fun _ => True) (okp := fun _ => True) ?hr ?hp (fun _ hk => hk) trivial (Below.refl _ _) (Nat.le_refl _) (by simp) ?_; (case hd => rfl); (case hg => rfl); (case hr => first | (go_simp; done) | (go_simp; rfl)); (case hp => exact (Reps.one (show Kd.M (Kd.int .u8) _ _ _ a2 [.int .u8 a2] from rfl) (Reps.none _ _))); intro v227 w31 ho32 hb hg_ hnew_; clear hg_ hnew_; (first | rw [← Ny226.out] at ho32 | (simp only [Int.reduceToNat] at ho32; rw [← Ny226.out] at ho32)); have n0_ := Aside0.mk (Kd.R_lower ho32 (below_size (by repeat (first | (with_reducible first | exact HB.out | apply below_alloc | apply pw_below_drewN | apply below_drew1) | exact HB.out)))); have n1_ := Aside0.mk (below_step (by repeat (first | (with_reducible first | exact HB.out | apply below_alloc | apply pw_below_drewN | apply below_drew1) | exact HB.out)) hb); clear HB; have HO228 := n0_; have HB := n1_; clear n0_ n1_; clear hb ho32; have hcv33 := own_string (P := Tryd.prog) Tryd.underlying37 Tryd.underlying5 Tryd.underlying9 (Kd.own_of_R HO228.out)) | ((with_reducible refine gate_callee (f := 16) rfl ?_); refine goesL_ (some 74) rfl rfl Tryd.func16 (by kernel_rfl) rfl #[.string (t220 ++ (strOfNums y226)), .int .i64 4294967295] rfl (by (try simp only [List.map_toArray, List.map_cons, List.map_nil]); first | done | rfl | (simp only [List.length_drop, List.length_take]; rfl)) ?_; (with_reducible refine (gr_Number.calls (t220 ++ (strOfNums y226)) 4294967295 t229 false _ A24.out).mono ?_); rintro e w34 ⟨rfl, hb⟩; refine ⟨_, rfl, ?_⟩; have n0_ := Aside0.mk (Kd.R_below (by (with_reducible repeat (first | apply Kd.R_alloc | apply Kd.R_drewN | apply Kd.R_drew)); exact HO228.out) hb); have n1_ := Aside0.mk (below_step (by repeat (first | (with_reducible first | exact HB.out | apply below_alloc | apply pw_below_drewN | apply below_drew1) | exact HB.out)) hb); clear HO228; clear HB; have HO228 := n0_; have HB := n1_; clear n0_ n1_; (try clear hb); (try clear hb2); (try clear hk); (try clear hi)) | (go_at_call 10; (with_reducible refine (postroadlaw05_known.calls kj17  t231 _ A30.out).mono ?_); rintro e w35 ⟨rfl, hb⟩; have n0_ := Aside0.mk (Kd.R_below (by (with_reducible repeat (first | apply Kd.R_alloc | apply Kd.R_drewN | apply Kd.R_drew)); exact HO228.out) hb); have n1_ := Aside0.mk (below_step (by repeat (first | (with_reducible first | exact HB.out | apply below_alloc | apply pw_below_drewN | apply below_drew1) | exact HB.out)) hb); clear HO228; clear HB; have HO228 := n0_; have HB := n1_; clear n0_ n1_; (try clear hb); (try clear hb2); (try clear hk); (try clear hi)))
                    go_ret
                    exact ⟨by first | rfl | (simp [errW_none, errW_some] <;> rfl) | (simp [*, errW_none, errW_some] <;> rfl), by repeat (first | (with_reducible first | exact HB.out | apply below_alloc | apply pw_below_drewN | apply below_drew1) | exact HB.out)⟩
                · rw [if_neg c23] at H
                  exact absurd H (by simp)
  · rw [if_neg c6] at H
    exact absurd H (by simp)

/-- THE ONE PURE STATEMENT of postroadlaw05_GrNumbers: yours. -/
def postroadlaw05_GrNumbers.Pure : Prop := ∀ (a0 : Int) (a1 : Int) (a2 : Int), (Lit.int .u32 a0).wf = true → (Lit.int .u32 a1).wf = true → (Lit.int .u8 a2).wf = true → ∃ k, postroadlaw05_GrNumbers.f k a0 a1 a2 = some true
theorem postroadlaw05_GrNumbers.walk (P : postroadlaw05_GrNumbers.Pure) (a0 : Int) (a1 : Int) (a2 : Int) (w : World) (w0 : (Lit.int .u32 a0).wf = true) (w1 : (Lit.int .u32 a1).wf = true) (w2 : (Lit.int .u8 a2).wf = true) :
    Calls Tryd.prog 5 #[.int .u32 a0, .int .u32 a1, .int .u8 a2] w fun e w' => e = .returned (.bool true) ∧ Below w.heap.size w w' := by
  obtain ⟨k, h⟩ := P a0 a1 a2 w0 w1 w2
  refine (postroadlaw05_GrNumbers.calls k a0 a1 a2 true w h).mono ?_
  rintro e w' ⟨rfl, hd⟩
  exact ⟨rfl, hd⟩

/-! ### gr_Check: function 17 -/
mutual
def gr_Check.j0 : Nat → Bool → Int → List (S50) → Option (Int)
  | 0, _, _, _ => none
  | k + 1, x13, x233000, x233001 => if x13 = true then (some 3) else (if x233000 < 0 then (some 2) else (gr_Check.l0 k x233001 (x233001.length : Int) 0 x233000 x233001))
def gr_Check.l0 : Nat → List (S50) → Int → Int → Int → List (S50) → Option (Int)
  | 0, _, _, _, _, _ => none
  | k + 1, x18, x19, x20, x233000, x233001 => if x20 < x19 then (if 0 ≤ x20 then (if x20 < (x18.length : Int) then (if (mn (mn ((rd_T50 x18 x20).f0) ((rd_T50 x18 x20).f1)) ((rd_T50 x18 x20).f2)) < 0 then (some 2) else (if (mx ((rd_T50 x18 x20).f0) ((rd_T50 x18 x20).f1)) ≥ x233000 then (some 2) else (if ((rd_T50 x18 x20).f2) > 2147483648 then (some 2) else (gr_Check.l0 k x18 x19 (wrap64 (x20 + 1)) x233000 x233001)))) else (none)) else (none)) else (some 0)
end
def gr_Check.f (k : Nat) (a0_0 : Int) (l0_1 : List (S50)) : Option (Int) := if a0_0 > 16777216 then (gr_Check.j0 k true a0_0 l0_1) else (gr_Check.j0 k (decide ((l0_1.length : Int) > 67108864)) a0_0 l0_1)
theorem gr_Check.mono_l : ∀ k, (∀ y0 y1 y2, LeO (gr_Check.j0 k y0 y1 y2) (gr_Check.j0 (k + 1) y0 y1 y2)) ∧ (∀ y0 y1 y2 y3 y4, LeO (gr_Check.l0 k y0 y1 y2 y3 y4) (gr_Check.l0 (k + 1) y0 y1 y2 y3 y4))
  | 0 => ⟨fun _ _ _ r h => by simp [gr_Check.j0] at h, fun _ _ _ _ _ r h => by simp [gr_Check.l0] at h⟩
  | k + 1 => by
    obtain ⟨ih0, ih1⟩ := gr_Check.mono_l k
    refine ⟨?_, ?_⟩
    · intro y0 y1 y2
      unfold gr_Check.j0
      repeat' first
      | (with_reducible exact ih0 _ _ _)
      | (with_reducible exact ih1 _ _ _ _ _)
      | (with_reducible exact LeO.refl _)
      | (with_reducible exact LeO.none _)
      | (with_reducible refine LeO.ite ?_ ?_)
      | (with_reducible refine LeO.bind ?_ (fun _ => ?_))
      | exact ih0 _ _ _
      | exact ih1 _ _ _ _ _
      | exact LeO.none _
      | refine LeO.ite ?_ ?_
      | refine LeO.bind ?_ (fun _ => ?_)
    · intro y0 y1 y2 y3 y4
      unfold gr_Check.l0
      repeat' first
      | (with_reducible exact ih0 _ _ _)
      | (with_reducible exact ih1 _ _ _ _ _)
      | (with_reducible exact LeO.refl _)
      | (with_reducible exact LeO.none _)
      | (with_reducible refine LeO.ite ?_ ?_)
      | (with_reducible refine LeO.bind ?_ (fun _ => ?_))
      | exact ih0 _ _ _
      | exact ih1 _ _ _ _ _
      | exact LeO.none _
      | refine LeO.ite ?_ ?_
      | refine LeO.bind ?_ (fun _ => ?_)
theorem gr_Check.mono : ∀ a0 a1 k, LeO (gr_Check.f k a0 a1) (gr_Check.f (k + 1) a0 a1) := by
  intro a0 a1 k
  obtain ⟨ih0, ih1⟩ := gr_Check.mono_l k
  unfold gr_Check.f
  repeat' first
      | (with_reducible exact ih0 _ _ _)
      | (with_reducible exact ih1 _ _ _ _ _)
      | (with_reducible exact LeO.refl _)
      | (with_reducible exact LeO.none _)
      | (with_reducible refine LeO.ite ?_ ?_)
      | (with_reducible refine LeO.bind ?_ (fun _ => ?_))
      | exact ih0 _ _ _
      | exact ih1 _ _ _ _ _
      | exact LeO.none _
      | refine LeO.ite ?_ ?_
      | refine LeO.bind ?_ (fun _ => ?_)
set_option maxHeartbeats 8000000 in
set_option maxRecDepth 100000 in
theorem gr_Check.calls (k : Nat) (a0_0 : Int) (A0_1 : Option Addr) (c0_1 : Nat) (l0_1 : List (S50)) (r : Int) (w : World) (hr0_1 : Kd.C k50 w A0_1 l0_1.length l0_1) (hc0_1 : l0_1.length ≤ c0_1) (h : gr_Check.f k a0_0 l0_1 = some r) :
    Calls Tryd.prog 17 #[.agg #[.int .i64 a0_0, .slice A0_1 l0_1.length c0_1]] w fun e w' => e = .returned (.int .i64 r) ∧ Below w.heap.size w w' := by
  have hu25 := Tryd.underlying25
  have hu50 := Tryd.underlying50
  have HR0_1 := Aside0.mk hr0_1
  have HC0_1 := Aside0.mk hc0_1
  clear hr0_1 hc0_1
  have HB := Aside0.mk (Below.refl w.heap.size w)
  have H : (if a0_0 > 16777216 then (gr_Check.j0 k true a0_0 l0_1) else (gr_Check.j0 k (decide ((l0_1.length : Int) > 67108864)) a0_0 l0_1)) = some r := h
  clear h
  have HC2 := Aside0.mk H
  clear H
  go_enter Tryd.func17, Tryd.ntmps17
  go_upto_region 1 with (first | ((with_reducible refine gate_dst (N := 1) rfl ?_); (try (refine gate_guard (by rfl) ?_; dsimp only)); refine box_event ?hg (N := 1) ?hd (cs := #[.int .i64 a0_0, .slice A0_1 l0_1.length c0_1]) (t := 25) ?hr ?_; (case hd => rfl); (case hg => rfl); (case hr => first | (go_simp; done) | (go_simp; rfl)); intro gb232 hg w3 hbox hb; have n0_ := Aside0.mk (below_step (by repeat (first | (with_reducible first | exact HB.out | apply below_alloc | apply pw_below_drewN | apply below_drew1) | exact HB.out)) hb); have n1_ := Aside0.mk (hbox); have n2_ := Aside0.mk ((by rw [hg]; exact (below_size (by repeat (first | (with_reducible first | exact HB.out | apply below_alloc | apply pw_below_drewN | apply below_drew1) | exact HB.out))) : w.heap.size ≤ gb232)); have n3_ := Aside0.mk ((by rw [hg]; exact (below_size (by repeat (first | (with_reducible first | exact HB.out | apply below_alloc | apply pw_below_drewN | apply below_drew1) | exact HB.out))) : w.heap.size ≤ gb232)); clear HB; have HB := n0_; have BK232 := n1_; have GW232 := n2_; have GE232 := n3_; clear n0_ n1_ n2_ n3_; clear hb hbox hg))
  (try simp only [Act.put, List.setIfInBounds_toArray, List.set_cons_zero, List.set_cons_succ])
  go_cut [13] (fun v13 wc => ∃ (kq : Nat) (x13_1 : Bool), v13 = .bool x13_1 ∧ Aside0 (gr_Check.j0 kq x13_1 a0_0 l0_1 = some r) ∧ Aside0 (kq ≤ k) ∧ Aside0 (wc.heap[gb232]? = some (.cells #[.int .i64 a0_0, (.slice A0_1 l0_1.length c0_1)] 25 (0, 0))) ∧ Aside0 (Below w.heap.size w wc))
  case first =>
    have H := HC2.out
    clear HC2
    by_cases c4 : a0_0 > 16777216
    · rw [if_pos c4] at H
      have c4b0 : decide (16777216 < a0_0) = true := decide_eq_true c4
      clear c4
      (first | rw [c4b0] | (simp only [i64_w, i32_w]; rw [c4b0]) | skip)
      have H' := Aside0.mk H
      clear H
      have hcz5_0 : w3.cell? ⟨gb232, 0, none⟩ = some (.int .i64 a0_0) := (blk_cell BK232.out 0).trans rfl
      have hcz5_1 : w3.cell? ⟨gb232, 1, none⟩ = some (.slice A0_1 l0_1.length c0_1) := (blk_cell BK232.out 1).trans rfl
      have hfz5_0 := blk_frozen BK232.out 0
      have hfz5_1 := blk_frozen BK232.out 1
      go_wp2
      go_meet
      case rel => exact ⟨_, (true), (by first | rfl | (simp; done) | (simp [*]; done)), H', ⟨by first | omega | exact Nat.le_refl _⟩, ⟨by (with_reducible repeat (first | refine blk_drewN ?_ _ | refine blk_drew ?_ | refine blk_alloc ?_ _)); exact BK232.out⟩, ⟨by repeat (first | (with_reducible first | exact HB.out | apply below_alloc | apply pw_below_drewN | apply below_drew1 | refine below_set ?_ GE232.out) | exact HB.out)⟩⟩
    · rw [if_neg c4] at H
      have c4b0 : decide (16777216 < a0_0) = false := decide_eq_false c4
      clear c4
      (first | rw [c4b0] | (simp only [i64_w, i32_w]; rw [c4b0]) | skip)
      have H' := Aside0.mk H
      clear H
      have hcz6_0 : w3.cell? ⟨gb232, 0, none⟩ = some (.int .i64 a0_0) := (blk_cell BK232.out 0).trans rfl
      have hcz6_1 : w3.cell? ⟨gb232, 1, none⟩ = some (.slice A0_1 l0_1.length c0_1) := (blk_cell BK232.out 1).trans rfl
      have hfz6_0 := blk_frozen BK232.out 0
      have hfz6_1 := blk_frozen BK232.out 1
      go_wp2
      go_meet
      case rel => exact ⟨_, (decide ((l0_1.length : Int) > 67108864)), (by first | rfl | (simp; done) | (simp [*]; done)), H', ⟨by first | omega | exact Nat.le_refl _⟩, ⟨by (with_reducible repeat (first | refine blk_drewN ?_ _ | refine blk_drew ?_ | refine blk_alloc ?_ _)); exact BK232.out⟩, ⟨by repeat (first | (with_reducible first | exact HB.out | apply below_alloc | apply pw_below_drewN | apply below_drew1 | refine below_set ?_ GE232.out) | exact HB.out)⟩⟩
  case rest =>
    clear HC2
    try clear c1
    try clear p2
    try clear c4
    try clear c4b0
    try clear hcz5_0
    try clear hcz5_1
    try clear hcz6_0
    try clear hcz6_1
    try clear hfz5_0
    try clear hfz5_1
    try clear hfz6_0
    try clear hfz6_1
    obtain ⟨kq, x13_1, rfl, HA, HJ1, BK232, HB⟩ := hcut
    cases kq with
    | zero => exact absurd HA.out (by simp [gr_Check.j0])
    | succ kj1 =>
      have H := HA.out
      clear HA
      simp only [gr_Check.j0] at H
      by_cases c7 : x13_1 = true
      · subst c7
        have H1 : (some 3) = some r := by rw [if_pos rfl] at H; exact H
        clear H
        have H := H1
        clear H1
        obtain rfl := Option.some.inj H
        go_wp2
        go_ret
        exact ⟨by first | rfl | (simp [errW_none, errW_some] <;> rfl) | (simp [*, errW_none, errW_some] <;> rfl), by repeat (first | (with_reducible first | exact HB.out | apply below_alloc | apply pw_below_drewN | apply below_drew1 | refine below_set ?_ GE232.out) | exact HB.out)⟩
      · replace c7 := Bool.eq_false_iff.mpr c7
        subst c7
        have H1 : (if a0_0 < 0 then (some 2) else (gr_Check.l0 kj1 l0_1 (l0_1.length : Int) 0 a0_0 l0_1)) = some r := by rw [if_neg (show ¬ (false = true) by decide)] at H; exact H
        clear H
        have H := H1
        clear H1
        by_cases c8 : a0_0 < 0
        · rw [if_pos c8] at H
          have c8b0 : decide (a0_0 < 0) = true := decide_eq_true c8
          clear c8
          obtain rfl := Option.some.inj H
          have hcz9_0 : wc.cell? ⟨gb232, 0, none⟩ = some (.int .i64 a0_0) := (blk_cell BK232.out 0).trans rfl
          have hcz9_1 : wc.cell? ⟨gb232, 1, none⟩ = some (.slice A0_1 l0_1.length c0_1) := (blk_cell BK232.out 1).trans rfl
          have hfz9_0 := blk_frozen BK232.out 0
          have hfz9_1 := blk_frozen BK232.out 1
          go_wp2
          go_ret
          exact ⟨by first | rfl | (simp [errW_none, errW_some] <;> rfl) | (simp [*, errW_none, errW_some] <;> rfl), by repeat (first | (with_reducible first | exact HB.out | apply below_alloc | apply pw_below_drewN | apply below_drew1 | refine below_set ?_ GE232.out) | exact HB.out)⟩
        · rw [if_neg c8] at H
          have c8b0 : decide (a0_0 < 0) = false := decide_eq_false c8
          clear c8
          have H' := Aside0.mk H
          clear H
          have hcz10_0 : wc.cell? ⟨gb232, 0, none⟩ = some (.int .i64 a0_0) := (blk_cell BK232.out 0).trans rfl
          have hcz10_1 : wc.cell? ⟨gb232, 1, none⟩ = some (.slice A0_1 l0_1.length c0_1) := (blk_cell BK232.out 1).trans rfl
          have hfz10_0 := blk_frozen BK232.out 0
          have hfz10_1 := blk_frozen BK232.out 1
          go_wp2
          go_loopg [20] kj1 (fun kq v20 w' => ∃ (x20_2 : Int), v20 = .int .i64 x20_2 ∧ Aside0 (gr_Check.l0 kq l0_1 (l0_1.length : Int) x20_2 a0_0 l0_1 = some r) ∧ Aside0 (kq ≤ kj1) ∧ Aside0 (w'.heap[gb232]? = some (.cells #[.int .i64 a0_0, (.slice A0_1 l0_1.length c0_1)] 25 (0, 0))) ∧ Aside0 (Below w.heap.size w w'))
          case atStart => exact ⟨(0), (by first | rfl | (simp; done) | (simp [*]; done)), H', ⟨Nat.le_refl _⟩, ⟨by (with_reducible repeat (first | refine blk_drewN ?_ _ | refine blk_drew ?_ | refine blk_alloc ?_ _)); exact BK232.out⟩, ⟨by repeat (first | (with_reducible first | exact HB.out | apply below_alloc | apply pw_below_drewN | apply below_drew1 | refine below_set ?_ GE232.out) | exact HB.out)⟩⟩
          case round =>
            clear H'
            try clear c1
            try clear p2
            try clear c4
            try clear c4b0
            try clear c7
            try clear c8
            try clear c8b0
            try clear hcz10_0
            try clear hcz10_1
            try clear hcz5_0
            try clear hcz5_1
            try clear hcz6_0
            try clear hcz6_1
            try clear hcz9_0
            try clear hcz9_1
            try clear hfz10_0
            try clear hfz10_1
            try clear hfz5_0
            try clear hfz5_1
            try clear hfz6_0
            try clear hfz6_1
            try clear hfz9_0
            try clear hfz9_1
            try clear p2
            obtain ⟨x20_2, rfl, HA, HK2, BK232, HB⟩ := hrel
            cases gk with
            | zero => exact absurd HA.out (by simp [gr_Check.l0])
            | succ k2 =>
              have H := HA.out
              clear HA
              simp only [gr_Check.l0] at H
              by_cases c11 : x20_2 < (l0_1.length : Int)
              · rw [if_pos c11] at H
                have c11b0 : decide (x20_2 < (l0_1.length : Int)) = true := decide_eq_true c11
                clear c11
                by_cases c12 : 0 ≤ x20_2
                · rw [if_pos c12] at H
                  have c12b0 : decide (0 ≤ x20_2) = true := decide_eq_true c12
                  clear c12
                  by_cases c13 : x20_2 < (l0_1.length : Int)
                  · rw [if_pos c13] at H
                    have c13b0 : decide (x20_2 < (l0_1.length : Int)) = true := decide_eq_true c13
                    clear c13
                    obtain ⟨ji14, hji14⟩ : ∃ j_ : Int, (mn ((rd_T50 l0_1 x20_2).f0) ((rd_T50 l0_1 x20_2).f1)) = j_ := ⟨_, rfl⟩
                    replace H : (if (mn (ji14) ((rd_T50 l0_1 x20_2).f2)) < 0 then (some 2) else (if (mx ((rd_T50 l0_1 x20_2).f0) ((rd_T50 l0_1 x20_2).f1)) ≥ a0_0 then (some 2) else (if ((rd_T50 l0_1 x20_2).f2) > 2147483648 then (some 2) else (gr_Check.l0 k2 l0_1 (l0_1.length : Int) (wrap64 (x20_2 + 1)) a0_0 l0_1)))) = some r := by first | (rw [hji14] at H; exact H) | (simp only [hji14] at H ⊢; exact H)
                    have hji14_ : (if ((rd_T50 l0_1 x20_2).f1) < ((rd_T50 l0_1 x20_2).f0) then ((rd_T50 l0_1 x20_2).f1) else ((rd_T50 l0_1 x20_2).f0)) = ji14 := hji14
                    obtain ⟨ji15, hji15⟩ : ∃ j_ : Int, (mn (ji14) ((rd_T50 l0_1 x20_2).f2)) = j_ := ⟨_, rfl⟩
                    replace H : (if (ji15) < 0 then (some 2) else (if (mx ((rd_T50 l0_1 x20_2).f0) ((rd_T50 l0_1 x20_2).f1)) ≥ a0_0 then (some 2) else (if ((rd_T50 l0_1 x20_2).f2) > 2147483648 then (some 2) else (gr_Check.l0 k2 l0_1 (l0_1.length : Int) (wrap64 (x20_2 + 1)) a0_0 l0_1)))) = some r := by first | (rw [hji15] at H; exact H) | (simp only [hji15] at H ⊢; exact H)
                    have hji15_ : (if ((rd_T50 l0_1 x20_2).f2) < (ji14) then ((rd_T50 l0_1 x20_2).f2) else (ji14)) = ji15 := hji15
                    by_cases c16 : (ji15) < 0
                    · rw [if_pos c16] at H
                      have c16b0 : decide ((ji15) < 0) = true := decide_eq_true c16
                      clear c16
                      obtain rfl := Option.some.inj H
                      have p233 : 0 ≤ (x20_2 : Int) := of_decide_eq_true (by first | (with_reducible assumption) | assumption)
                      have q233 : x20_2 < (l0_1.length : Int) := of_decide_eq_true (by first | (with_reducible assumption) | assumption)
                      obtain ⟨ad233, e233, hx233_0, hx233_1, hx233_2⟩ := at_T50 HR0_1.out x20_2 p233 q233
                      cases e233
                      replace hx233_0 := (HB.out.cell (World.block_lt_of_cell? w _ hx233_0)).trans hx233_0
                      replace hx233_1 := (HB.out.cell (World.block_lt_of_cell? w _ hx233_1)).trans hx233_1
                      replace hx233_2 := (HB.out.cell (World.block_lt_of_cell? w _ hx233_2)).trans hx233_2
                      replace p233 := eq_true p233
                      replace q233 := eq_true q233
                      go_wp2_with (first | ((with_reducible refine gate_dst (N := 4) rfl ?_); (try (refine gate_guard (by rfl) ?_; dsimp only)); refine box_event ?hg (N := 4) ?hd (cs := #[.int .i64 0, .int .i64 0, .int .i64 0]) (t := 50) ?hr ?_; (case hd => rfl); (case hg => rfl); (case hr => first | (go_simp; done) | (go_simp; rfl)); intro gb234 hg w17 hbox hb; have n0_ := Aside0.mk (blk_below (g := gb232) (o := .cells #[.int .i64 a0_0, .slice (some ad233) l0_1.length c0_1] 25 (0, 0)) (by (with_reducible repeat (first | refine blk_drewN ?_ _ | refine blk_drew ?_ | refine blk_alloc ?_ _)); exact BK232.out) hb); have n1_ := Aside0.mk (below_step (by repeat (first | (with_reducible first | exact HB.out | apply below_alloc | apply pw_below_drewN | apply below_drew1 | refine below_set ?_ GE232.out) | exact HB.out)) hb); have n2_ := Aside0.mk (hbox); have n3_ := Aside0.mk ((by rw [hg]; exact (below_size (by repeat (first | (with_reducible first | exact HB.out | apply below_alloc | apply pw_below_drewN | apply below_drew1 | refine below_set ?_ GE232.out) | exact HB.out))) : w.heap.size ≤ gb234)); have n4_ := Aside0.mk ((by rw [hg]; exact (below_size (by repeat (first | (with_reducible first | exact HB.out | apply below_alloc | apply pw_below_drewN | apply below_drew1 | refine below_set ?_ GE232.out) | exact HB.out))) : w.heap.size ≤ gb234)); have n5_ := Aside0.mk ((by rw [hg]; exact Nat.ne_of_lt (blk_lt (g := gb232) (o := .cells #[.int .i64 a0_0, .slice (some ad233) l0_1.length c0_1] 25 (0, 0)) (by (with_reducible repeat (first | refine blk_drewN ?_ _ | refine blk_drew ?_ | refine blk_alloc ?_ _)); exact BK232.out)) : gb232 ≠ gb234)); have n6_ := Aside0.mk ((by rw [hg]; exact Nat.ne_of_gt (blk_lt (g := gb232) (o := .cells #[.int .i64 a0_0, .slice (some ad233) l0_1.length c0_1] 25 (0, 0)) (by (with_reducible repeat (first | refine blk_drewN ?_ _ | refine blk_drew ?_ | refine blk_alloc ?_ _)); exact BK232.out)) : gb234 ≠ gb232)); clear BK232; clear HB; have BK232 := n0_; have HB := n1_; have BK234 := n2_; have GW234 := n3_; have GE234 := n4_; have NB232_234 := n5_; have NB234_232 := n6_; clear n0_ n1_ n2_ n3_ n4_ n5_ n6_; clear hb hbox hg; have hnb18 := NB234_232.out; have hnc18 := NB232_234.out; have hcz19_0 : w17.cell? ⟨gb234, 0, none⟩ = some (.int .i64 0) := (blk_cell BK234.out 0).trans rfl; have hcz19_1 : w17.cell? ⟨gb234, 1, none⟩ = some (.int .i64 0) := (blk_cell BK234.out 1).trans rfl; have hcz19_2 : w17.cell? ⟨gb234, 2, none⟩ = some (.int .i64 0) := (blk_cell BK234.out 2).trans rfl; have hfz19_0 := blk_frozen BK234.out 0; have hfz19_1 := blk_frozen BK234.out 1; have hfz19_2 := blk_frozen BK234.out 2))
                      go_ret
                      exact ⟨by first | rfl | (simp [errW_none, errW_some] <;> rfl) | (simp only [← hji14, ← hji15]; first | rfl | (simp [errW_none, errW_some] <;> rfl)) | (simp [*, errW_none, errW_some] <;> rfl), by repeat (first | (with_reducible first | exact HB.out | apply below_alloc | apply pw_below_drewN | apply below_drew1 | refine below_set ?_ GE232.out | refine below_set ?_ GE234.out) | exact HB.out)⟩
                    · rw [if_neg c16] at H
                      have c16b0 : decide ((ji15) < 0) = false := decide_eq_false c16
                      clear c16
                      obtain ⟨ji20, hji20⟩ : ∃ j_ : Int, (mx ((rd_T50 l0_1 x20_2).f0) ((rd_T50 l0_1 x20_2).f1)) = j_ := ⟨_, rfl⟩
                      replace H : (if (ji20) ≥ a0_0 then (some 2) else (if ((rd_T50 l0_1 x20_2).f2) > 2147483648 then (some 2) else (gr_Check.l0 k2 l0_1 (l0_1.length : Int) (wrap64 (x20_2 + 1)) a0_0 l0_1))) = some r := by first | (rw [hji20] at H; exact H) | (simp only [hji20] at H ⊢; exact H)
                      have hji20_ : (if ((rd_T50 l0_1 x20_2).f0) < ((rd_T50 l0_1 x20_2).f1) then ((rd_T50 l0_1 x20_2).f1) else ((rd_T50 l0_1 x20_2).f0)) = ji20 := hji20
                      by_cases c21 : (ji20) ≥ a0_0
                      · rw [if_pos c21] at H
                        have c21b0 : decide (a0_0 ≤ (ji20)) = true := decide_eq_true c21
                        clear c21
                        obtain rfl := Option.some.inj H
                        have p233 : 0 ≤ (x20_2 : Int) := of_decide_eq_true (by first | (with_reducible assumption) | assumption)
                        have q233 : x20_2 < (l0_1.length : Int) := of_decide_eq_true (by first | (with_reducible assumption) | assumption)
                        obtain ⟨ad233, e233, hx233_0, hx233_1, hx233_2⟩ := at_T50 HR0_1.out x20_2 p233 q233
                        cases e233
                        replace hx233_0 := (HB.out.cell (World.block_lt_of_cell? w _ hx233_0)).trans hx233_0
                        replace hx233_1 := (HB.out.cell (World.block_lt_of_cell? w _ hx233_1)).trans hx233_1
                        replace hx233_2 := (HB.out.cell (World.block_lt_of_cell? w _ hx233_2)).trans hx233_2
                        replace p233 := eq_true p233
                        replace q233 := eq_true q233
                        go_wp2_with (first | ((with_reducible refine gate_dst (N := 4) rfl ?_); (try (refine gate_guard (by rfl) ?_; dsimp only)); refine box_event ?hg (N := 4) ?hd (cs := #[.int .i64 0, .int .i64 0, .int .i64 0]) (t := 50) ?hr ?_; (case hd => rfl); (case hg => rfl); (case hr => first | (go_simp; done) | (go_simp; rfl)); intro gb234 hg w22 hbox hb; have n0_ := Aside0.mk (blk_below (g := gb232) (o := .cells #[.int .i64 a0_0, .slice (some ad233) l0_1.length c0_1] 25 (0, 0)) (by (with_reducible repeat (first | refine blk_drewN ?_ _ | refine blk_drew ?_ | refine blk_alloc ?_ _)); exact BK232.out) hb); have n1_ := Aside0.mk (below_step (by repeat (first | (with_reducible first | exact HB.out | apply below_alloc | apply pw_below_drewN | apply below_drew1 | refine below_set ?_ GE232.out) | exact HB.out)) hb); have n2_ := Aside0.mk (hbox); have n3_ := Aside0.mk ((by rw [hg]; exact (below_size (by repeat (first | (with_reducible first | exact HB.out | apply below_alloc | apply pw_below_drewN | apply below_drew1 | refine below_set ?_ GE232.out) | exact HB.out))) : w.heap.size ≤ gb234)); have n4_ := Aside0.mk ((by rw [hg]; exact (below_size (by repeat (first | (with_reducible first | exact HB.out | apply below_alloc | apply pw_below_drewN | apply below_drew1 | refine below_set ?_ GE232.out) | exact HB.out))) : w.heap.size ≤ gb234)); have n5_ := Aside0.mk ((by rw [hg]; exact Nat.ne_of_lt (blk_lt (g := gb232) (o := .cells #[.int .i64 a0_0, .slice (some ad233) l0_1.length c0_1] 25 (0, 0)) (by (with_reducible repeat (first | refine blk_drewN ?_ _ | refine blk_drew ?_ | refine blk_alloc ?_ _)); exact BK232.out)) : gb232 ≠ gb234)); have n6_ := Aside0.mk ((by rw [hg]; exact Nat.ne_of_gt (blk_lt (g := gb232) (o := .cells #[.int .i64 a0_0, .slice (some ad233) l0_1.length c0_1] 25 (0, 0)) (by (with_reducible repeat (first | refine blk_drewN ?_ _ | refine blk_drew ?_ | refine blk_alloc ?_ _)); exact BK232.out)) : gb234 ≠ gb232)); clear BK232; clear HB; have BK232 := n0_; have HB := n1_; have BK234 := n2_; have GW234 := n3_; have GE234 := n4_; have NB232_234 := n5_; have NB234_232 := n6_; clear n0_ n1_ n2_ n3_ n4_ n5_ n6_; clear hb hbox hg; have hnb23 := NB234_232.out; have hnc23 := NB232_234.out; have hcz24_0 : w22.cell? ⟨gb234, 0, none⟩ = some (.int .i64 0) := (blk_cell BK234.out 0).trans rfl; have hcz24_1 : w22.cell? ⟨gb234, 1, none⟩ = some (.int .i64 0) := (blk_cell BK234.out 1).trans rfl; have hcz24_2 : w22.cell? ⟨gb234, 2, none⟩ = some (.int .i64 0) := (blk_cell BK234.out 2).trans rfl; have hfz24_0 := blk_frozen BK234.out 0; have hfz24_1 := blk_frozen BK234.out 1; have hfz24_2 := blk_frozen BK234.out 2; have hcz25_0 : w22.cell? ⟨gb232, 0, none⟩ = some (.int .i64 a0_0) := (blk_cell BK232.out 0).trans rfl; have hcz25_1 : w22.cell? ⟨gb232, 1, none⟩ = some (.slice (some ad233) l0_1.length c0_1) := (blk_cell BK232.out 1).trans rfl; have hfz25_0 := blk_frozen BK232.out 0; have hfz25_1 := blk_frozen BK232.out 1))
                        go_ret
                        exact ⟨by first | rfl | (simp [errW_none, errW_some] <;> rfl) | (simp only [← hji14, ← hji15, ← hji20]; first | rfl | (simp [errW_none, errW_some] <;> rfl)) | (simp [*, errW_none, errW_some] <;> rfl), by repeat (first | (with_reducible first | exact HB.out | apply below_alloc | apply pw_below_drewN | apply below_drew1 | refine below_set ?_ GE232.out | refine below_set ?_ GE234.out) | exact HB.out)⟩
                      · rw [if_neg c21] at H
                        have c21b0 : decide (a0_0 ≤ (ji20)) = false := decide_eq_false c21
                        clear c21
                        by_cases c26 : ((rd_T50 l0_1 x20_2).f2) > 2147483648
                        · rw [if_pos c26] at H
                          have c26b0 : decide (2147483648 < ((rd_T50 l0_1 x20_2).f2)) = true := decide_eq_true c26
                          clear c26
                          obtain rfl := Option.some.inj H
                          have p233 : 0 ≤ (x20_2 : Int) := of_decide_eq_true (by first | (with_reducible assumption) | assumption)
                          have q233 : x20_2 < (l0_1.length : Int) := of_decide_eq_true (by first | (with_reducible assumption) | assumption)
                          obtain ⟨ad233, e233, hx233_0, hx233_1, hx233_2⟩ := at_T50 HR0_1.out x20_2 p233 q233
                          cases e233
                          replace hx233_0 := (HB.out.cell (World.block_lt_of_cell? w _ hx233_0)).trans hx233_0
                          replace hx233_1 := (HB.out.cell (World.block_lt_of_cell? w _ hx233_1)).trans hx233_1
                          replace hx233_2 := (HB.out.cell (World.block_lt_of_cell? w _ hx233_2)).trans hx233_2
                          replace p233 := eq_true p233
                          replace q233 := eq_true q233
                          go_wp2_with (first | ((with_reducible refine gate_dst (N := 4) rfl ?_); (try (refine gate_guard (by rfl) ?_; dsimp only)); refine box_event ?hg (N := 4) ?hd (cs := #[.int .i64 0, .int .i64 0, .int .i64 0]) (t := 50) ?hr ?_; (case hd => rfl); (case hg => rfl); (case hr => first | (go_simp; done) | (go_simp; rfl)); intro gb234 hg w27 hbox hb; have n0_ := Aside0.mk (blk_below (g := gb232) (o := .cells #[.int .i64 a0_0, .slice (some ad233) l0_1.length c0_1] 25 (0, 0)) (by (with_reducible repeat (first | refine blk_drewN ?_ _ | refine blk_drew ?_ | refine blk_alloc ?_ _)); exact BK232.out) hb); have n1_ := Aside0.mk (below_step (by repeat (first | (with_reducible first | exact HB.out | apply below_alloc | apply pw_below_drewN | apply below_drew1 | refine below_set ?_ GE232.out) | exact HB.out)) hb); have n2_ := Aside0.mk (hbox); have n3_ := Aside0.mk ((by rw [hg]; exact (below_size (by repeat (first | (with_reducible first | exact HB.out | apply below_alloc | apply pw_below_drewN | apply below_drew1 | refine below_set ?_ GE232.out) | exact HB.out))) : w.heap.size ≤ gb234)); have n4_ := Aside0.mk ((by rw [hg]; exact (below_size (by repeat (first | (with_reducible first | exact HB.out | apply below_alloc | apply pw_below_drewN | apply below_drew1 | refine below_set ?_ GE232.out) | exact HB.out))) : w.heap.size ≤ gb234)); have n5_ := Aside0.mk ((by rw [hg]; exact Nat.ne_of_lt (blk_lt (g := gb232) (o := .cells #[.int .i64 a0_0, .slice (some ad233) l0_1.length c0_1] 25 (0, 0)) (by (with_reducible repeat (first | refine blk_drewN ?_ _ | refine blk_drew ?_ | refine blk_alloc ?_ _)); exact BK232.out)) : gb232 ≠ gb234)); have n6_ := Aside0.mk ((by rw [hg]; exact Nat.ne_of_gt (blk_lt (g := gb232) (o := .cells #[.int .i64 a0_0, .slice (some ad233) l0_1.length c0_1] 25 (0, 0)) (by (with_reducible repeat (first | refine blk_drewN ?_ _ | refine blk_drew ?_ | refine blk_alloc ?_ _)); exact BK232.out)) : gb234 ≠ gb232)); clear BK232; clear HB; have BK232 := n0_; have HB := n1_; have BK234 := n2_; have GW234 := n3_; have GE234 := n4_; have NB232_234 := n5_; have NB234_232 := n6_; clear n0_ n1_ n2_ n3_ n4_ n5_ n6_; clear hb hbox hg; have hnb28 := NB234_232.out; have hnc28 := NB232_234.out; have hcz29_0 : w27.cell? ⟨gb234, 0, none⟩ = some (.int .i64 0) := (blk_cell BK234.out 0).trans rfl; have hcz29_1 : w27.cell? ⟨gb234, 1, none⟩ = some (.int .i64 0) := (blk_cell BK234.out 1).trans rfl; have hcz29_2 : w27.cell? ⟨gb234, 2, none⟩ = some (.int .i64 0) := (blk_cell BK234.out 2).trans rfl; have hfz29_0 := blk_frozen BK234.out 0; have hfz29_1 := blk_frozen BK234.out 1; have hfz29_2 := blk_frozen BK234.out 2; have hcz30_0 : w27.cell? ⟨gb232, 0, none⟩ = some (.int .i64 a0_0) := (blk_cell BK232.out 0).trans rfl; have hcz30_1 : w27.cell? ⟨gb232, 1, none⟩ = some (.slice (some ad233) l0_1.length c0_1) := (blk_cell BK232.out 1).trans rfl; have hfz30_0 := blk_frozen BK232.out 0; have hfz30_1 := blk_frozen BK232.out 1))
                          go_ret
                          exact ⟨by first | rfl | (simp [errW_none, errW_some] <;> rfl) | (simp only [← hji14, ← hji15, ← hji20]; first | rfl | (simp [errW_none, errW_some] <;> rfl)) | (simp [*, errW_none, errW_some] <;> rfl), by repeat (first | (with_reducible first | exact HB.out | apply below_alloc | apply pw_below_drewN | apply below_drew1 | refine below_set ?_ GE232.out | refine below_set ?_ GE234.out) | exact HB.out)⟩
                        · rw [if_neg c26] at H
                          have c26b0 : decide (2147483648 < ((rd_T50 l0_1 x20_2).f2)) = false := decide_eq_false c26
                          clear c26
                          have H' := Aside0.mk H
                          clear H
                          have p233 : 0 ≤ (x20_2 : Int) := of_decide_eq_true (by first | (with_reducible assumption) | assumption)
                          have q233 : x20_2 < (l0_1.length : Int) := of_decide_eq_true (by first | (with_reducible assumption) | assumption)
                          obtain ⟨ad233, e233, hx233_0, hx233_1, hx233_2⟩ := at_T50 HR0_1.out x20_2 p233 q233
                          cases e233
                          replace hx233_0 := (HB.out.cell (World.block_lt_of_cell? w _ hx233_0)).trans hx233_0
                          replace hx233_1 := (HB.out.cell (World.block_lt_of_cell? w _ hx233_1)).trans hx233_1
                          replace hx233_2 := (HB.out.cell (World.block_lt_of_cell? w _ hx233_2)).trans hx233_2
                          replace p233 := eq_true p233
                          replace q233 := eq_true q233
                          go_wp2_with (first | ((with_reducible refine gate_dst (N := 4) rfl ?_); (try (refine gate_guard (by rfl) ?_; dsimp only)); refine box_event ?hg (N := 4) ?hd (cs := #[.int .i64 0, .int .i64 0, .int .i64 0]) (t := 50) ?hr ?_; (case hd => rfl); (case hg => rfl); (case hr => first | (go_simp; done) | (go_simp; rfl)); intro gb234 hg w31 hbox hb; have n0_ := Aside0.mk (blk_below (g := gb232) (o := .cells #[.int .i64 a0_0, .slice (some ad233) l0_1.length c0_1] 25 (0, 0)) (by (with_reducible repeat (first | refine blk_drewN ?_ _ | refine blk_drew ?_ | refine blk_alloc ?_ _)); exact BK232.out) hb); have n1_ := Aside0.mk (below_step (by repeat (first | (with_reducible first | exact HB.out | apply below_alloc | apply pw_below_drewN | apply below_drew1 | refine below_set ?_ GE232.out) | exact HB.out)) hb); have n2_ := Aside0.mk (hbox); have n3_ := Aside0.mk ((by rw [hg]; exact (below_size (by repeat (first | (with_reducible first | exact HB.out | apply below_alloc | apply pw_below_drewN | apply below_drew1 | refine below_set ?_ GE232.out) | exact HB.out))) : w.heap.size ≤ gb234)); have n4_ := Aside0.mk ((by rw [hg]; exact (below_size (by repeat (first | (with_reducible first | exact HB.out | apply below_alloc | apply pw_below_drewN | apply below_drew1 | refine below_set ?_ GE232.out) | exact HB.out))) : w.heap.size ≤ gb234)); have n5_ := Aside0.mk ((by rw [hg]; exact Nat.ne_of_lt (blk_lt (g := gb232) (o := .cells #[.int .i64 a0_0, .slice (some ad233) l0_1.length c0_1] 25 (0, 0)) (by (with_reducible repeat (first | refine blk_drewN ?_ _ | refine blk_drew ?_ | refine blk_alloc ?_ _)); exact BK232.out)) : gb232 ≠ gb234)); have n6_ := Aside0.mk ((by rw [hg]; exact Nat.ne_of_gt (blk_lt (g := gb232) (o := .cells #[.int .i64 a0_0, .slice (some ad233) l0_1.length c0_1] 25 (0, 0)) (by (with_reducible repeat (first | refine blk_drewN ?_ _ | refine blk_drew ?_ | refine blk_alloc ?_ _)); exact BK232.out)) : gb234 ≠ gb232)); clear BK232; clear HB; have BK232 := n0_; have HB := n1_; have BK234 := n2_; have GW234 := n3_; have GE234 := n4_; have NB232_234 := n5_; have NB234_232 := n6_; clear n0_ n1_ n2_ n3_ n4_ n5_ n6_; clear hb hbox hg; have hnb32 := NB234_232.out; have hnc32 := NB232_234.out; have hcz33_0 : w31.cell? ⟨gb234, 0, none⟩ = some (.int .i64 0) := (blk_cell BK234.out 0).trans rfl; have hcz33_1 : w31.cell? ⟨gb234, 1, none⟩ = some (.int .i64 0) := (blk_cell BK234.out 1).trans rfl; have hcz33_2 : w31.cell? ⟨gb234, 2, none⟩ = some (.int .i64 0) := (blk_cell BK234.out 2).trans rfl; have hfz33_0 := blk_frozen BK234.out 0; have hfz33_1 := blk_frozen BK234.out 1; have hfz33_2 := blk_frozen BK234.out 2; have hcz34_0 : w31.cell? ⟨gb232, 0, none⟩ = some (.int .i64 a0_0) := (blk_cell BK232.out 0).trans rfl; have hcz34_1 : w31.cell? ⟨gb232, 1, none⟩ = some (.slice (some ad233) l0_1.length c0_1) := (blk_cell BK232.out 1).trans rfl; have hfz34_0 := blk_frozen BK232.out 0; have hfz34_1 := blk_frozen BK232.out 1))
                          go_roundg k2
                          case measure => have := HJ1.out; have := HK2.out; omega
                          case rel => exact ⟨(wrap64 (x20_2 + 1)), (by first | rfl | (simp; done) | (simp [*]; done)), H', ⟨by have := HJ1.out; have := HK2.out; omega⟩, ⟨by (with_reducible repeat (first | refine blk_drewN ?_ _ | refine blk_drew ?_ | refine blk_alloc ?_ _)); refine blk_far ?_ NB232_234.out _; (with_reducible repeat (first | refine blk_drewN ?_ _ | refine blk_drew ?_ | refine blk_alloc ?_ _)); refine blk_far ?_ NB232_234.out _; (with_reducible repeat (first | refine blk_drewN ?_ _ | refine blk_drew ?_ | refine blk_alloc ?_ _)); refine blk_far ?_ NB232_234.out _; (with_reducible repeat (first | refine blk_drewN ?_ _ | refine blk_drew ?_ | refine blk_alloc ?_ _)); exact BK232.out⟩, ⟨by repeat (first | (with_reducible first | exact HB.out | apply below_alloc | apply pw_below_drewN | apply below_drew1 | refine below_set ?_ GE232.out | refine below_set ?_ GE234.out) | exact HB.out)⟩⟩
                  · rw [if_neg c13] at H
                    exact absurd H (by simp)
                · rw [if_neg c12] at H
                  exact absurd H (by simp)
              · rw [if_neg c11] at H
                have c11b0 : decide (x20_2 < (l0_1.length : Int)) = false := decide_eq_false c11
                clear c11
                obtain rfl := Option.some.inj H
                go_wp2
                go_ret
                exact ⟨by first | rfl | (simp [errW_none, errW_some] <;> rfl) | (simp [*, errW_none, errW_some] <;> rfl), by repeat (first | (with_reducible first | exact HB.out | apply below_alloc | apply pw_below_drewN | apply below_drew1 | refine below_set ?_ GE232.out) | exact HB.out)⟩

end Go.Proofs.YtegikndkokemjaaDoor.PAll
