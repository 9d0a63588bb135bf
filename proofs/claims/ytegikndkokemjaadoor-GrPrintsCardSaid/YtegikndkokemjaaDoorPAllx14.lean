-- Out of a doctored print of this seat's translation, by a program (wip/gr/run.sh, doctor.py, post.py). Lean checks it.
import Derived.Test.YtegikndkokemjaaDoorPAllx0
import Derived.Test.YtegikndkokemjaaDoorPAllx9
import Derived.Test.YtegikndkokemjaaDoorPAllx12
namespace Go.Proofs.YtegikndkokemjaaDoor.PAll
open Go.RowKit Go.Proofs.YtegikndkokemjaaDoorW.PrintWords Go.Proofs.YtegikndkokemjaaDoorW.PrintLast Go.Proofs.YtegikndkokemjaaDoorW.PrintMore
attribute [local go_sem] max2_int min2_int max_two min_two max_three min_three max_four min_four   -- for this text's walks alone
set_option linter.unusedVariables false
set_option linter.unusedSimpArgs false

/-! ### postroadref05_Print: function 19 -/
def postroadref05_Print.l0 : Nat → ByteArray → Int → Int → List (S50) → Option (ByteArray × Int)
  | 0, _, _, _, _ => none
  | k + 1, x5, x6, x268000, x268001 => if x6 < (x268001.length : Int) then (if 0 ≤ x6 then (if x5.size + 2 ≤ 9223372036854775807 then ((postroadref05_Digits.f k (wrap64 (((rd_T50 x268001 x6).f0) + 1))).bind fun t273 => (if (x5 ++ (⟨#[97, 32]⟩ : ByteArray)).size + t273.size ≤ 9223372036854775807 then (if ((x5 ++ (⟨#[97, 32]⟩ : ByteArray)) ++ t273).size + 1 ≤ 9223372036854775807 then ((postroadref05_Digits.f k (wrap64 (((rd_T50 x268001 x6).f1) + 1))).bind fun t274 => (if (((x5 ++ (⟨#[97, 32]⟩ : ByteArray)) ++ t273) ++ (⟨#[32]⟩ : ByteArray)).size + t274.size ≤ 9223372036854775807 then (if ((((x5 ++ (⟨#[97, 32]⟩ : ByteArray)) ++ t273) ++ (⟨#[32]⟩ : ByteArray)) ++ t274).size + 1 ≤ 9223372036854775807 then ((postroadref05_Digits.f k ((rd_T50 x268001 x6).f2)).bind fun t275 => (if (((((x5 ++ (⟨#[97, 32]⟩ : ByteArray)) ++ t273) ++ (⟨#[32]⟩ : ByteArray)) ++ t274) ++ (⟨#[32]⟩ : ByteArray)).size + t275.size ≤ 9223372036854775807 then (if ((((((x5 ++ (⟨#[97, 32]⟩ : ByteArray)) ++ t273) ++ (⟨#[32]⟩ : ByteArray)) ++ t274) ++ (⟨#[32]⟩ : ByteArray)) ++ t275).size + 1 ≤ 9223372036854775807 then (postroadref05_Print.l0 k (((((((x5 ++ (⟨#[97, 32]⟩ : ByteArray)) ++ t273) ++ (⟨#[32]⟩ : ByteArray)) ++ t274) ++ (⟨#[32]⟩ : ByteArray)) ++ t275) ++ (⟨#[10]⟩ : ByteArray)) (wrap64 (x6 + 1)) x268000 x268001) else (none)) else (none))) else (none)) else (none))) else (none)) else (none))) else (none)) else (none)) else (some (x5, 0))
def postroadref05_Print.f (k : Nat) (a0_0 : Int) (l0_1 : List (S50)) : Option (ByteArray × Int) := (postroadref05_Check.f k a0_0 l0_1).bind fun t268 => (if t268 = 0 then ((postroadref05_Digits.f k a0_0).bind fun t269 => (if 5 + t269.size ≤ 9223372036854775807 then (if ((⟨#[112, 32, 115, 112, 32]⟩ : ByteArray) ++ t269).size + 1 ≤ 9223372036854775807 then ((postroadref05_Digits.f k (l0_1.length : Int)).bind fun t270 => (if (((⟨#[112, 32, 115, 112, 32]⟩ : ByteArray) ++ t269) ++ (⟨#[32]⟩ : ByteArray)).size + t270.size ≤ 9223372036854775807 then (if ((((⟨#[112, 32, 115, 112, 32]⟩ : ByteArray) ++ t269) ++ (⟨#[32]⟩ : ByteArray)) ++ t270).size + 1 ≤ 9223372036854775807 then (postroadref05_Print.l0 k (((((⟨#[112, 32, 115, 112, 32]⟩ : ByteArray) ++ t269) ++ (⟨#[32]⟩ : ByteArray)) ++ t270) ++ (⟨#[10]⟩ : ByteArray)) 0 a0_0 l0_1) else (none)) else (none))) else (none)) else (none))) else (some ((⟨#[]⟩ : ByteArray), t268)))
theorem postroadref05_Print.mono_l : ∀ k, (∀ y0 y1 y2 y3, LeO (postroadref05_Print.l0 k y0 y1 y2 y3) (postroadref05_Print.l0 (k + 1) y0 y1 y2 y3))
  | 0 => fun _ _ _ _ r h => by simp [postroadref05_Print.l0] at h
  | k + 1 => by
    have ih0 := postroadref05_Print.mono_l k
    · intro y0 y1 y2 y3
      unfold postroadref05_Print.l0
      repeat' first
      | (with_reducible exact ih0 _ _ _ _)
      | (with_reducible exact postroadref05_Check.mono _ _ _)
      | (with_reducible exact postroadref05_Digits.mono _ _)
      | (with_reducible exact LeO.refl _)
      | (with_reducible exact LeO.none _)
      | (with_reducible refine LeO.ite ?_ ?_)
      | (with_reducible refine LeO.bind ?_ (fun _ => ?_))
      | exact ih0 _ _ _ _
      | exact postroadref05_Check.mono _ _ _
      | exact postroadref05_Digits.mono _ _
      | exact LeO.none _
      | refine LeO.ite ?_ ?_
      | refine LeO.bind ?_ (fun _ => ?_)
theorem postroadref05_Print.mono : ∀ a0 a1 k, LeO (postroadref05_Print.f k a0 a1) (postroadref05_Print.f (k + 1) a0 a1) := by
  intro a0 a1 k
  have ih0 := postroadref05_Print.mono_l k
  unfold postroadref05_Print.f
  repeat' first
      | (with_reducible exact ih0 _ _ _ _)
      | (with_reducible exact postroadref05_Check.mono _ _ _)
      | (with_reducible exact postroadref05_Digits.mono _ _)
      | (with_reducible exact LeO.refl _)
      | (with_reducible exact LeO.none _)
      | (with_reducible refine LeO.ite ?_ ?_)
      | (with_reducible refine LeO.bind ?_ (fun _ => ?_))
      | exact ih0 _ _ _ _
      | exact postroadref05_Check.mono _ _ _
      | exact postroadref05_Digits.mono _ _
      | exact LeO.none _
      | refine LeO.ite ?_ ?_
      | refine LeO.bind ?_ (fun _ => ?_)
def postroadref05_Print.T4 : Bool × List (List Nat × List Nat) := (true, [([], []), ([0], [0]), ([1], [1]), ([2], [2]), ([3], [3]), ([], []), ([5], [5]), ([6], [6]), ([7, 2], [7]), ([4, 8], [4, 8]), ([9], [9]), ([10, 8, 0, 1, 2, 3, 4, 5, 6, 7, 8, 9, 10], [10])])
def postroadref05_Print.B4 : List Nat := [0, 1, 3, 7, 15, 0, 32, 96, 231, 511, 1023, 2047]
theorem postroadref05_Print.tab4 : rtab .any (opsOf Tryd.f19 4) = postroadref05_Print.T4 := by kernel_rfl
theorem postroadref05_Print.bits4 : waitsOk postroadref05_Print.T4.2 postroadref05_Print.B4 = true := by kernel_rfl
def postroadref05_Print.T9 : Bool × List (List Nat × List Nat) := (true, [([], []), ([0], [0]), ([], []), ([2], [2]), ([3], [3]), ([4], [4]), ([1, 5], [1, 5]), ([6], [6]), ([], []), ([8], [8]), ([9], [9]), ([10, 5], [10]), ([7, 11], [7, 11]), ([12], [12]), ([], []), ([14], [14]), ([15, 11], [15]), ([13, 16], [13, 16]), ([17], [17]), ([18, 16, 0, 1, 2, 3, 4, 5, 6, 7, 8, 9, 10, 11, 12, 13, 14, 15, 16, 17, 18], [0, 18])])
def postroadref05_Print.B9 : List Nat := [0, 1, 0, 4, 12, 28, 63, 127, 0, 256, 768, 1852, 4095, 8191, 0, 16384, 53052, 131071, 262143, 524287]
theorem postroadref05_Print.tab9 : rtab .any (opsOf Tryd.f19 9) = postroadref05_Print.T9 := by kernel_rfl
theorem postroadref05_Print.bits9 : waitsOk postroadref05_Print.T9.2 postroadref05_Print.B9 = true := by kernel_rfl
set_option maxHeartbeats 8000000 in
set_option maxRecDepth 100000 in
theorem postroadref05_Print.calls (k : Nat) (a0_0 : Int) (A0_1 : Option Addr) (c0_1 : Nat) (l0_1 : List (S50)) (r1 : ByteArray) (r2 : Int) (w : World) (hr0_1 : Kd.C k50 w A0_1 l0_1.length l0_1) (hc0_1 : l0_1.length ≤ c0_1) (h : postroadref05_Print.f k a0_0 l0_1 = some (r1, r2)) :
    Calls Tryd.prog 19 #[.agg #[.int .i64 a0_0, .slice A0_1 l0_1.length c0_1]] w fun e w' => e = .returned (.tuple #[.string r1, .int .i64 r2]) ∧ Below w.heap.size w w' := by
  have hu25 := Tryd.underlying25
  have hu50 := Tryd.underlying50
  have HR0_1 := Aside0.mk hr0_1
  have HC0_1 := Aside0.mk hc0_1
  clear hr0_1 hc0_1
  have HB := Aside0.mk (Below.refl w.heap.size w)
  have H : ((postroadref05_Check.f k a0_0 l0_1).bind fun t268 => (if t268 = 0 then ((postroadref05_Digits.f k a0_0).bind fun t269 => (if 5 + t269.size ≤ 9223372036854775807 then (if ((⟨#[112, 32, 115, 112, 32]⟩ : ByteArray) ++ t269).size + 1 ≤ 9223372036854775807 then ((postroadref05_Digits.f k (l0_1.length : Int)).bind fun t270 => (if (((⟨#[112, 32, 115, 112, 32]⟩ : ByteArray) ++ t269) ++ (⟨#[32]⟩ : ByteArray)).size + t270.size ≤ 9223372036854775807 then (if ((((⟨#[112, 32, 115, 112, 32]⟩ : ByteArray) ++ t269) ++ (⟨#[32]⟩ : ByteArray)) ++ t270).size + 1 ≤ 9223372036854775807 then (postroadref05_Print.l0 k (((((⟨#[112, 32, 115, 112, 32]⟩ : ByteArray) ++ t269) ++ (⟨#[32]⟩ : ByteArray)) ++ t270) ++ (⟨#[10]⟩ : ByteArray)) 0 a0_0 l0_1) else (none)) else (none))) else (none)) else (none))) else (some ((⟨#[]⟩ : ByteArray), t268)))) = some (r1, r2) := h
  clear h
  replace H := Option.bind_eq_some_iff.mp H
  obtain ⟨t268, A20, H⟩ := H
  replace H : (if t268 = 0 then ((postroadref05_Digits.f k a0_0).bind fun t269 => (if 5 + t269.size ≤ 9223372036854775807 then (if ((⟨#[112, 32, 115, 112, 32]⟩ : ByteArray) ++ t269).size + 1 ≤ 9223372036854775807 then ((postroadref05_Digits.f k (l0_1.length : Int)).bind fun t270 => (if (((⟨#[112, 32, 115, 112, 32]⟩ : ByteArray) ++ t269) ++ (⟨#[32]⟩ : ByteArray)).size + t270.size ≤ 9223372036854775807 then (if ((((⟨#[112, 32, 115, 112, 32]⟩ : ByteArray) ++ t269) ++ (⟨#[32]⟩ : ByteArray)) ++ t270).size + 1 ≤ 9223372036854775807 then (postroadref05_Print.l0 k (((((⟨#[112, 32, 115, 112, 32]⟩ : ByteArray) ++ t269) ++ (⟨#[32]⟩ : ByteArray)) ++ t270) ++ (⟨#[10]⟩ : ByteArray)) 0 a0_0 l0_1) else (none)) else (none))) else (none)) else (none))) else (some ((⟨#[]⟩ : ByteArray), t268))) = some (r1, r2) := H
  have A2 := Aside0.mk A20
  clear A20
  by_cases c3 : t268 = 0
  · rw [if_pos c3] at H
    have c3b0 : (t268 == 0) = true := beq_iff_eq.mpr c3
    have c3b1 : (t268 != 0) = false := bne_eq_false_iff_eq.mpr c3
    clear c3
    replace H := Option.bind_eq_some_iff.mp H
    obtain ⟨t269, A40, H⟩ := H
    replace H : (if 5 + t269.size ≤ 9223372036854775807 then (if ((⟨#[112, 32, 115, 112, 32]⟩ : ByteArray) ++ t269).size + 1 ≤ 9223372036854775807 then ((postroadref05_Digits.f k (l0_1.length : Int)).bind fun t270 => (if (((⟨#[112, 32, 115, 112, 32]⟩ : ByteArray) ++ t269) ++ (⟨#[32]⟩ : ByteArray)).size + t270.size ≤ 9223372036854775807 then (if ((((⟨#[112, 32, 115, 112, 32]⟩ : ByteArray) ++ t269) ++ (⟨#[32]⟩ : ByteArray)) ++ t270).size + 1 ≤ 9223372036854775807 then (postroadref05_Print.l0 k (((((⟨#[112, 32, 115, 112, 32]⟩ : ByteArray) ++ t269) ++ (⟨#[32]⟩ : ByteArray)) ++ t270) ++ (⟨#[10]⟩ : ByteArray)) 0 a0_0 l0_1) else (none)) else (none))) else (none)) else (none)) = some (r1, r2) := H
    have A4 := Aside0.mk A40
    clear A40
    by_cases c5 : 5 + t269.size ≤ 9223372036854775807
    · rw [if_pos c5] at H
      have c5b0 := eq_true c5
      have c5b1 : decide (5 + t269.size ≤ 9223372036854775807) = true := decide_eq_true c5
      try have c5b2 : (9223372036854775807 < 5 + t269.size) = False := eq_false (Nat.not_lt.2 c5)
      by_cases c6 : ((⟨#[112, 32, 115, 112, 32]⟩ : ByteArray) ++ t269).size + 1 ≤ 9223372036854775807
      · rw [if_pos c6] at H
        have c6b0 := eq_true c6
        have c6b1 : decide (((⟨#[112, 32, 115, 112, 32]⟩ : ByteArray) ++ t269).size + 1 ≤ 9223372036854775807) = true := decide_eq_true c6
        try have c6b2 : (9223372036854775807 < ((⟨#[112, 32, 115, 112, 32]⟩ : ByteArray) ++ t269).size + 1) = False := eq_false (Nat.not_lt.2 c6)
        try (have c6b2b9s := c6b2; conv at c6b2b9s => (lhs; rhs; simp [show ∀ (x : UInt8) (l : List UInt8), (ByteArray.mk (x :: l).toArray).size = l.length + 1 from fun _ _ => rfl]))
        replace H := Option.bind_eq_some_iff.mp H
        obtain ⟨t270, A70, H⟩ := H
        replace H : (if (((⟨#[112, 32, 115, 112, 32]⟩ : ByteArray) ++ t269) ++ (⟨#[32]⟩ : ByteArray)).size + t270.size ≤ 9223372036854775807 then (if ((((⟨#[112, 32, 115, 112, 32]⟩ : ByteArray) ++ t269) ++ (⟨#[32]⟩ : ByteArray)) ++ t270).size + 1 ≤ 9223372036854775807 then (postroadref05_Print.l0 k (((((⟨#[112, 32, 115, 112, 32]⟩ : ByteArray) ++ t269) ++ (⟨#[32]⟩ : ByteArray)) ++ t270) ++ (⟨#[10]⟩ : ByteArray)) 0 a0_0 l0_1) else (none)) else (none)) = some (r1, r2) := H
        have A7 := Aside0.mk A70
        clear A70
        by_cases c8 : (((⟨#[112, 32, 115, 112, 32]⟩ : ByteArray) ++ t269) ++ (⟨#[32]⟩ : ByteArray)).size + t270.size ≤ 9223372036854775807
        · rw [if_pos c8] at H
          have c8b0 := eq_true c8
          have c8b1 : decide ((((⟨#[112, 32, 115, 112, 32]⟩ : ByteArray) ++ t269) ++ (⟨#[32]⟩ : ByteArray)).size + t270.size ≤ 9223372036854775807) = true := decide_eq_true c8
          try have c8b2 : (9223372036854775807 < (((⟨#[112, 32, 115, 112, 32]⟩ : ByteArray) ++ t269) ++ (⟨#[32]⟩ : ByteArray)).size + t270.size) = False := eq_false (Nat.not_lt.2 c8)
          try (have c8b2b9s := c8b2; conv at c8b2b9s => (lhs; rhs; simp [show ∀ (x : UInt8) (l : List UInt8), (ByteArray.mk (x :: l).toArray).size = l.length + 1 from fun _ _ => rfl]))
          by_cases c9 : ((((⟨#[112, 32, 115, 112, 32]⟩ : ByteArray) ++ t269) ++ (⟨#[32]⟩ : ByteArray)) ++ t270).size + 1 ≤ 9223372036854775807
          · rw [if_pos c9] at H
            have c9b0 := eq_true c9
            have c9b1 : decide (((((⟨#[112, 32, 115, 112, 32]⟩ : ByteArray) ++ t269) ++ (⟨#[32]⟩ : ByteArray)) ++ t270).size + 1 ≤ 9223372036854775807) = true := decide_eq_true c9
            try have c9b2 : (9223372036854775807 < ((((⟨#[112, 32, 115, 112, 32]⟩ : ByteArray) ++ t269) ++ (⟨#[32]⟩ : ByteArray)) ++ t270).size + 1) = False := eq_false (Nat.not_lt.2 c9)
            try (have c9b2b9s := c9b2; conv at c9b2b9s => (lhs; rhs; simp [show ∀ (x : UInt8) (l : List UInt8), (ByteArray.mk (x :: l).toArray).size = l.length + 1 from fun _ _ => rfl]))
            have H' := Aside0.mk H
            clear H
            go_enter Tryd.func19, Tryd.ntmps19
            try go_wp2_with (first | ((with_reducible refine gate_dst (N := 1) rfl ?_); refine box_event ?hg (N := 1) ?hd (cs := #[.int .i64 a0_0, .slice A0_1 l0_1.length c0_1]) (t := 25) ?hr ?_; (case hd => rfl); (case hg => rfl); (case hr => first | (go_simp; done) | (go_simp; rfl)); intro gb267 hg w10 hbox hb; have n0_ := Aside0.mk (below_step (by repeat (first | (with_reducible first | exact HB.out | apply below_alloc | apply pw_below_drewN | apply below_drew1) | exact HB.out)) hb); have n1_ := Aside0.mk (hbox); have n2_ := Aside0.mk ((by rw [hg]; exact (below_size (by repeat (first | (with_reducible first | exact HB.out | apply below_alloc | apply pw_below_drewN | apply below_drew1) | exact HB.out))) : w.heap.size ≤ gb267)); have n3_ := Aside0.mk ((by rw [hg]; exact (below_size (by repeat (first | (with_reducible first | exact HB.out | apply below_alloc | apply pw_below_drewN | apply below_drew1) | exact HB.out))) : w.heap.size ≤ gb267)); clear HB; have HB := n0_; have BK267 := n1_; have GW267 := n2_; have GE267 := n3_; clear n0_ n1_ n2_ n3_; clear hb hbox hg; have hcz11_0 : w10.cell? ⟨gb267, 0, none⟩ = some (.int .i64 a0_0) := (blk_cell BK267.out 0).trans rfl; have hcz11_1 : w10.cell? ⟨gb267, 1, none⟩ = some (.slice A0_1 l0_1.length c0_1) := (blk_cell BK267.out 1).trans rfl; have hfz11_0 := blk_frozen BK267.out 0; have hfz11_1 := blk_frozen BK267.out 1) | ((with_reducible refine gate_callee (f := 21) rfl ?_); refine goesL_ (some 9) rfl rfl Tryd.func21 (by kernel_rfl) rfl #[.agg #[.int .i64 a0_0, .slice A0_1 l0_1.length c0_1]] rfl (by (try simp only [List.map_toArray, List.map_cons, List.map_nil]); first | done | rfl | (simp only [List.length_drop, List.length_take]; rfl)) ?_; (with_reducible refine (postroadref05_Check.calls k a0_0 _ _ l0_1 t268 _ ?side1 ?side2 A2.out).mono ?_); (case side1 => repeat (first | exact (Kd.C_below HR0_1.out HB.out) | (with_reducible refine Kd.C_alloc ?_ _) | (with_reducible refine Kd.C_drewN ?_ _) | (with_reducible refine Kd.C_drew ?_))); (case side2 => exact HC0_1.out); rintro e w12 ⟨rfl, hb⟩; refine ⟨_, rfl, ?_⟩; have n0_ := Aside0.mk (blk_below (g := gb267) (o := .cells #[.int .i64 a0_0, .slice A0_1 l0_1.length c0_1] 25 (0, 0)) (by (with_reducible repeat (first | refine blk_drewN ?_ _ | refine blk_drew ?_ | refine blk_alloc ?_ _)); exact BK267.out) hb); have n1_ := Aside0.mk (below_step (by repeat (first | (with_reducible first | exact HB.out | apply below_alloc | apply pw_below_drewN | apply below_drew1 | refine below_set ?_ GE267.out) | exact HB.out)) hb); clear BK267; clear HB; have BK267 := n0_; have HB := n1_; clear n0_ n1_; (try clear hb); (try clear hb2); (try clear hk); (try clear hi)))
            have n0_ := Aside0.mk (blk_drew BK267.out)
            have n1_ := Aside0.mk (below_drew1 HB.out)
            clear BK267
            clear HB
            have BK267 := n0_
            have HB := n1_
            clear n0_ n1_
            refine start_ (n := 12) (S := fun w' => w'.cell? ⟨gb267, 0, none⟩ = some (.int .i64 a0_0) ∧ w'.cell? ⟨gb267, 1, none⟩ = some (.slice A0_1 l0_1.length c0_1)) (ds := []) #[false, false, false, false, false, false, false, false, false, false, false, false] (by kernel_rfl) rfl rfl ⟨(blk_cell BK267.out 0).trans rfl, (blk_cell BK267.out 1).trans rfl⟩ (fun hHeld => ?_); refine with_tabW postroadref05_Print.tab4 postroadref05_Print.bits4 (fun HT_ HW_ => ?_)
            generalize w12.drew = w13 at BK267 HB hHeld ⊢
            refine pure_ (i := 0) (N := some 13) (v := ?_) (a' := ?_) #[true, false, false, false, false, false, false, false, false, false, false, false] rfl rfl (any_of HT_.out (by kernel_rfl)) (fun _ _ _ h => h) (Or.inl ⟨by rfl, ?_⟩) ?_ ?_
            rotate_left
            · intro w'
              go_simp
              with_reducible rfl
            rotate_left
            · simp only [Act.put, List.setIfInBounds_toArray, List.set_cons_zero, List.set_cons_succ, i64_w, i32_w]
              rfl
            refine pure_ (i := 5) (N := some 18) (v := ?_) (a' := ?_) #[true, false, false, false, false, true, false, false, false, false, false, false] rfl rfl (any_of HT_.out (by kernel_rfl)) (fun _ _ _ h => h) (Or.inl ⟨by rfl, ?_⟩) ?_ ?_
            rotate_left
            · intro w'
              go_simp
              with_reducible rfl
            rotate_left
            · simp only [Act.put, List.setIfInBounds_toArray, List.set_cons_zero, List.set_cons_succ, i64_w, i32_w]
              rfl
            refine take_ (i := 1) (N := some 14) (v := ?_) (a' := ?_) #[true, true, false, false, false, true, false, false, false, false, false, false] rfl rfl (take_ofW HT_.out HW_.out (by kernel_rfl)) (fun _ _ _ h => h) (Or.inl ⟨by rfl, ?_⟩) hHeld ?_ ?_
            rotate_left
            · rintro w' ⟨s0, s1⟩
              go_simp
              with_reducible rfl
            rotate_left
            · simp only [Act.put, List.setIfInBounds_toArray, List.set_cons_zero, List.set_cons_succ, i64_w, i32_w]
              rfl
            refine take_ (i := 6) (N := some 19) (v := ?_) (a' := ?_) #[true, true, false, false, false, true, true, false, false, false, false, false] rfl rfl (take_ofW HT_.out HW_.out (by kernel_rfl)) (fun _ _ _ h => h) (Or.inl ⟨by rfl, ?_⟩) hHeld ?_ ?_
            rotate_left
            · rintro w' ⟨s0, s1⟩
              go_simp
              with_reducible rfl
            rotate_left
            · simp only [Act.put, List.setIfInBounds_toArray, List.set_cons_zero, List.set_cons_succ, i64_w, i32_w]
              rfl
            refine pure_ (i := 7) (N := some 20) (v := ?_) (a' := ?_) #[true, true, false, false, false, true, true, true, false, false, false, false] rfl rfl (any_of HT_.out (by kernel_rfl)) (fun _ _ _ h => h) (Or.inl ⟨by rfl, ?_⟩) ?_ ?_
            rotate_left
            · intro w'
              go_simp
              with_reducible rfl
            rotate_left
            · simp only [Act.put, List.setIfInBounds_toArray, List.set_cons_zero, List.set_cons_succ, i64_w, i32_w]
              rfl
            refine one_ (i := 2) (N := some 15) #[true, true, true, false, false, true, true, true, false, false, false, false] rfl rfl (one_of HT_.out (by kernel_rfl)) (by decide) (fun K hK => ?_)
            refine goes_ Tryd.func15 (by kernel_rfl) rfl #[.int .i64 a0_0] (by rfl) rfl rfl (by (try simp only [List.map_toArray, List.map_cons, List.map_nil]); first | done | rfl | (simp only [List.length_drop, List.length_take]; rfl)) ?_
            with_reducible refine (postroadref05_Digits.calls k a0_0 t269 _ A4.out).mono ?_
            rintro e w14 ⟨rfl, hb⟩
            refine ⟨_, rfl, ?_⟩
            have n0_ := Aside0.mk (blk_below (g := gb267) (o := .cells #[.int .i64 a0_0, .slice A0_1 l0_1.length c0_1] 25 (0, 0)) (by (with_reducible repeat (first | refine blk_drewN ?_ _ | refine blk_drew ?_ | refine blk_alloc ?_ _)); exact BK267.out) hb)
            have n1_ := Aside0.mk (below_step (by repeat (first | (with_reducible first | exact HB.out | apply below_alloc | apply pw_below_drewN | apply below_drew1 | refine below_set ?_ GE267.out) | exact HB.out)) hb)
            clear BK267
            clear HB
            have BK267 := n0_
            have HB := n1_
            clear n0_ n1_
            (try clear hb)
            (try clear hb2)
            (try clear hk)
            (try clear hi)
            refine hK.out _ _ ⟨(blk_cell BK267.out 0).trans rfl, (blk_cell BK267.out 1).trans rfl⟩ (fun hHeld => ?_)
            clear hK K
            refine norm_ (a' := ?_) ?_ ?_
            rotate_left
            · show Act.put _ (some 15) _ = _
              simp only [Act.put, List.setIfInBounds_toArray, List.set_cons_zero, List.set_cons_succ, i64_w, i32_w]
              rfl
            refine pure_ (i := 3) (N := some 16) (v := ?_) (a' := ?_) #[true, true, true, true, false, true, true, true, false, false, false, false] rfl rfl (any_of HT_.out (by kernel_rfl)) (fun _ _ _ h => h) (Or.inl ⟨by rfl, ?_⟩) ?_ ?_
            rotate_left
            · intro w'
              go_simp
              with_reducible rfl
            rotate_left
            · simp only [Act.put, List.setIfInBounds_toArray, List.set_cons_zero, List.set_cons_succ, i64_w, i32_w]
              rfl
            refine pure_ (i := 4) (N := some 17) (v := ?_) (a' := ?_) #[true, true, true, true, true, true, true, true, false, false, false, false] rfl rfl (any_of HT_.out (by kernel_rfl)) (fun _ _ _ h => h) (Or.inl ⟨by rfl, ?_⟩) ?_ ?_
            rotate_left
            · intro w'
              go_simp
              with_reducible rfl
            rotate_left
            · simp only [Act.put, List.setIfInBounds_toArray, List.set_cons_zero, List.set_cons_succ, i64_w, i32_w]
              rfl
            refine one_ (i := 8) (N := some 21) #[true, true, true, true, true, true, true, true, true, false, false, false] rfl rfl (one_of HT_.out (by kernel_rfl)) (by decide) (fun K hK => ?_)
            refine goes_ Tryd.func15 (by kernel_rfl) rfl #[.int .i64 (l0_1.length : Int)] (by rfl) rfl rfl (by (try simp only [List.map_toArray, List.map_cons, List.map_nil]); first | done | rfl | (simp only [List.length_drop, List.length_take]; rfl)) ?_
            with_reducible refine (postroadref05_Digits.calls k (l0_1.length : Int) t270 _ A7.out).mono ?_
            rintro e w15 ⟨rfl, hb⟩
            refine ⟨_, rfl, ?_⟩
            have n0_ := Aside0.mk (blk_below (g := gb267) (o := .cells #[.int .i64 a0_0, .slice A0_1 l0_1.length c0_1] 25 (0, 0)) (by (with_reducible repeat (first | refine blk_drewN ?_ _ | refine blk_drew ?_ | refine blk_alloc ?_ _)); exact BK267.out) hb)
            have n1_ := Aside0.mk (below_step (by repeat (first | (with_reducible first | exact HB.out | apply below_alloc | apply pw_below_drewN | apply below_drew1 | refine below_set ?_ GE267.out) | exact HB.out)) hb)
            clear BK267
            clear HB
            have BK267 := n0_
            have HB := n1_
            clear n0_ n1_
            (try clear hb)
            (try clear hb2)
            (try clear hk)
            (try clear hi)
            refine hK.out _ _ ⟨(blk_cell BK267.out 0).trans rfl, (blk_cell BK267.out 1).trans rfl⟩ (fun hHeld => ?_)
            clear hK K
            refine norm_ (a' := ?_) ?_ ?_
            rotate_left
            · show Act.put _ (some 21) _ = _
              simp only [Act.put, List.setIfInBounds_toArray, List.set_cons_zero, List.set_cons_succ, i64_w, i32_w]
              rfl
            refine pure_ (i := 9) (N := some 22) (v := ?_) (a' := ?_) #[true, true, true, true, true, true, true, true, true, true, false, false] rfl rfl (any_of HT_.out (by kernel_rfl)) (fun _ _ _ h => h) (Or.inl ⟨by rfl, ?_⟩) ?_ ?_
            rotate_left
            · intro w'
              go_simp
              with_reducible rfl
            rotate_left
            · simp only [Act.put, List.setIfInBounds_toArray, List.set_cons_zero, List.set_cons_succ, i64_w, i32_w]
              rfl
            refine pure_ (i := 10) (N := some 23) (v := ?_) (a' := ?_) #[true, true, true, true, true, true, true, true, true, true, true, false] rfl rfl (any_of HT_.out (by kernel_rfl)) (fun _ _ _ h => h) (Or.inl ⟨by rfl, ?_⟩) ?_ ?_
            rotate_left
            · intro w'
              go_simp
              with_reducible rfl
            rotate_left
            · simp only [Act.put, List.setIfInBounds_toArray, List.set_cons_zero, List.set_cons_succ, i64_w, i32_w]
              rfl
            refine pure_ (i := 11) (N := some 5) (v := ?_) (a' := ?_) #[true, true, true, true, true, true, true, true, true, true, true, true] rfl rfl (any_of HT_.out (by kernel_rfl)) (fun _ _ _ h => h) (Or.inl ⟨by rfl, ?_⟩) ?_ ?_
            rotate_left
            · intro w'
              go_simp
              with_reducible rfl
            rotate_left
            · simp only [Act.put, List.setIfInBounds_toArray, List.set_cons_zero, List.set_cons_succ, i64_w, i32_w]
              rfl
            refine done_ (done_of HT_.out (by kernel_rfl)) ?_
            try go_wp2
            go_loopg [5, 6] k (fun kq v5 v6 w' => ∃ (x5_1 : ByteArray) (x6_1 : Int), v5 = .string x5_1 ∧ v6 = .int .i64 x6_1 ∧ Aside0 (postroadref05_Print.l0 kq x5_1 x6_1 a0_0 l0_1 = some (r1, r2)) ∧ Aside0 (kq ≤ k) ∧ Aside0 (w'.heap[gb267]? = some (.cells #[.int .i64 a0_0, (.slice A0_1 l0_1.length c0_1)] 25 (0, 0))) ∧ Aside0 (Below w.heap.size w w'))
            case atStart => exact ⟨(((((⟨#[112, 32, 115, 112, 32]⟩ : ByteArray) ++ t269) ++ (⟨#[32]⟩ : ByteArray)) ++ t270) ++ (⟨#[10]⟩ : ByteArray)), (0), (by first | rfl | (simp; done) | (simp [*]; done)), (by first | rfl | (simp; done) | (simp [*]; done)), H', ⟨Nat.le_refl _⟩, ⟨by (with_reducible repeat (first | refine blk_drewN ?_ _ | refine blk_drew ?_ | refine blk_alloc ?_ _)); exact BK267.out⟩, ⟨by repeat (first | (with_reducible first | exact HB.out | apply below_alloc | apply pw_below_drewN | apply below_drew1 | refine below_set ?_ GE267.out) | exact HB.out)⟩⟩
            case round =>
              clear H'
              try clear c1
              try clear c2
              try clear p2
              try clear c3
              try clear c3b0
              try clear c3b1
              try clear c5
              try clear c5b0
              try clear c5b1
              try clear c5b2
              try clear c6
              try clear c6b0
              try clear c6b1
              try clear c6b2
              try clear c8
              try clear c8b0
              try clear c8b1
              try clear c8b2
              try clear c9
              try clear c9b0
              try clear c9b1
              try clear c9b2
              try clear c15
              try clear hcz11_0
              try clear hcz11_1
              try clear hfz11_0
              try clear hfz11_1
              obtain ⟨x5_1, x6_1, rfl, rfl, HA, HK1, BK267, HB⟩ := hrel
              cases gk with
              | zero => exact absurd HA.out (by simp [postroadref05_Print.l0])
              | succ k1 =>
                have H := HA.out
                clear HA
                simp only [postroadref05_Print.l0] at H
                by_cases c16 : x6_1 < (l0_1.length : Int)
                · rw [if_pos c16] at H
                  have c16b0 : decide (x6_1 < (l0_1.length : Int)) = true := decide_eq_true c16
                  clear c16
                  by_cases c17 : 0 ≤ x6_1
                  · rw [if_pos c17] at H
                    have c17b0 : decide (0 ≤ x6_1) = true := decide_eq_true c17
                    clear c17
                    by_cases c18 : x5_1.size + 2 ≤ 9223372036854775807
                    · rw [if_pos c18] at H
                      have c18b0 := eq_true c18
                      have c18b1 : decide (x5_1.size + 2 ≤ 9223372036854775807) = true := decide_eq_true c18
                      try have c18b2 : (9223372036854775807 < x5_1.size + 2) = False := eq_false (Nat.not_lt.2 c18)
                      replace H := Option.bind_eq_some_iff.mp H
                      obtain ⟨t273, A190, H⟩ := H
                      replace H : (if (x5_1 ++ (⟨#[97, 32]⟩ : ByteArray)).size + t273.size ≤ 9223372036854775807 then (if ((x5_1 ++ (⟨#[97, 32]⟩ : ByteArray)) ++ t273).size + 1 ≤ 9223372036854775807 then ((postroadref05_Digits.f k1 (wrap64 (((rd_T50 l0_1 x6_1).f1) + 1))).bind fun t274 => (if (((x5_1 ++ (⟨#[97, 32]⟩ : ByteArray)) ++ t273) ++ (⟨#[32]⟩ : ByteArray)).size + t274.size ≤ 9223372036854775807 then (if ((((x5_1 ++ (⟨#[97, 32]⟩ : ByteArray)) ++ t273) ++ (⟨#[32]⟩ : ByteArray)) ++ t274).size + 1 ≤ 9223372036854775807 then ((postroadref05_Digits.f k1 ((rd_T50 l0_1 x6_1).f2)).bind fun t275 => (if (((((x5_1 ++ (⟨#[97, 32]⟩ : ByteArray)) ++ t273) ++ (⟨#[32]⟩ : ByteArray)) ++ t274) ++ (⟨#[32]⟩ : ByteArray)).size + t275.size ≤ 9223372036854775807 then (if ((((((x5_1 ++ (⟨#[97, 32]⟩ : ByteArray)) ++ t273) ++ (⟨#[32]⟩ : ByteArray)) ++ t274) ++ (⟨#[32]⟩ : ByteArray)) ++ t275).size + 1 ≤ 9223372036854775807 then (postroadref05_Print.l0 k1 (((((((x5_1 ++ (⟨#[97, 32]⟩ : ByteArray)) ++ t273) ++ (⟨#[32]⟩ : ByteArray)) ++ t274) ++ (⟨#[32]⟩ : ByteArray)) ++ t275) ++ (⟨#[10]⟩ : ByteArray)) (wrap64 (x6_1 + 1)) a0_0 l0_1) else (none)) else (none))) else (none)) else (none))) else (none)) else (none)) = some (r1, r2) := H
                      have A19 := Aside0.mk A190
                      clear A190
                      by_cases c20 : (x5_1 ++ (⟨#[97, 32]⟩ : ByteArray)).size + t273.size ≤ 9223372036854775807
                      · rw [if_pos c20] at H
                        have c20b0 := eq_true c20
                        have c20b1 : decide ((x5_1 ++ (⟨#[97, 32]⟩ : ByteArray)).size + t273.size ≤ 9223372036854775807) = true := decide_eq_true c20
                        try have c20b2 : (9223372036854775807 < (x5_1 ++ (⟨#[97, 32]⟩ : ByteArray)).size + t273.size) = False := eq_false (Nat.not_lt.2 c20)
                        try (have c20b2b9s := c20b2; conv at c20b2b9s => (lhs; rhs; simp [show ∀ (x : UInt8) (l : List UInt8), (ByteArray.mk (x :: l).toArray).size = l.length + 1 from fun _ _ => rfl]))
                        by_cases c21 : ((x5_1 ++ (⟨#[97, 32]⟩ : ByteArray)) ++ t273).size + 1 ≤ 9223372036854775807
                        · rw [if_pos c21] at H
                          have c21b0 := eq_true c21
                          have c21b1 : decide (((x5_1 ++ (⟨#[97, 32]⟩ : ByteArray)) ++ t273).size + 1 ≤ 9223372036854775807) = true := decide_eq_true c21
                          try have c21b2 : (9223372036854775807 < ((x5_1 ++ (⟨#[97, 32]⟩ : ByteArray)) ++ t273).size + 1) = False := eq_false (Nat.not_lt.2 c21)
                          try (have c21b2b9s := c21b2; conv at c21b2b9s => (lhs; rhs; simp [show ∀ (x : UInt8) (l : List UInt8), (ByteArray.mk (x :: l).toArray).size = l.length + 1 from fun _ _ => rfl]))
                          replace H := Option.bind_eq_some_iff.mp H
                          obtain ⟨t274, A220, H⟩ := H
                          replace H : (if (((x5_1 ++ (⟨#[97, 32]⟩ : ByteArray)) ++ t273) ++ (⟨#[32]⟩ : ByteArray)).size + t274.size ≤ 9223372036854775807 then (if ((((x5_1 ++ (⟨#[97, 32]⟩ : ByteArray)) ++ t273) ++ (⟨#[32]⟩ : ByteArray)) ++ t274).size + 1 ≤ 9223372036854775807 then ((postroadref05_Digits.f k1 ((rd_T50 l0_1 x6_1).f2)).bind fun t275 => (if (((((x5_1 ++ (⟨#[97, 32]⟩ : ByteArray)) ++ t273) ++ (⟨#[32]⟩ : ByteArray)) ++ t274) ++ (⟨#[32]⟩ : ByteArray)).size + t275.size ≤ 9223372036854775807 then (if ((((((x5_1 ++ (⟨#[97, 32]⟩ : ByteArray)) ++ t273) ++ (⟨#[32]⟩ : ByteArray)) ++ t274) ++ (⟨#[32]⟩ : ByteArray)) ++ t275).size + 1 ≤ 9223372036854775807 then (postroadref05_Print.l0 k1 (((((((x5_1 ++ (⟨#[97, 32]⟩ : ByteArray)) ++ t273) ++ (⟨#[32]⟩ : ByteArray)) ++ t274) ++ (⟨#[32]⟩ : ByteArray)) ++ t275) ++ (⟨#[10]⟩ : ByteArray)) (wrap64 (x6_1 + 1)) a0_0 l0_1) else (none)) else (none))) else (none)) else (none)) = some (r1, r2) := H
                          have A22 := Aside0.mk A220
                          clear A220
                          by_cases c23 : (((x5_1 ++ (⟨#[97, 32]⟩ : ByteArray)) ++ t273) ++ (⟨#[32]⟩ : ByteArray)).size + t274.size ≤ 9223372036854775807
                          · rw [if_pos c23] at H
                            have c23b0 := eq_true c23
                            have c23b1 : decide ((((x5_1 ++ (⟨#[97, 32]⟩ : ByteArray)) ++ t273) ++ (⟨#[32]⟩ : ByteArray)).size + t274.size ≤ 9223372036854775807) = true := decide_eq_true c23
                            try have c23b2 : (9223372036854775807 < (((x5_1 ++ (⟨#[97, 32]⟩ : ByteArray)) ++ t273) ++ (⟨#[32]⟩ : ByteArray)).size + t274.size) = False := eq_false (Nat.not_lt.2 c23)
                            try (have c23b2b9s := c23b2; conv at c23b2b9s => (lhs; rhs; simp [show ∀ (x : UInt8) (l : List UInt8), (ByteArray.mk (x :: l).toArray).size = l.length + 1 from fun _ _ => rfl]))
                            by_cases c24 : ((((x5_1 ++ (⟨#[97, 32]⟩ : ByteArray)) ++ t273) ++ (⟨#[32]⟩ : ByteArray)) ++ t274).size + 1 ≤ 9223372036854775807
                            · rw [if_pos c24] at H
                              have c24b0 := eq_true c24
                              have c24b1 : decide (((((x5_1 ++ (⟨#[97, 32]⟩ : ByteArray)) ++ t273) ++ (⟨#[32]⟩ : ByteArray)) ++ t274).size + 1 ≤ 9223372036854775807) = true := decide_eq_true c24
                              try have c24b2 : (9223372036854775807 < ((((x5_1 ++ (⟨#[97, 32]⟩ : ByteArray)) ++ t273) ++ (⟨#[32]⟩ : ByteArray)) ++ t274).size + 1) = False := eq_false (Nat.not_lt.2 c24)
                              try (have c24b2b9s := c24b2; conv at c24b2b9s => (lhs; rhs; simp [show ∀ (x : UInt8) (l : List UInt8), (ByteArray.mk (x :: l).toArray).size = l.length + 1 from fun _ _ => rfl]))
                              replace H := Option.bind_eq_some_iff.mp H
                              obtain ⟨t275, A250, H⟩ := H
                              replace H : (if (((((x5_1 ++ (⟨#[97, 32]⟩ : ByteArray)) ++ t273) ++ (⟨#[32]⟩ : ByteArray)) ++ t274) ++ (⟨#[32]⟩ : ByteArray)).size + t275.size ≤ 9223372036854775807 then (if ((((((x5_1 ++ (⟨#[97, 32]⟩ : ByteArray)) ++ t273) ++ (⟨#[32]⟩ : ByteArray)) ++ t274) ++ (⟨#[32]⟩ : ByteArray)) ++ t275).size + 1 ≤ 9223372036854775807 then (postroadref05_Print.l0 k1 (((((((x5_1 ++ (⟨#[97, 32]⟩ : ByteArray)) ++ t273) ++ (⟨#[32]⟩ : ByteArray)) ++ t274) ++ (⟨#[32]⟩ : ByteArray)) ++ t275) ++ (⟨#[10]⟩ : ByteArray)) (wrap64 (x6_1 + 1)) a0_0 l0_1) else (none)) else (none)) = some (r1, r2) := H
                              have A25 := Aside0.mk A250
                              clear A250
                              by_cases c26 : (((((x5_1 ++ (⟨#[97, 32]⟩ : ByteArray)) ++ t273) ++ (⟨#[32]⟩ : ByteArray)) ++ t274) ++ (⟨#[32]⟩ : ByteArray)).size + t275.size ≤ 9223372036854775807
                              · rw [if_pos c26] at H
                                have c26b0 := eq_true c26
                                have c26b1 : decide ((((((x5_1 ++ (⟨#[97, 32]⟩ : ByteArray)) ++ t273) ++ (⟨#[32]⟩ : ByteArray)) ++ t274) ++ (⟨#[32]⟩ : ByteArray)).size + t275.size ≤ 9223372036854775807) = true := decide_eq_true c26
                                try have c26b2 : (9223372036854775807 < (((((x5_1 ++ (⟨#[97, 32]⟩ : ByteArray)) ++ t273) ++ (⟨#[32]⟩ : ByteArray)) ++ t274) ++ (⟨#[32]⟩ : ByteArray)).size + t275.size) = False := eq_false (Nat.not_lt.2 c26)
                                try (have c26b2b9s := c26b2; conv at c26b2b9s => (lhs; rhs; simp [show ∀ (x : UInt8) (l : List UInt8), (ByteArray.mk (x :: l).toArray).size = l.length + 1 from fun _ _ => rfl]))
                                by_cases c27 : ((((((x5_1 ++ (⟨#[97, 32]⟩ : ByteArray)) ++ t273) ++ (⟨#[32]⟩ : ByteArray)) ++ t274) ++ (⟨#[32]⟩ : ByteArray)) ++ t275).size + 1 ≤ 9223372036854775807
                                · rw [if_pos c27] at H
                                  have c27b0 := eq_true c27
                                  have c27b1 : decide (((((((x5_1 ++ (⟨#[97, 32]⟩ : ByteArray)) ++ t273) ++ (⟨#[32]⟩ : ByteArray)) ++ t274) ++ (⟨#[32]⟩ : ByteArray)) ++ t275).size + 1 ≤ 9223372036854775807) = true := decide_eq_true c27
                                  try have c27b2 : (9223372036854775807 < ((((((x5_1 ++ (⟨#[97, 32]⟩ : ByteArray)) ++ t273) ++ (⟨#[32]⟩ : ByteArray)) ++ t274) ++ (⟨#[32]⟩ : ByteArray)) ++ t275).size + 1) = False := eq_false (Nat.not_lt.2 c27)
                                  try (have c27b2b9s := c27b2; conv at c27b2b9s => (lhs; rhs; simp [show ∀ (x : UInt8) (l : List UInt8), (ByteArray.mk (x :: l).toArray).size = l.length + 1 from fun _ _ => rfl]))
                                  have H' := Aside0.mk H
                                  clear H
                                  have hcz28_0 : wr.cell? ⟨gb267, 0, none⟩ = some (.int .i64 a0_0) := (blk_cell BK267.out 0).trans rfl
                                  have hcz28_1 : wr.cell? ⟨gb267, 1, none⟩ = some (.slice A0_1 l0_1.length c0_1) := (blk_cell BK267.out 1).trans rfl
                                  have hfz28_0 := blk_frozen BK267.out 0
                                  have hfz28_1 := blk_frozen BK267.out 1
                                  have p271 : 0 ≤ (x6_1 : Int) := of_decide_eq_true (by first | (with_reducible assumption) | assumption)
                                  have q271 : x6_1 < (l0_1.length : Int) := of_decide_eq_true (by first | (with_reducible assumption) | assumption)
                                  obtain ⟨ad271, e271, hx271_0, hx271_1, hx271_2⟩ := at_T50 HR0_1.out x6_1 p271 q271
                                  cases e271
                                  replace hx271_0 := (HB.out.cell (World.block_lt_of_cell? w _ hx271_0)).trans hx271_0
                                  replace hx271_1 := (HB.out.cell (World.block_lt_of_cell? w _ hx271_1)).trans hx271_1
                                  replace hx271_2 := (HB.out.cell (World.block_lt_of_cell? w _ hx271_2)).trans hx271_2
                                  replace p271 := eq_true p271
                                  replace q271 := eq_true q271
                                  try go_wp2_with (first | ((with_reducible refine gate_dst (N := 7) rfl ?_); refine box_event ?hg (N := 7) ?hd (cs := #[.int .i64 0, .int .i64 0, .int .i64 0]) (t := 50) ?hr ?_; (case hd => rfl); (case hg => rfl); (case hr => first | (go_simp; done) | (go_simp; rfl)); intro gb272 hg w29 hbox hb; have n0_ := Aside0.mk (blk_below (g := gb267) (o := .cells #[.int .i64 a0_0, .slice (some ad271) l0_1.length c0_1] 25 (0, 0)) (by (with_reducible repeat (first | refine blk_drewN ?_ _ | refine blk_drew ?_ | refine blk_alloc ?_ _)); exact BK267.out) hb); have n1_ := Aside0.mk (below_step (by repeat (first | (with_reducible first | exact HB.out | apply below_alloc | apply pw_below_drewN | apply below_drew1 | refine below_set ?_ GE267.out) | exact HB.out)) hb); have n2_ := Aside0.mk (hbox); have n3_ := Aside0.mk ((by rw [hg]; exact (below_size (by repeat (first | (with_reducible first | exact HB.out | apply below_alloc | apply pw_below_drewN | apply below_drew1 | refine below_set ?_ GE267.out) | exact HB.out))) : w.heap.size ≤ gb272)); have n4_ := Aside0.mk ((by rw [hg]; exact (below_size (by repeat (first | (with_reducible first | exact HB.out | apply below_alloc | apply pw_below_drewN | apply below_drew1 | refine below_set ?_ GE267.out) | exact HB.out))) : w.heap.size ≤ gb272)); have n5_ := Aside0.mk ((by rw [hg]; exact Nat.ne_of_lt (blk_lt (g := gb267) (o := .cells #[.int .i64 a0_0, .slice (some ad271) l0_1.length c0_1] 25 (0, 0)) (by (with_reducible repeat (first | refine blk_drewN ?_ _ | refine blk_drew ?_ | refine blk_alloc ?_ _)); exact BK267.out)) : gb267 ≠ gb272)); have n6_ := Aside0.mk ((by rw [hg]; exact Nat.ne_of_gt (blk_lt (g := gb267) (o := .cells #[.int .i64 a0_0, .slice (some ad271) l0_1.length c0_1] 25 (0, 0)) (by (with_reducible repeat (first | refine blk_drewN ?_ _ | refine blk_drew ?_ | refine blk_alloc ?_ _)); exact BK267.out)) : gb272 ≠ gb267)); clear BK267; clear HB; have BK267 := n0_; have HB := n1_; have BK272 := n2_; have GW272 := n3_; have GE272 := n4_; have NB267_272 := n5_; have NB272_267 := n6_; clear n0_ n1_ n2_ n3_ n4_ n5_ n6_; clear hb hbox hg; have hnb30 := NB272_267.out; have hnc30 := NB267_272.out; have hcz31_0 : w29.cell? ⟨gb272, 0, none⟩ = some (.int .i64 0) := (blk_cell BK272.out 0).trans rfl; have hcz31_1 : w29.cell? ⟨gb272, 1, none⟩ = some (.int .i64 0) := (blk_cell BK272.out 1).trans rfl; have hcz31_2 : w29.cell? ⟨gb272, 2, none⟩ = some (.int .i64 0) := (blk_cell BK272.out 2).trans rfl; have hfz31_0 := blk_frozen BK272.out 0; have hfz31_1 := blk_frozen BK272.out 1; have hfz31_2 := blk_frozen BK272.out 2))
                                  have n0_ : Aside0 ((((w29.setCell ⟨gb272, 0, none⟩ (.int .i64 ((rd_T50 l0_1 x6_1).f0))).setCell ⟨gb272, 1, none⟩ (.int .i64 ((rd_T50 l0_1 x6_1).f1))).setCell ⟨gb272, 2, none⟩ (.int .i64 ((rd_T50 l0_1 x6_1).f2))).heap[gb267]? = some (.cells #[.int .i64 a0_0, .slice (some ad271) l0_1.length c0_1] 25 (0, 0))) := ⟨by (with_reducible repeat (first | refine blk_drewN ?_ _ | refine blk_drew ?_ | refine blk_alloc ?_ _)); refine blk_far ?_ NB267_272.out _; (with_reducible repeat (first | refine blk_drewN ?_ _ | refine blk_drew ?_ | refine blk_alloc ?_ _)); refine blk_far ?_ NB267_272.out _; (with_reducible repeat (first | refine blk_drewN ?_ _ | refine blk_drew ?_ | refine blk_alloc ?_ _)); refine blk_far ?_ NB267_272.out _; (with_reducible repeat (first | refine blk_drewN ?_ _ | refine blk_drew ?_ | refine blk_alloc ?_ _)); exact BK267.out⟩
                                  have n1_ : Aside0 ((((w29.setCell ⟨gb272, 0, none⟩ (.int .i64 ((rd_T50 l0_1 x6_1).f0))).setCell ⟨gb272, 1, none⟩ (.int .i64 ((rd_T50 l0_1 x6_1).f1))).setCell ⟨gb272, 2, none⟩ (.int .i64 ((rd_T50 l0_1 x6_1).f2))).heap[gb272]? = some (.cells #[.int .i64 ((rd_T50 l0_1 x6_1).f0), .int .i64 ((rd_T50 l0_1 x6_1).f1), .int .i64 ((rd_T50 l0_1 x6_1).f2)] 50 (0, 0))) := ⟨by (with_reducible repeat (first | refine blk_drewN ?_ _ | refine blk_drew ?_ | refine blk_alloc ?_ _)); refine blk_put (cs := #[.int .i64 ((rd_T50 l0_1 x6_1).f0), .int .i64 ((rd_T50 l0_1 x6_1).f1), .int .i64 0]) ?_ 2 _ rfl; (with_reducible repeat (first | refine blk_drewN ?_ _ | refine blk_drew ?_ | refine blk_alloc ?_ _)); refine blk_put (cs := #[.int .i64 ((rd_T50 l0_1 x6_1).f0), .int .i64 0, .int .i64 0]) ?_ 1 _ rfl; (with_reducible repeat (first | refine blk_drewN ?_ _ | refine blk_drew ?_ | refine blk_alloc ?_ _)); refine blk_put (cs := #[.int .i64 0, .int .i64 0, .int .i64 0]) ?_ 0 _ rfl; (with_reducible repeat (first | refine blk_drewN ?_ _ | refine blk_drew ?_ | refine blk_alloc ?_ _)); exact BK272.out⟩
                                  have n2_ : Aside0 (Below w.heap.size w (((w29.setCell ⟨gb272, 0, none⟩ (.int .i64 ((rd_T50 l0_1 x6_1).f0))).setCell ⟨gb272, 1, none⟩ (.int .i64 ((rd_T50 l0_1 x6_1).f1))).setCell ⟨gb272, 2, none⟩ (.int .i64 ((rd_T50 l0_1 x6_1).f2)))) := ⟨by repeat (first | (with_reducible first | exact HB.out | apply below_alloc | apply pw_below_drewN | apply below_drew1 | refine below_set ?_ GE267.out | refine below_set ?_ GE272.out) | exact HB.out)⟩
                                  (try clear BK267)
                                  (try clear BK272)
                                  (try clear HB)
                                  generalize (((w29.setCell ⟨gb272, 0, none⟩ (.int .i64 ((rd_T50 l0_1 x6_1).f0))).setCell ⟨gb272, 1, none⟩ (.int .i64 ((rd_T50 l0_1 x6_1).f1))).setCell ⟨gb272, 2, none⟩ (.int .i64 ((rd_T50 l0_1 x6_1).f2))) = w32 at n0_ n1_ n2_ ⊢
                                  have BK267 := n0_
                                  have BK272 := n1_
                                  have HB := n2_
                                  clear n0_ n1_ n2_
                                  have n0_ := Aside0.mk (blk_drew BK267.out)
                                  have n1_ := Aside0.mk (blk_drew BK272.out)
                                  have n2_ := Aside0.mk (below_drew1 HB.out)
                                  clear BK267
                                  clear BK272
                                  clear HB
                                  have BK267 := n0_
                                  have BK272 := n1_
                                  have HB := n2_
                                  clear n0_ n1_ n2_
                                  refine start_ (n := 20) (S := fun w' => w'.cell? ⟨gb272, 0, none⟩ = some (.int .i64 ((rd_T50 l0_1 x6_1).f0)) ∧ w'.cell? ⟨gb272, 1, none⟩ = some (.int .i64 ((rd_T50 l0_1 x6_1).f1)) ∧ w'.cell? ⟨gb272, 2, none⟩ = some (.int .i64 ((rd_T50 l0_1 x6_1).f2))) (ds := []) #[false, false, false, false, false, false, false, false, false, false, false, false, false, false, false, false, false, false, false, false] (by kernel_rfl) rfl rfl ⟨(blk_cell BK272.out 0).trans rfl, (blk_cell BK272.out 1).trans rfl, (blk_cell BK272.out 2).trans rfl⟩ (fun hHeld => ?_); refine with_tabW postroadref05_Print.tab9 postroadref05_Print.bits9 (fun HT_ HW_ => ?_)
                                  generalize w32.drew = w33 at BK267 BK272 HB hHeld ⊢
                                  refine pure_ (i := 0) (N := some 36) (v := ?_) (a' := ?_) #[true, false, false, false, false, false, false, false, false, false, false, false, false, false, false, false, false, false, false, false] rfl rfl (any_of HT_.out (by kernel_rfl)) (fun _ _ _ h => h) (Or.inl ⟨by rfl, ?_⟩) ?_ ?_
                                  rotate_left
                                  · intro w'
                                    go_simp
                                    with_reducible rfl
                                  rotate_left
                                  · simp only [Act.put, List.setIfInBounds_toArray, List.set_cons_zero, List.set_cons_succ, i64_w, i32_w]
                                    rfl
                                  refine pure_ (i := 1) (N := some 37) (v := ?_) (a' := ?_) #[true, true, false, false, false, false, false, false, false, false, false, false, false, false, false, false, false, false, false, false] rfl rfl (any_of HT_.out (by kernel_rfl)) (fun _ _ _ h => h) (Or.inl ⟨by rfl, ?_⟩) ?_ ?_
                                  rotate_left
                                  · intro w'
                                    go_simp
                                    with_reducible rfl
                                  rotate_left
                                  · simp only [Act.put, List.setIfInBounds_toArray, List.set_cons_zero, List.set_cons_succ, i64_w, i32_w]
                                    rfl
                                  refine pure_ (i := 2) (N := some 38) (v := ?_) (a' := ?_) #[true, true, true, false, false, false, false, false, false, false, false, false, false, false, false, false, false, false, false, false] rfl rfl (any_of HT_.out (by kernel_rfl)) (fun _ _ _ h => h) (Or.inl ⟨by rfl, ?_⟩) ?_ ?_
                                  rotate_left
                                  · intro w'
                                    go_simp
                                    with_reducible rfl
                                  rotate_left
                                  · simp only [Act.put, List.setIfInBounds_toArray, List.set_cons_zero, List.set_cons_succ, i64_w, i32_w]
                                    rfl
                                  refine pure_ (i := 8) (N := some 44) (v := ?_) (a' := ?_) #[true, true, true, false, false, false, false, false, true, false, false, false, false, false, false, false, false, false, false, false] rfl rfl (any_of HT_.out (by kernel_rfl)) (fun _ _ _ h => h) (Or.inl ⟨by rfl, ?_⟩) ?_ ?_
                                  rotate_left
                                  · intro w'
                                    go_simp
                                    with_reducible rfl
                                  rotate_left
                                  · simp only [Act.put, List.setIfInBounds_toArray, List.set_cons_zero, List.set_cons_succ, i64_w, i32_w]
                                    rfl
                                  refine pure_ (i := 14) (N := some 50) (v := ?_) (a' := ?_) #[true, true, true, false, false, false, false, false, true, false, false, false, false, false, true, false, false, false, false, false] rfl rfl (any_of HT_.out (by kernel_rfl)) (fun _ _ _ h => h) (Or.inl ⟨by rfl, ?_⟩) ?_ ?_
                                  rotate_left
                                  · intro w'
                                    go_simp
                                    with_reducible rfl
                                  rotate_left
                                  · simp only [Act.put, List.setIfInBounds_toArray, List.set_cons_zero, List.set_cons_succ, i64_w, i32_w]
                                    rfl
                                  refine take_ (i := 3) (N := some 39) (v := ?_) (a' := ?_) #[true, true, true, true, false, false, false, false, true, false, false, false, false, false, true, false, false, false, false, false] rfl rfl (take_ofW HT_.out HW_.out (by kernel_rfl)) (fun _ _ _ h => h) (Or.inl ⟨by rfl, ?_⟩) hHeld ?_ ?_
                                  rotate_left
                                  · rintro w' ⟨s0, s1, s2⟩
                                    go_simp
                                    with_reducible rfl
                                  rotate_left
                                  · simp only [Act.put, List.setIfInBounds_toArray, List.set_cons_zero, List.set_cons_succ, i64_w, i32_w]
                                    rfl
                                  refine pure_ (i := 4) (N := some 40) (v := ?_) (a' := ?_) #[true, true, true, true, true, false, false, false, true, false, false, false, false, false, true, false, false, false, false, false] rfl rfl (any_of HT_.out (by kernel_rfl)) (fun _ _ _ h => h) (Or.inl ⟨by rfl, ?_⟩) ?_ ?_
                                  rotate_left
                                  · intro w'
                                    go_simp
                                    with_reducible rfl
                                  rotate_left
                                  · simp only [Act.put, List.setIfInBounds_toArray, List.set_cons_zero, List.set_cons_succ, i64_w, i32_w]
                                    rfl
                                  refine take_ (i := 9) (N := some 45) (v := ?_) (a' := ?_) #[true, true, true, true, true, false, false, false, true, true, false, false, false, false, true, false, false, false, false, false] rfl rfl (take_ofW HT_.out HW_.out (by kernel_rfl)) (fun _ _ _ h => h) (Or.inl ⟨by rfl, ?_⟩) hHeld ?_ ?_
                                  rotate_left
                                  · rintro w' ⟨s0, s1, s2⟩
                                    go_simp
                                    with_reducible rfl
                                  rotate_left
                                  · simp only [Act.put, List.setIfInBounds_toArray, List.set_cons_zero, List.set_cons_succ, i64_w, i32_w]
                                    rfl
                                  refine pure_ (i := 10) (N := some 46) (v := ?_) (a' := ?_) #[true, true, true, true, true, false, false, false, true, true, true, false, false, false, true, false, false, false, false, false] rfl rfl (any_of HT_.out (by kernel_rfl)) (fun _ _ _ h => h) (Or.inl ⟨by rfl, ?_⟩) ?_ ?_
                                  rotate_left
                                  · intro w'
                                    go_simp
                                    with_reducible rfl
                                  rotate_left
                                  · simp only [Act.put, List.setIfInBounds_toArray, List.set_cons_zero, List.set_cons_succ, i64_w, i32_w]
                                    rfl
                                  refine take_ (i := 15) (N := some 51) (v := ?_) (a' := ?_) #[true, true, true, true, true, false, false, false, true, true, true, false, false, false, true, true, false, false, false, false] rfl rfl (take_ofW HT_.out HW_.out (by kernel_rfl)) (fun _ _ _ h => h) (Or.inl ⟨by rfl, ?_⟩) hHeld ?_ ?_
                                  rotate_left
                                  · rintro w' ⟨s0, s1, s2⟩
                                    go_simp
                                    with_reducible rfl
                                  rotate_left
                                  · simp only [Act.put, List.setIfInBounds_toArray, List.set_cons_zero, List.set_cons_succ, i64_w, i32_w]
                                    rfl
                                  refine one_ (i := 5) (N := some 41) #[true, true, true, true, true, true, false, false, true, true, true, false, false, false, true, true, false, false, false, false] rfl rfl (one_of HT_.out (by kernel_rfl)) (by decide) (fun K hK => ?_)
                                  refine goes_ Tryd.func15 (by kernel_rfl) rfl #[.int .i64 (wrap64 (((rd_T50 l0_1 x6_1).f0) + 1))] (by rfl) rfl rfl (by (try simp only [List.map_toArray, List.map_cons, List.map_nil]); first | done | rfl | (simp only [List.length_drop, List.length_take]; rfl)) ?_
                                  with_reducible refine (postroadref05_Digits.calls k1 (wrap64 (((rd_T50 l0_1 x6_1).f0) + 1)) t273 _ A19.out).mono ?_
                                  rintro e w34 ⟨rfl, hb⟩
                                  refine ⟨_, rfl, ?_⟩
                                  have n0_ := Aside0.mk (blk_below (g := gb267) (o := .cells #[.int .i64 a0_0, .slice (some ad271) l0_1.length c0_1] 25 (0, 0)) (by (with_reducible repeat (first | refine blk_drewN ?_ _ | refine blk_drew ?_ | refine blk_alloc ?_ _)); exact BK267.out) hb)
                                  have n1_ := Aside0.mk (blk_below (g := gb272) (o := .cells #[.int .i64 ((rd_T50 l0_1 x6_1).f0), .int .i64 ((rd_T50 l0_1 x6_1).f1), .int .i64 ((rd_T50 l0_1 x6_1).f2)] 50 (0, 0)) (by (with_reducible repeat (first | refine blk_drewN ?_ _ | refine blk_drew ?_ | refine blk_alloc ?_ _)); exact BK272.out) hb)
                                  have n2_ := Aside0.mk (below_step (by repeat (first | (with_reducible first | exact HB.out | apply below_alloc | apply pw_below_drewN | apply below_drew1 | refine below_set ?_ GE267.out | refine below_set ?_ GE272.out) | exact HB.out)) hb)
                                  clear BK267
                                  clear BK272
                                  clear HB
                                  have BK267 := n0_
                                  have BK272 := n1_
                                  have HB := n2_
                                  clear n0_ n1_ n2_
                                  (try clear hb)
                                  (try clear hb2)
                                  (try clear hk)
                                  (try clear hi)
                                  refine hK.out _ _ ⟨(blk_cell BK272.out 0).trans rfl, (blk_cell BK272.out 1).trans rfl, (blk_cell BK272.out 2).trans rfl⟩ (fun hHeld => ?_)
                                  clear hK K
                                  refine norm_ (a' := ?_) ?_ ?_
                                  rotate_left
                                  · show Act.put _ (some 41) _ = _
                                    simp only [Act.put, List.setIfInBounds_toArray, List.set_cons_zero, List.set_cons_succ, i64_w, i32_w]
                                    rfl
                                  refine pure_ (i := 6) (N := some 42) (v := ?_) (a' := ?_) #[true, true, true, true, true, true, true, false, true, true, true, false, false, false, true, true, false, false, false, false] rfl rfl (any_of HT_.out (by kernel_rfl)) (fun _ _ _ h => h) (Or.inl ⟨by rfl, ?_⟩) ?_ ?_
                                  rotate_left
                                  · intro w'
                                    go_simp
                                    with_reducible rfl
                                  rotate_left
                                  · simp only [Act.put, List.setIfInBounds_toArray, List.set_cons_zero, List.set_cons_succ, i64_w, i32_w]
                                    rfl
                                  refine pure_ (i := 7) (N := some 43) (v := ?_) (a' := ?_) #[true, true, true, true, true, true, true, true, true, true, true, false, false, false, true, true, false, false, false, false] rfl rfl (any_of HT_.out (by kernel_rfl)) (fun _ _ _ h => h) (Or.inl ⟨by rfl, ?_⟩) ?_ ?_
                                  rotate_left
                                  · intro w'
                                    go_simp
                                    with_reducible rfl
                                  rotate_left
                                  · simp only [Act.put, List.setIfInBounds_toArray, List.set_cons_zero, List.set_cons_succ, i64_w, i32_w]
                                    rfl
                                  refine one_ (i := 11) (N := some 47) #[true, true, true, true, true, true, true, true, true, true, true, true, false, false, true, true, false, false, false, false] rfl rfl (one_of HT_.out (by kernel_rfl)) (by decide) (fun K hK => ?_)
                                  refine goes_ Tryd.func15 (by kernel_rfl) rfl #[.int .i64 (wrap64 (((rd_T50 l0_1 x6_1).f1) + 1))] (by rfl) rfl rfl (by (try simp only [List.map_toArray, List.map_cons, List.map_nil]); first | done | rfl | (simp only [List.length_drop, List.length_take]; rfl)) ?_
                                  with_reducible refine (postroadref05_Digits.calls k1 (wrap64 (((rd_T50 l0_1 x6_1).f1) + 1)) t274 _ A22.out).mono ?_
                                  rintro e w35 ⟨rfl, hb⟩
                                  refine ⟨_, rfl, ?_⟩
                                  have n0_ := Aside0.mk (blk_below (g := gb267) (o := .cells #[.int .i64 a0_0, .slice (some ad271) l0_1.length c0_1] 25 (0, 0)) (by (with_reducible repeat (first | refine blk_drewN ?_ _ | refine blk_drew ?_ | refine blk_alloc ?_ _)); exact BK267.out) hb)
                                  have n1_ := Aside0.mk (blk_below (g := gb272) (o := .cells #[.int .i64 ((rd_T50 l0_1 x6_1).f0), .int .i64 ((rd_T50 l0_1 x6_1).f1), .int .i64 ((rd_T50 l0_1 x6_1).f2)] 50 (0, 0)) (by (with_reducible repeat (first | refine blk_drewN ?_ _ | refine blk_drew ?_ | refine blk_alloc ?_ _)); exact BK272.out) hb)
                                  have n2_ := Aside0.mk (below_step (by repeat (first | (with_reducible first | exact HB.out | apply below_alloc | apply pw_below_drewN | apply below_drew1 | refine below_set ?_ GE267.out | refine below_set ?_ GE272.out) | exact HB.out)) hb)
                                  clear BK267
                                  clear BK272
                                  clear HB
                                  have BK267 := n0_
                                  have BK272 := n1_
                                  have HB := n2_
                                  clear n0_ n1_ n2_
                                  (try clear hb)
                                  (try clear hb2)
                                  (try clear hk)
                                  (try clear hi)
                                  refine hK.out _ _ ⟨(blk_cell BK272.out 0).trans rfl, (blk_cell BK272.out 1).trans rfl, (blk_cell BK272.out 2).trans rfl⟩ (fun hHeld => ?_)
                                  clear hK K
                                  refine norm_ (a' := ?_) ?_ ?_
                                  rotate_left
                                  · show Act.put _ (some 47) _ = _
                                    simp only [Act.put, List.setIfInBounds_toArray, List.set_cons_zero, List.set_cons_succ, i64_w, i32_w]
                                    rfl
                                  refine pure_ (i := 12) (N := some 48) (v := ?_) (a' := ?_) #[true, true, true, true, true, true, true, true, true, true, true, true, true, false, true, true, false, false, false, false] rfl rfl (any_of HT_.out (by kernel_rfl)) (fun _ _ _ h => h) (Or.inl ⟨by rfl, ?_⟩) ?_ ?_
                                  rotate_left
                                  · intro w'
                                    go_simp
                                    with_reducible rfl
                                  rotate_left
                                  · simp only [Act.put, List.setIfInBounds_toArray, List.set_cons_zero, List.set_cons_succ, i64_w, i32_w]
                                    rfl
                                  refine pure_ (i := 13) (N := some 49) (v := ?_) (a' := ?_) #[true, true, true, true, true, true, true, true, true, true, true, true, true, true, true, true, false, false, false, false] rfl rfl (any_of HT_.out (by kernel_rfl)) (fun _ _ _ h => h) (Or.inl ⟨by rfl, ?_⟩) ?_ ?_
                                  rotate_left
                                  · intro w'
                                    go_simp
                                    with_reducible rfl
                                  rotate_left
                                  · simp only [Act.put, List.setIfInBounds_toArray, List.set_cons_zero, List.set_cons_succ, i64_w, i32_w]
                                    rfl
                                  refine one_ (i := 16) (N := some 52) #[true, true, true, true, true, true, true, true, true, true, true, true, true, true, true, true, true, false, false, false] rfl rfl (one_of HT_.out (by kernel_rfl)) (by decide) (fun K hK => ?_)
                                  refine goes_ Tryd.func15 (by kernel_rfl) rfl #[.int .i64 ((rd_T50 l0_1 x6_1).f2)] (by rfl) rfl rfl (by (try simp only [List.map_toArray, List.map_cons, List.map_nil]); first | done | rfl | (simp only [List.length_drop, List.length_take]; rfl)) ?_
                                  with_reducible refine (postroadref05_Digits.calls k1 ((rd_T50 l0_1 x6_1).f2) t275 _ A25.out).mono ?_
                                  rintro e w36 ⟨rfl, hb⟩
                                  refine ⟨_, rfl, ?_⟩
                                  have n0_ := Aside0.mk (blk_below (g := gb267) (o := .cells #[.int .i64 a0_0, .slice (some ad271) l0_1.length c0_1] 25 (0, 0)) (by (with_reducible repeat (first | refine blk_drewN ?_ _ | refine blk_drew ?_ | refine blk_alloc ?_ _)); exact BK267.out) hb)
                                  have n1_ := Aside0.mk (blk_below (g := gb272) (o := .cells #[.int .i64 ((rd_T50 l0_1 x6_1).f0), .int .i64 ((rd_T50 l0_1 x6_1).f1), .int .i64 ((rd_T50 l0_1 x6_1).f2)] 50 (0, 0)) (by (with_reducible repeat (first | refine blk_drewN ?_ _ | refine blk_drew ?_ | refine blk_alloc ?_ _)); exact BK272.out) hb)
                                  have n2_ := Aside0.mk (below_step (by repeat (first | (with_reducible first | exact HB.out | apply below_alloc | apply pw_below_drewN | apply below_drew1 | refine below_set ?_ GE267.out | refine below_set ?_ GE272.out) | exact HB.out)) hb)
                                  clear BK267
                                  clear BK272
                                  clear HB
                                  have BK267 := n0_
                                  have BK272 := n1_
                                  have HB := n2_
                                  clear n0_ n1_ n2_
                                  (try clear hb)
                                  (try clear hb2)
                                  (try clear hk)
                                  (try clear hi)
                                  refine hK.out _ _ ⟨(blk_cell BK272.out 0).trans rfl, (blk_cell BK272.out 1).trans rfl, (blk_cell BK272.out 2).trans rfl⟩ (fun hHeld => ?_)
                                  clear hK K
                                  refine norm_ (a' := ?_) ?_ ?_
                                  rotate_left
                                  · show Act.put _ (some 52) _ = _
                                    simp only [Act.put, List.setIfInBounds_toArray, List.set_cons_zero, List.set_cons_succ, i64_w, i32_w]
                                    rfl
                                  refine pure_ (i := 17) (N := some 53) (v := ?_) (a' := ?_) #[true, true, true, true, true, true, true, true, true, true, true, true, true, true, true, true, true, true, false, false] rfl rfl (any_of HT_.out (by kernel_rfl)) (fun _ _ _ h => h) (Or.inl ⟨by rfl, ?_⟩) ?_ ?_
                                  rotate_left
                                  · intro w'
                                    go_simp
                                    with_reducible rfl
                                  rotate_left
                                  · simp only [Act.put, List.setIfInBounds_toArray, List.set_cons_zero, List.set_cons_succ, i64_w, i32_w]
                                    rfl
                                  refine pure_ (i := 18) (N := some 54) (v := ?_) (a' := ?_) #[true, true, true, true, true, true, true, true, true, true, true, true, true, true, true, true, true, true, true, false] rfl rfl (any_of HT_.out (by kernel_rfl)) (fun _ _ _ h => h) (Or.inl ⟨by rfl, ?_⟩) ?_ ?_
                                  rotate_left
                                  · intro w'
                                    go_simp
                                    with_reducible rfl
                                  rotate_left
                                  · simp only [Act.put, List.setIfInBounds_toArray, List.set_cons_zero, List.set_cons_succ, i64_w, i32_w]
                                    rfl
                                  refine pure_ (i := 19) (N := some 5) (v := ?_) (a' := ?_) #[true, true, true, true, true, true, true, true, true, true, true, true, true, true, true, true, true, true, true, true] rfl rfl (any_of HT_.out (by kernel_rfl)) (fun _ _ _ h => h) (Or.inl ⟨by rfl, ?_⟩) ?_ ?_
                                  rotate_left
                                  · intro w'
                                    go_simp
                                    with_reducible rfl
                                  rotate_left
                                  · simp only [Act.put, List.setIfInBounds_toArray, List.set_cons_zero, List.set_cons_succ, i64_w, i32_w]
                                    rfl
                                  refine done_ (done_of HT_.out (by kernel_rfl)) ?_
                                  try go_wp2
                                  go_roundg k1
                                  case measure => have := HK1.out; omega
                                  case rel => exact ⟨(((((((x5_1 ++ (⟨#[97, 32]⟩ : ByteArray)) ++ t273) ++ (⟨#[32]⟩ : ByteArray)) ++ t274) ++ (⟨#[32]⟩ : ByteArray)) ++ t275) ++ (⟨#[10]⟩ : ByteArray)), (wrap64 (x6_1 + 1)), (by first | rfl | (simp; done) | (simp [*]; done)), (by first | rfl | (simp; done) | (simp [*]; done)), H', ⟨by have := HK1.out; omega⟩, ⟨by (with_reducible repeat (first | refine blk_drewN ?_ _ | refine blk_drew ?_ | refine blk_alloc ?_ _)); exact BK267.out⟩, ⟨by repeat (first | (with_reducible first | exact HB.out | apply below_alloc | apply pw_below_drewN | apply below_drew1 | refine below_set ?_ GE267.out | refine below_set ?_ GE272.out) | exact HB.out)⟩⟩
                                · rw [if_neg c27] at H
                                  exact absurd H (by simp)
                              · rw [if_neg c26] at H
                                exact absurd H (by simp)
                            · rw [if_neg c24] at H
                              exact absurd H (by simp)
                          · rw [if_neg c23] at H
                            exact absurd H (by simp)
                        · rw [if_neg c21] at H
                          exact absurd H (by simp)
                      · rw [if_neg c20] at H
                        exact absurd H (by simp)
                    · rw [if_neg c18] at H
                      exact absurd H (by simp)
                  · rw [if_neg c17] at H
                    exact absurd H (by simp)
                · rw [if_neg c16] at H
                  have c16b0 : decide (x6_1 < (l0_1.length : Int)) = false := decide_eq_false c16
                  clear c16
                  simp only [Option.some.injEq, Prod.mk.injEq] at H
                  obtain ⟨rfl, rfl⟩ := H
                  have hcz37_0 : wr.cell? ⟨gb267, 0, none⟩ = some (.int .i64 a0_0) := (blk_cell BK267.out 0).trans rfl
                  have hcz37_1 : wr.cell? ⟨gb267, 1, none⟩ = some (.slice A0_1 l0_1.length c0_1) := (blk_cell BK267.out 1).trans rfl
                  have hfz37_0 := blk_frozen BK267.out 0
                  have hfz37_1 := blk_frozen BK267.out 1
                  go_wp2
                  go_ret2
                  exact ⟨by first | rfl | (simp [errW_none, errW_some] <;> rfl) | (simp [*, errW_none, errW_some] <;> rfl), by repeat (first | (with_reducible first | exact HB.out | apply below_alloc | apply pw_below_drewN | apply below_drew1 | refine below_set ?_ GE267.out) | exact HB.out)⟩
          · rw [if_neg c9] at H
            exact absurd H (by simp)
        · rw [if_neg c8] at H
          exact absurd H (by simp)
      · rw [if_neg c6] at H
        exact absurd H (by simp)
    · rw [if_neg c5] at H
      exact absurd H (by simp)
  · rw [if_neg c3] at H
    have c3b0 : (t268 == 0) = false := beq_eq_false_iff_ne.mpr c3
    have c3b1 : (t268 != 0) = true := bne_iff_ne.mpr c3
    simp only [Option.some.injEq, Prod.mk.injEq] at H
    obtain ⟨rfl, rfl⟩ := H
    go_enter Tryd.func19, Tryd.ntmps19
    go_wp2_with (first | ((with_reducible refine gate_dst (N := 1) rfl ?_); refine box_event ?hg (N := 1) ?hd (cs := #[.int .i64 a0_0, .slice A0_1 l0_1.length c0_1]) (t := 25) ?hr ?_; (case hd => rfl); (case hg => rfl); (case hr => first | (go_simp; done) | (go_simp; rfl)); intro gb267 hg w38 hbox hb; have n0_ := Aside0.mk (below_step (by repeat (first | (with_reducible first | exact HB.out | apply below_alloc | apply pw_below_drewN | apply below_drew1) | exact HB.out)) hb); have n1_ := Aside0.mk (hbox); have n2_ := Aside0.mk ((by rw [hg]; exact (below_size (by repeat (first | (with_reducible first | exact HB.out | apply below_alloc | apply pw_below_drewN | apply below_drew1) | exact HB.out))) : w.heap.size ≤ gb267)); have n3_ := Aside0.mk ((by rw [hg]; exact (below_size (by repeat (first | (with_reducible first | exact HB.out | apply below_alloc | apply pw_below_drewN | apply below_drew1) | exact HB.out))) : w.heap.size ≤ gb267)); clear HB; have HB := n0_; have BK267 := n1_; have GW267 := n2_; have GE267 := n3_; clear n0_ n1_ n2_ n3_; clear hb hbox hg; have hcz39_0 : w38.cell? ⟨gb267, 0, none⟩ = some (.int .i64 a0_0) := (blk_cell BK267.out 0).trans rfl; have hcz39_1 : w38.cell? ⟨gb267, 1, none⟩ = some (.slice A0_1 l0_1.length c0_1) := (blk_cell BK267.out 1).trans rfl; have hfz39_0 := blk_frozen BK267.out 0; have hfz39_1 := blk_frozen BK267.out 1) | ((with_reducible refine gate_callee (f := 21) rfl ?_); refine goesL_ (some 9) rfl rfl Tryd.func21 (by kernel_rfl) rfl #[.agg #[.int .i64 a0_0, .slice A0_1 l0_1.length c0_1]] rfl (by (try simp only [List.map_toArray, List.map_cons, List.map_nil]); first | done | rfl | (simp only [List.length_drop, List.length_take]; rfl)) ?_; (with_reducible refine (postroadref05_Check.calls k a0_0 _ _ l0_1 t268 _ ?side1 ?side2 A2.out).mono ?_); (case side1 => repeat (first | exact (Kd.C_below HR0_1.out HB.out) | (with_reducible refine Kd.C_alloc ?_ _) | (with_reducible refine Kd.C_drewN ?_ _) | (with_reducible refine Kd.C_drew ?_))); (case side2 => exact HC0_1.out); rintro e w40 ⟨rfl, hb⟩; refine ⟨_, rfl, ?_⟩; have n0_ := Aside0.mk (blk_below (g := gb267) (o := .cells #[.int .i64 a0_0, .slice A0_1 l0_1.length c0_1] 25 (0, 0)) (by (with_reducible repeat (first | refine blk_drewN ?_ _ | refine blk_drew ?_ | refine blk_alloc ?_ _)); exact BK267.out) hb); have n1_ := Aside0.mk (below_step (by repeat (first | (with_reducible first | exact HB.out | apply below_alloc | apply pw_below_drewN | apply below_drew1 | refine below_set ?_ GE267.out) | exact HB.out)) hb); clear BK267; clear HB; have BK267 := n0_; have HB := n1_; clear n0_ n1_; (try clear hb); (try clear hb2); (try clear hk); (try clear hi)))
    go_ret2
    exact ⟨by first | rfl | (simp [errW_none, errW_some] <;> rfl) | (simp [*, errW_none, errW_some] <;> rfl), by repeat (first | (with_reducible first | exact HB.out | apply below_alloc | apply pw_below_drewN | apply below_drew1 | refine below_set ?_ GE267.out) | exact HB.out)⟩

end Go.Proofs.YtegikndkokemjaaDoor.PAll
