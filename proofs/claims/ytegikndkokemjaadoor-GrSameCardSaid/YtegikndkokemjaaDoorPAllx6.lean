-- Out of a doctored print of this seat's translation, by a program (wip/gr/run.sh, doctor.py, post.py). Lean checks it.
import Derived.Test.YtegikndkokemjaaDoorPAllx0
import Derived.Test.YtegikndkokemjaaDoorPAllx2
import Derived.Test.YtegikndkokemjaaDoorPAllx3
namespace Go.Proofs.YtegikndkokemjaaDoor.PAll
open Go.RowKit Go.Proofs.YtegikndkokemjaaDoorW.PrintWords Go.Proofs.YtegikndkokemjaaDoorW.PrintLast Go.Proofs.YtegikndkokemjaaDoorW.PrintMore
attribute [local go_sem] max2_int min2_int max_two min_two max_three min_three max_four min_four   -- for this text's walks alone
set_option linter.unusedVariables false
set_option linter.unusedSimpArgs false

/-! ### postroadref05_Parse: function 12 -/
mutual
def postroadref05_Parse.j0 : Nat → ByteArray → Bool → Option (Int × (List (S50)) × Int × Int)
  | 0, _, _ => none
  | k + 1, x0, x20 => if x20 = true then (if 0 ≤ (wrap64 ((x0.size : Int) - 1)) then (if (wrap64 ((x0.size : Int) - 1)) ≤ (x0.size : Int) then (postroadref05_Parse.j1 k (x0.extract 0 ((wrap64 ((x0.size : Int) - 1)) : Int).toNat)) else (none)) else (none)) else (if x0.toList = ([] : List UInt8) then (some (0, ([] : List (S50)), 12, 1)) else (postroadref05_Parse.j1 k x0))
def postroadref05_Parse.j1 : Nat → ByteArray → Option (Int × (List (S50)) × Int × Int)
  | 0, _ => none
  | k + 1, x0 => (postroadref05_Cut.f k x0 10).bind fun t168 => (postroadref05_Parse.l0 k t168 0 0 ([] : List (S50)) 0 false)
def postroadref05_Parse.l0 : Nat → List ByteArray → Int → Int → List (S50) → Int → Bool → Option (Int × (List (S50)) × Int × Int)
  | 0, _, _, _, _, _, _ => none
  | k + 1, x5, x7, x172000, x172001, x172002, x172003 => if x7 < (x5.length : Int) then (if 0 ≤ x7 then ((postroadref05_line.f k x172000 x172001 x172002 x172003 (rdOf ByteArray.empty x5 x7)).bind fun bt173 => (if bt173.2.2.2.2 = true then (postroadref05_Parse.l0 k x5 (wrap64 (x7 + 1)) bt173.1 bt173.2.1 bt173.2.2.1 bt173.2.2.2.1) else (some (0, ([] : List (S50)), 12, wrap64 (x7 + 1))))) else (none)) else (if x172003 = true then (if (x172001.length : Int) = x172002 then (some (x172000, x172001, 0, 0)) else (some (0, ([] : List (S50)), 12, wrap64 ((x5.length : Int) + 1)))) else (some (0, ([] : List (S50)), 12, wrap64 ((x5.length : Int) + 1))))
end
def postroadref05_Parse.f (k : Nat) (a0 : ByteArray) : Option (Int × (List (S50)) × Int × Int) := if (a0.size : Int) > 0 then (if 0 ≤ (wrap64 ((a0.size : Int) - 1)) then (if (wrap64 ((a0.size : Int) - 1)) < (a0.size : Int) then (postroadref05_Parse.j0 k a0 ((bt a0 (wrap64 ((a0.size : Int) - 1))) == 10)) else (none)) else (none)) else (postroadref05_Parse.j0 k a0 false)
theorem postroadref05_Parse.mono_l : ∀ k, (∀ y0 y1, LeO (postroadref05_Parse.j0 k y0 y1) (postroadref05_Parse.j0 (k + 1) y0 y1)) ∧ (∀ y0, LeO (postroadref05_Parse.j1 k y0) (postroadref05_Parse.j1 (k + 1) y0)) ∧ (∀ y0 y1 y2 y3 y4 y5, LeO (postroadref05_Parse.l0 k y0 y1 y2 y3 y4 y5) (postroadref05_Parse.l0 (k + 1) y0 y1 y2 y3 y4 y5))
  | 0 => ⟨fun _ _ r h => by simp [postroadref05_Parse.j0] at h, fun _ r h => by simp [postroadref05_Parse.j1] at h, fun _ _ _ _ _ _ r h => by simp [postroadref05_Parse.l0] at h⟩
  | k + 1 => by
    obtain ⟨ih0, ih1, ih2⟩ := postroadref05_Parse.mono_l k
    refine ⟨?_, ?_, ?_⟩
    · intro y0 y1
      unfold postroadref05_Parse.j0
      repeat' first
      | (with_reducible exact ih0 _ _)
      | (with_reducible exact ih1 _)
      | (with_reducible exact ih2 _ _ _ _ _ _)
      | (with_reducible exact postroadref05_Cut.mono _ _ _)
      | (with_reducible exact postroadref05_line.mono _ _ _ _ _ _)
      | (with_reducible exact LeO.refl _)
      | (with_reducible exact LeO.none _)
      | (with_reducible refine LeO.ite ?_ ?_)
      | (with_reducible refine LeO.bind ?_ (fun _ => ?_))
      | exact ih0 _ _
      | exact ih1 _
      | exact ih2 _ _ _ _ _ _
      | exact postroadref05_Cut.mono _ _ _
      | exact postroadref05_line.mono _ _ _ _ _ _
      | exact LeO.none _
      | refine LeO.ite ?_ ?_
      | refine LeO.bind ?_ (fun _ => ?_)
    · intro y0
      unfold postroadref05_Parse.j1
      repeat' first
      | (with_reducible exact ih0 _ _)
      | (with_reducible exact ih1 _)
      | (with_reducible exact ih2 _ _ _ _ _ _)
      | (with_reducible exact postroadref05_Cut.mono _ _ _)
      | (with_reducible exact postroadref05_line.mono _ _ _ _ _ _)
      | (with_reducible exact LeO.refl _)
      | (with_reducible exact LeO.none _)
      | (with_reducible refine LeO.ite ?_ ?_)
      | (with_reducible refine LeO.bind ?_ (fun _ => ?_))
      | exact ih0 _ _
      | exact ih1 _
      | exact ih2 _ _ _ _ _ _
      | exact postroadref05_Cut.mono _ _ _
      | exact postroadref05_line.mono _ _ _ _ _ _
      | exact LeO.none _
      | refine LeO.ite ?_ ?_
      | refine LeO.bind ?_ (fun _ => ?_)
    · intro y0 y1 y2 y3 y4 y5
      unfold postroadref05_Parse.l0
      repeat' first
      | (with_reducible exact ih0 _ _)
      | (with_reducible exact ih1 _)
      | (with_reducible exact ih2 _ _ _ _ _ _)
      | (with_reducible exact postroadref05_Cut.mono _ _ _)
      | (with_reducible exact postroadref05_line.mono _ _ _ _ _ _)
      | (with_reducible exact LeO.refl _)
      | (with_reducible exact LeO.none _)
      | (with_reducible refine LeO.ite ?_ ?_)
      | (with_reducible refine LeO.bind ?_ (fun _ => ?_))
      | exact ih0 _ _
      | exact ih1 _
      | exact ih2 _ _ _ _ _ _
      | exact postroadref05_Cut.mono _ _ _
      | exact postroadref05_line.mono _ _ _ _ _ _
      | exact LeO.none _
      | refine LeO.ite ?_ ?_
      | refine LeO.bind ?_ (fun _ => ?_)
theorem postroadref05_Parse.mono : ∀ a0 k, LeO (postroadref05_Parse.f k a0) (postroadref05_Parse.f (k + 1) a0) := by
  intro a0 k
  obtain ⟨ih0, ih1, ih2⟩ := postroadref05_Parse.mono_l k
  unfold postroadref05_Parse.f
  repeat' first
      | (with_reducible exact ih0 _ _)
      | (with_reducible exact ih1 _)
      | (with_reducible exact ih2 _ _ _ _ _ _)
      | (with_reducible exact postroadref05_Cut.mono _ _ _)
      | (with_reducible exact postroadref05_line.mono _ _ _ _ _ _)
      | (with_reducible exact LeO.refl _)
      | (with_reducible exact LeO.none _)
      | (with_reducible refine LeO.ite ?_ ?_)
      | (with_reducible refine LeO.bind ?_ (fun _ => ?_))
      | exact ih0 _ _
      | exact ih1 _
      | exact ih2 _ _ _ _ _ _
      | exact postroadref05_Cut.mono _ _ _
      | exact postroadref05_line.mono _ _ _ _ _ _
      | exact LeO.none _
      | refine LeO.ite ?_ ?_
      | refine LeO.bind ?_ (fun _ => ?_)
def postroadref05_Parse.T10 : Bool × List (List Nat × List Nat) := (true, [([], []), ([], []), ([], []), ([1, 2], [1, 2]), ([3], [3]), ([0, 4], [0, 4]), ([5], [5]), ([6], [6]), ([6], [6]), ([], []), ([9, 7, 5, 0, 1, 2, 3, 4, 5, 6, 7, 9], [7, 9]), ([8, 10, 0, 1, 2, 3, 4, 5, 6, 7, 8, 9, 10], [8])])
def postroadref05_Parse.B10 : List Nat := [0, 0, 0, 6, 14, 31, 63, 127, 127, 0, 767, 2047]
theorem postroadref05_Parse.tab10 : rtab .any (opsOf Tryd.f12 10) = postroadref05_Parse.T10 := by kernel_rfl
theorem postroadref05_Parse.bits10 : waitsOk postroadref05_Parse.T10.2 postroadref05_Parse.B10 = true := by kernel_rfl
set_option maxHeartbeats 8000000 in
set_option maxRecDepth 100000 in
theorem postroadref05_Parse.calls (k : Nat) (a0 : ByteArray) (r1 : Int) (r2 : List (S50)) (r3 : Int) (r4 : Int) (w : World) (h : postroadref05_Parse.f k a0 = some (r1, r2, r3, r4)) :
    Calls Tryd.prog 12 #[.string a0] w fun e w' => ∃ v1_ : Value, e = .returned (.tuple #[.agg #[.int .i64 r1, v1_], .int .i64 r3, .int .i64 r4]) ∧ Kd.R k50 50 w' w.heap.size (fun _ => True) v1_ r2 ∧ Below w.heap.size w w' := by
  have hu25 := Tryd.underlying25
  have hu63 := Tryd.underlying63
  have HB := Aside0.mk (Below.refl w.heap.size w)
  have H : (if (a0.size : Int) > 0 then (if 0 ≤ (wrap64 ((a0.size : Int) - 1)) then (if (wrap64 ((a0.size : Int) - 1)) < (a0.size : Int) then (postroadref05_Parse.j0 k a0 ((bt a0 (wrap64 ((a0.size : Int) - 1))) == 10)) else (none)) else (none)) else (postroadref05_Parse.j0 k a0 false)) = some (r1, r2, r3, r4) := h
  clear h
  have HC2 := Aside0.mk H
  clear H
  go_enter Tryd.func12, Tryd.ntmps12
  go_upto_region 1 with (first | ((with_reducible refine gate_dst (N := 2) rfl ?_); (try (refine gate_guard (by rfl) ?_; dsimp only)); refine box_event ?hg (N := 2) ?hd (cs := #[.int .i64 0, .slice none 0 0]) (t := 25) ?hr ?_; (case hd => rfl); (case hg => rfl); (case hr => first | (go_simp; done) | (go_simp; rfl)); intro gb167 hg w3 hbox hb; have n0_ := Aside0.mk (below_step (by repeat (first | (with_reducible first | exact HB.out | apply below_alloc | apply pw_below_drewN | apply below_drew1) | exact HB.out)) hb); have n1_ := Aside0.mk (hbox); have n2_ := Aside0.mk ((by rw [hg]; exact (below_size (by repeat (first | (with_reducible first | exact HB.out | apply below_alloc | apply pw_below_drewN | apply below_drew1) | exact HB.out))) : w.heap.size ≤ gb167)); have n3_ := Aside0.mk ((by rw [hg]; exact (below_size (by repeat (first | (with_reducible first | exact HB.out | apply below_alloc | apply pw_below_drewN | apply below_drew1) | exact HB.out))) : w.heap.size ≤ gb167)); clear HB; have HB := n0_; have BK167 := n1_; have GW167 := n2_; have GE167 := n3_; clear n0_ n1_ n2_ n3_; clear hb hbox hg))
  (try simp only [Act.put, List.setIfInBounds_toArray, List.set_cons_zero, List.set_cons_succ])
  go_cut [20] (fun v20 wc => ∃ (kq : Nat) (x20_1 : Bool), v20 = .bool x20_1 ∧ Aside0 (postroadref05_Parse.j0 kq a0 x20_1 = some (r1, r2, r3, r4)) ∧ Aside0 (kq ≤ k) ∧ Aside0 (wc.heap[gb167]? = some (.cells #[.int .i64 0, (.slice none 0 0)] 25 (0, 0))) ∧ Aside0 (Below w.heap.size w wc))
  case first =>
    have H := HC2.out
    clear HC2
    by_cases c4 : (a0.size : Int) > 0
    · rw [if_pos c4] at H
      have c4b0 : decide (0 < (a0.size : Int)) = true := decide_eq_true c4
      have c4b1 : decide (0 < a0.size) = true := decide_eq_true (by omega)
      clear c4
      (first | rw [c4b0] | (simp only [i64_w, i32_w]; rw [c4b0]) | skip)
      obtain ⟨ji5, hji5⟩ : ∃ j_ : Int, (wrap64 ((a0.size : Int) - 1)) = j_ := ⟨_, rfl⟩
      replace H : (if 0 ≤ (ji5) then (if (ji5) < (a0.size : Int) then (postroadref05_Parse.j0 k a0 ((bt a0 (ji5)) == 10)) else (none)) else (none)) = some (r1, r2, r3, r4) := by first | (rw [hji5] at H; exact H) | (simp only [hji5] at H ⊢; exact H)
      have hji5w : (IntKind.i64.wrap ((a0.size : Int) - 1)) = ji5 := (i64_w _).trans hji5
      by_cases c6 : 0 ≤ (ji5)
      · rw [if_pos c6] at H
        have c6b0 : decide (0 ≤ (ji5)) = true := decide_eq_true c6
        clear c6
        by_cases c7 : (ji5) < (a0.size : Int)
        · rw [if_pos c7] at H
          have c7b0 : decide ((ji5) < (a0.size : Int)) = true := decide_eq_true c7
          clear c7
          have H' := Aside0.mk H
          clear H
          have p8 : 0 ≤ ((ji5) : Int) := of_decide_eq_true (by first | (with_reducible assumption) | assumption)
          have q8 : (ji5) < (a0.size : Int) := of_decide_eq_true (by first | (with_reducible assumption) | assumption)
          have hx8 := bt_at a0 (ji5)
          replace p8 := eq_true p8
          replace q8 := eq_true q8
          go_wp2
          go_meet
          case rel => exact ⟨_, (((bt a0 (ji5)) == 10)), (by first | rfl | (simp; done) | (simp only [← hji5] <;> (first | rfl | simp)) | (simp [*]; done)), H', ⟨by first | omega | exact Nat.le_refl _⟩, ⟨by (with_reducible repeat (first | refine blk_drewN ?_ _ | refine blk_drew ?_ | refine blk_alloc ?_ _)); exact BK167.out⟩, ⟨by repeat (first | (with_reducible first | exact HB.out | apply below_alloc | apply pw_below_drewN | apply below_drew1 | refine below_set ?_ GE167.out) | exact HB.out)⟩⟩
        · rw [if_neg c7] at H
          exact absurd H (by simp)
      · rw [if_neg c6] at H
        exact absurd H (by simp)
    · rw [if_neg c4] at H
      have c4b0 : decide (0 < (a0.size : Int)) = false := decide_eq_false c4
      have c4b1 : decide (0 < a0.size) = false := decide_eq_false (by omega)
      clear c4
      (first | rw [c4b0] | (simp only [i64_w, i32_w]; rw [c4b0]) | skip)
      have H' := Aside0.mk H
      clear H
      go_wp2
      go_meet
      case rel => exact ⟨_, (false), (by first | rfl | (simp; done) | (simp [*]; done)), H', ⟨by first | omega | exact Nat.le_refl _⟩, ⟨by (with_reducible repeat (first | refine blk_drewN ?_ _ | refine blk_drew ?_ | refine blk_alloc ?_ _)); exact BK167.out⟩, ⟨by repeat (first | (with_reducible first | exact HB.out | apply below_alloc | apply pw_below_drewN | apply below_drew1 | refine below_set ?_ GE167.out) | exact HB.out)⟩⟩
  case rest =>
    clear HC2
    try clear c1
    try clear p2
    try clear c4
    try clear c4b0
    try clear c4b1
    try clear c6
    try clear c6b0
    try clear p6
    try clear c7
    try clear c7b0
    try clear p8
    try clear q8
    try clear hx8
    try clear p8
    try clear q8
    obtain ⟨kq, x20_1, rfl, HA, HJ1, BK167, HB⟩ := hcut
    cases kq with
    | zero => exact absurd HA.out (by simp [postroadref05_Parse.j0])
    | succ kj1 =>
      have H := HA.out
      clear HA
      simp only [postroadref05_Parse.j0] at H
      have HC9 := Aside0.mk H
      clear H
      go_upto_if 20 with (fail)
      go_cut [0] (fun v0 wc => ∃ (kq : Nat) (x0_8 : ByteArray) (x168000_8 : Int), v0 = .string x0_8 ∧ Aside0 (postroadref05_Parse.j1 kq x0_8 = some (r1, r2, r3, r4)) ∧ Aside0 (kq ≤ kj1) ∧ Aside0 (wc.heap[gb167]? = some (.cells #[.int .i64 x168000_8, (.slice none 0 0)] 25 (0, 0))) ∧ Aside0 (Below w.heap.size w wc))
      case first =>
        have H := HC9.out
        clear HC9
        by_cases c10 : x20_1 = true
        · subst c10
          have H1 : (if 0 ≤ (wrap64 ((a0.size : Int) - 1)) then (if (wrap64 ((a0.size : Int) - 1)) ≤ (a0.size : Int) then (postroadref05_Parse.j1 kj1 (a0.extract 0 ((wrap64 ((a0.size : Int) - 1)) : Int).toNat)) else (none)) else (none)) = some (r1, r2, r3, r4) := by rw [if_pos rfl] at H; exact H
          clear H
          have H := H1
          clear H1
          obtain ⟨ji11, hji11⟩ : ∃ j_ : Int, (wrap64 ((a0.size : Int) - 1)) = j_ := ⟨_, rfl⟩
          replace H : (if 0 ≤ (ji11) then (if (ji11) ≤ (a0.size : Int) then (postroadref05_Parse.j1 kj1 (a0.extract 0 ((ji11) : Int).toNat)) else (none)) else (none)) = some (r1, r2, r3, r4) := by first | (rw [hji11] at H; exact H) | (simp only [hji11] at H ⊢; exact H)
          have hji11w : (IntKind.i64.wrap ((a0.size : Int) - 1)) = ji11 := (i64_w _).trans hji11
          by_cases c12 : 0 ≤ (ji11)
          · rw [if_pos c12] at H
            have c12b0 := eq_true c12
            have c12b1 : decide (0 ≤ (ji11)) = true := decide_eq_true c12
            clear c12
            by_cases c13 : (ji11) ≤ (a0.size : Int)
            · rw [if_pos c13] at H
              have c13b0 := eq_true c13
              have c13b1 : decide ((ji11) ≤ (a0.size : Int)) = true := decide_eq_true c13
              clear c13
              have H' := Aside0.mk H
              clear H
              go_wp2
              go_meet
              case rel => exact ⟨_, (a0.extract 0 ((ji11) : Int).toNat), (0), (by first | rfl | (simp; done) | (simp only [← hji11] <;> (first | rfl | simp)) | (simp [*]; done)), H', ⟨by have := HJ1.out; first | omega | exact Nat.le_refl _⟩, ⟨by (with_reducible repeat (first | refine blk_drewN ?_ _ | refine blk_drew ?_ | refine blk_alloc ?_ _)); exact BK167.out⟩, ⟨by repeat (first | (with_reducible first | exact HB.out | apply below_alloc | apply pw_below_drewN | apply below_drew1 | refine below_set ?_ GE167.out) | exact HB.out)⟩⟩
            · rw [if_neg c13] at H
              exact absurd H (by simp)
          · rw [if_neg c12] at H
            exact absurd H (by simp)
        · replace c10 := Bool.eq_false_iff.mpr c10
          subst c10
          have H1 : (if a0.toList = ([] : List UInt8) then (some (0, ([] : List (S50)), 12, 1)) else (postroadref05_Parse.j1 kj1 a0)) = some (r1, r2, r3, r4) := by rw [if_neg (show ¬ (false = true) by decide)] at H; exact H
          clear H
          have H := H1
          clear H1
          by_cases c14 : a0.toList = ([] : List UInt8)
          · rw [if_pos c14] at H
            have c14b0 : (a0.toList == ([] : List UInt8)) = true := beq_iff_eq.mpr c14
            have c14b1 : (a0.toList != ([] : List UInt8)) = false := bne_eq_false_iff_eq.mpr c14
            clear c14
            (first | rw [c14b0] | (simp only [i64_w, i32_w]; rw [c14b0]) | skip)
            simp only [Option.some.injEq, Prod.mk.injEq] at H
            obtain ⟨rfl, rfl, rfl, rfl⟩ := H
            have hcz15_0 : wc.cell? ⟨gb167, 0, none⟩ = some (.int .i64 0) := (blk_cell BK167.out 0).trans rfl
            have hcz15_1 : wc.cell? ⟨gb167, 1, none⟩ = some (.slice none 0 0) := (blk_cell BK167.out 1).trans rfl
            have hfz15_0 := blk_frozen BK167.out 0
            have hfz15_1 := blk_frozen BK167.out 1
            go_wp2
            refine bodyPost_ret (results_ctt rfl _ _ gb167 25 #[.int .i64 0, .slice none 0 0] (0, 0) _ rfl (by (with_reducible repeat (first | refine blk_drewN ?_ _ | refine blk_drew ?_ | refine blk_alloc ?_ _)); refine blk_put (cs := #[.int .i64 0, .slice none 0 0]) ?_ 1 _ rfl; (with_reducible repeat (first | refine blk_drewN ?_ _ | refine blk_drew ?_ | refine blk_alloc ?_ _)); refine blk_put (cs := #[.int .i64 0, .slice none 0 0]) ?_ 0 _ rfl; (with_reducible repeat (first | refine blk_drewN ?_ _ | refine blk_drew ?_ | refine blk_alloc ?_ _)); exact BK167.out) Tryd.underlying25 rfl (by kernel_rfl)) rfl ?_
            exact ⟨_, by first | rfl | (simp [errW_none, errW_some] <;> rfl) | (simp [*, errW_none, errW_some] <;> rfl), by first | exact Kd.R_nil _ _ _ _ _ | exact Kd.N_nil _ _ _ _ _ | exact Kd.V_nil _ _ _ _ _ | exact Kd.Q_nil _ _ _ _ _ | exact Kd.S_nil _ _ _ _ _, by repeat (first | (with_reducible first | exact HB.out | apply below_alloc | apply pw_below_drewN | apply below_drew1 | refine below_set ?_ GE167.out) | exact HB.out)⟩
          · rw [if_neg c14] at H
            have c14b0 : (a0.toList == ([] : List UInt8)) = false := beq_eq_false_iff_ne.mpr c14
            have c14b1 : (a0.toList != ([] : List UInt8)) = true := bne_iff_ne.mpr c14
            (first | rw [c14b0] | (simp only [i64_w, i32_w]; rw [c14b0]) | skip)
            have H' := Aside0.mk H
            clear H
            go_wp2
            go_meet
            case rel => exact ⟨_, (a0), (0), (by first | rfl | (simp; done) | (simp [*]; done)), H', ⟨by have := HJ1.out; first | omega | exact Nat.le_refl _⟩, ⟨by (with_reducible repeat (first | refine blk_drewN ?_ _ | refine blk_drew ?_ | refine blk_alloc ?_ _)); exact BK167.out⟩, ⟨by repeat (first | (with_reducible first | exact HB.out | apply below_alloc | apply pw_below_drewN | apply below_drew1 | refine below_set ?_ GE167.out) | exact HB.out)⟩⟩
      case rest =>
        clear HC9
        try clear c1
        try clear p2
        try clear c4
        try clear c4b0
        try clear c4b1
        try clear c6
        try clear c6b0
        try clear p6
        try clear c7
        try clear c7b0
        try clear p8
        try clear q8
        try clear hx8
        try clear c10
        try clear c12
        try clear c12b0
        try clear c12b1
        try clear c13
        try clear c13b0
        try clear c13b1
        try clear c14
        try clear c14b0
        try clear c14b1
        try clear hcz15_0
        try clear hcz15_1
        try clear hfz15_0
        try clear hfz15_1
        try clear p2
        try clear p6
        try clear p8
        try clear q8
        obtain ⟨kq, x0_8, x168000_8, rfl, HA, HJ8, BK167, HB⟩ := hcut
        cases kq with
        | zero => exact absurd HA.out (by simp [postroadref05_Parse.j1])
        | succ kj8 =>
          have H := HA.out
          clear HA
          simp only [postroadref05_Parse.j1] at H
          replace H := Option.bind_eq_some_iff.mp H
          obtain ⟨t168, A160, H⟩ := H
          replace H : (postroadref05_Parse.l0 kj8 t168 0 0 ([] : List (S50)) 0 false) = some (r1, r2, r3, r4) := H
          have A16 := Aside0.mk A160
          clear A160
          have H' := Aside0.mk H
          clear H
          go_wp2_with (first | ((with_reducible refine gate_callee (f := 25) rfl ?_); refine goesL_ (some 30) rfl rfl Tryd.func25 (by kernel_rfl) rfl #[.string x0_8, .int .u8 10] rfl (by (try simp only [List.map_toArray, List.map_cons, List.map_nil]); first | done | rfl | (simp only [List.length_drop, List.length_take]; rfl)) ?_; (with_reducible refine (postroadref05_Cut.calls kj8 x0_8 10 t168 _ A16.out).mono ?_); rintro e w17 ⟨v169, rfl, ho0, hb⟩; refine ⟨_, rfl, ?_⟩; have n0_ := Aside0.mk (Kd.R_lower ho0 (below_size (by repeat (first | (with_reducible first | exact HB.out | apply below_alloc | apply pw_below_drewN | apply below_drew1 | refine below_set ?_ GE167.out) | exact HB.out)))); have n1_ := Aside0.mk (blk_below (g := gb167) (o := .cells #[.int .i64 x168000_8, .slice none 0 0] 25 (0, 0)) (by (with_reducible repeat (first | refine blk_drewN ?_ _ | refine blk_drew ?_ | refine blk_alloc ?_ _)); exact BK167.out) hb); have n2_ := Aside0.mk (below_step (by repeat (first | (with_reducible first | exact HB.out | apply below_alloc | apply pw_below_drewN | apply below_drew1 | refine below_set ?_ GE167.out) | exact HB.out)) hb); clear BK167; clear HB; have HO170 := n0_; have BK167 := n1_; have HB := n2_; clear n0_ n1_ n2_; (try clear hb); (try clear hb2); (try clear hk); (try clear hi); (try clear ho0)) | ((with_reducible refine gate_dst (N := 6) rfl ?_); (try (refine gate_guard (by rfl) ?_; dsimp only)); refine box_event ?hg (N := 6) ?hd (cs := #[.int .i64 0, .slice none 0 0, .int .i64 0, .bool false]) (t := 63) ?hr ?_; (case hd => rfl); (case hg => rfl); (case hr => first | (go_simp; done) | (go_simp; rfl)); intro gb171 hg w18 hbox hb; have n0_ := Aside0.mk (Kd.R_below (by (with_reducible repeat (first | apply Kd.R_alloc | apply Kd.R_drewN | apply Kd.R_drew)); exact HO170.out) hb); have n1_ := Aside0.mk (blk_below (g := gb167) (o := .cells #[.int .i64 x168000_8, .slice none 0 0] 25 (0, 0)) (by (with_reducible repeat (first | refine blk_drewN ?_ _ | refine blk_drew ?_ | refine blk_alloc ?_ _)); exact BK167.out) hb); have n2_ := Aside0.mk (below_step (by repeat (first | (with_reducible first | exact HB.out | apply below_alloc | apply pw_below_drewN | apply below_drew1 | refine below_set ?_ GE167.out) | exact HB.out)) hb); have n3_ := Aside0.mk (hbox); have n4_ := Aside0.mk ((by rw [hg]; exact (below_size (by repeat (first | (with_reducible first | exact HB.out | apply below_alloc | apply pw_below_drewN | apply below_drew1 | refine below_set ?_ GE167.out) | exact HB.out))) : w.heap.size ≤ gb171)); have n5_ := Aside0.mk ((by rw [hg]; exact (below_size (by repeat (first | (with_reducible first | exact HB.out | apply below_alloc | apply pw_below_drewN | apply below_drew1 | refine below_set ?_ GE167.out) | exact HB.out))) : w.heap.size ≤ gb171)); have n6_ := Aside0.mk ((by rw [hg]; exact Nat.ne_of_lt (blk_lt (g := gb167) (o := .cells #[.int .i64 x168000_8, .slice none 0 0] 25 (0, 0)) (by (with_reducible repeat (first | refine blk_drewN ?_ _ | refine blk_drew ?_ | refine blk_alloc ?_ _)); exact BK167.out)) : gb167 ≠ gb171)); have n7_ := Aside0.mk ((by rw [hg]; exact Nat.ne_of_gt (blk_lt (g := gb167) (o := .cells #[.int .i64 x168000_8, .slice none 0 0] 25 (0, 0)) (by (with_reducible repeat (first | refine blk_drewN ?_ _ | refine blk_drew ?_ | refine blk_alloc ?_ _)); exact BK167.out)) : gb171 ≠ gb167)); clear HO170; clear BK167; clear HB; have HO170 := n0_; have BK167 := n1_; have HB := n2_; have BK171 := n3_; have GW171 := n4_; have GE171 := n5_; have NB167_171 := n6_; have NB171_167 := n7_; clear n0_ n1_ n2_ n3_ n4_ n5_ n6_ n7_; clear hb hbox hg; have hnb19 := NB171_167.out; have hnc19 := NB167_171.out; have hcz20_0 : w18.cell? ⟨gb171, 0, none⟩ = some (.int .i64 0) := (blk_cell BK171.out 0).trans rfl; have hcz20_1 : w18.cell? ⟨gb171, 1, none⟩ = some (.slice none 0 0) := (blk_cell BK171.out 1).trans rfl; have hcz20_2 : w18.cell? ⟨gb171, 2, none⟩ = some (.int .i64 0) := (blk_cell BK171.out 2).trans rfl; have hcz20_3 : w18.cell? ⟨gb171, 3, none⟩ = some (.bool false) := (blk_cell BK171.out 3).trans rfl; have hfz20_0 := blk_frozen BK171.out 0; have hfz20_1 := blk_frozen BK171.out 1; have hfz20_2 := blk_frozen BK171.out 2; have hfz20_3 := blk_frozen BK171.out 3))
          go_loopg [7] kj8 (fun kq v7 w' => ∃ (x7_3 : Int) (x168000_3 : Int) (x172000_3 : Int) (x172001_3 : List (S50)) (x172002_3 : Int) (x172003_3 : Bool) (u172001 : Value), v7 = .int .i64 x7_3 ∧ Aside0 (postroadref05_Parse.l0 kq t168 x7_3 x172000_3 x172001_3 x172002_3 x172003_3 = some (r1, r2, r3, r4)) ∧ Aside0 (kq ≤ kj8) ∧ Aside0 (Kd.R Kd.string 9 w' w.heap.size (fun _ => True) v169 t168) ∧ Aside0 (Kd.R k50 50 w' w.heap.size (fun _ => True) u172001 x172001_3) ∧ Aside0 (w'.heap[gb167]? = some (.cells #[.int .i64 x168000_3, (.slice none 0 0)] 25 (0, 0))) ∧ Aside0 (w'.heap[gb171]? = some (.cells #[.int .i64 x172000_3, u172001, .int .i64 x172002_3, .bool x172003_3] 63 (0, 0))) ∧ Aside0 (Below w.heap.size w w'))
          case atStart => exact ⟨(0), (x168000_8), (0), (([] : List (S50))), (0), (false), (.slice none 0 0), (by first | rfl | (simp; done) | (simp [*]; done)), H', ⟨Nat.le_refl _⟩, ⟨by (with_reducible repeat (first | apply Kd.R_alloc | apply Kd.R_drewN | apply Kd.R_drew)); exact Kd.R_mono (Kd.R_far (p := ⟨gb171, 3, none⟩) (Kd.R_far (p := ⟨gb171, 2, none⟩) (Kd.R_far (p := ⟨gb171, 1, none⟩) (Kd.R_far (p := ⟨gb171, 0, none⟩) (Kd.R_types HO170.out BK171.out (by decide)) (fun _ hk => hk.2) (.int .i64 0)) (fun _ hk => hk.2) (.slice none 0 0)) (fun _ hk => hk.2) (.int .i64 0)) (fun _ hk => hk.2) (.bool false)) (fun _ hk => trivial)⟩, ⟨by first | exact Kd.R_nil _ _ _ _ _ | exact Kd.N_nil _ _ _ _ _ | exact Kd.V_nil _ _ _ _ _ | exact Kd.Q_nil _ _ _ _ _ | exact Kd.S_nil _ _ _ _ _⟩, ⟨by (with_reducible repeat (first | refine blk_drewN ?_ _ | refine blk_drew ?_ | refine blk_alloc ?_ _)); refine blk_far ?_ NB167_171.out _; (with_reducible repeat (first | refine blk_drewN ?_ _ | refine blk_drew ?_ | refine blk_alloc ?_ _)); refine blk_far ?_ NB167_171.out _; (with_reducible repeat (first | refine blk_drewN ?_ _ | refine blk_drew ?_ | refine blk_alloc ?_ _)); refine blk_far ?_ NB167_171.out _; (with_reducible repeat (first | refine blk_drewN ?_ _ | refine blk_drew ?_ | refine blk_alloc ?_ _)); refine blk_far ?_ NB167_171.out _; (with_reducible repeat (first | refine blk_drewN ?_ _ | refine blk_drew ?_ | refine blk_alloc ?_ _)); exact BK167.out⟩, ⟨by (with_reducible repeat (first | refine blk_drewN ?_ _ | refine blk_drew ?_ | refine blk_alloc ?_ _)); refine blk_put (cs := #[.int .i64 0, .slice none 0 0, .int .i64 0, .bool false]) ?_ 3 _ rfl; (with_reducible repeat (first | refine blk_drewN ?_ _ | refine blk_drew ?_ | refine blk_alloc ?_ _)); refine blk_put (cs := #[.int .i64 0, .slice none 0 0, .int .i64 0, .bool false]) ?_ 2 _ rfl; (with_reducible repeat (first | refine blk_drewN ?_ _ | refine blk_drew ?_ | refine blk_alloc ?_ _)); refine blk_put (cs := #[.int .i64 0, .slice none 0 0, .int .i64 0, .bool false]) ?_ 1 _ rfl; (with_reducible repeat (first | refine blk_drewN ?_ _ | refine blk_drew ?_ | refine blk_alloc ?_ _)); refine blk_put (cs := #[.int .i64 0, .slice none 0 0, .int .i64 0, .bool false]) ?_ 0 _ rfl; (with_reducible repeat (first | refine blk_drewN ?_ _ | refine blk_drew ?_ | refine blk_alloc ?_ _)); exact BK171.out⟩, ⟨by repeat (first | (with_reducible first | exact HB.out | apply below_alloc | apply pw_below_drewN | apply below_drew1 | refine below_set ?_ GE167.out | refine below_set ?_ GE171.out) | exact HB.out)⟩⟩
          case round =>
            clear H'
            try clear c1
            try clear c2
            try clear p2
            try clear c4
            try clear c4b0
            try clear c4b1
            try clear c6
            try clear c6b0
            try clear p6
            try clear c7
            try clear c7b0
            try clear p8
            try clear q8
            try clear hx8
            try clear c10
            try clear c12
            try clear c12b0
            try clear c12b1
            try clear c13
            try clear c13b0
            try clear c13b1
            try clear c14
            try clear c14b0
            try clear c14b1
            try clear c19
            try clear hcz15_0
            try clear hcz15_1
            try clear hcz20_0
            try clear hcz20_1
            try clear hcz20_2
            try clear hcz20_3
            try clear hfz15_0
            try clear hfz15_1
            try clear hfz20_0
            try clear hfz20_1
            try clear hfz20_2
            try clear hfz20_3
            try clear p2
            try clear p6
            try clear p8
            try clear q8
            obtain ⟨x7_3, x168000_3, x172000_3, x172001_3, x172002_3, x172003_3, u172001, rfl, HA, HK3, HO_5, HO_172001, BK167, BK171, HB⟩ := hrel
            cases gk with
            | zero => exact absurd HA.out (by simp [postroadref05_Parse.l0])
            | succ k3 =>
              have H := HA.out
              clear HA
              simp only [postroadref05_Parse.l0] at H
              by_cases c21 : x7_3 < (t168.length : Int)
              · rw [if_pos c21] at H
                have c21b0 : decide (x7_3 < (t168.length : Int)) = true := decide_eq_true c21
                clear c21
                by_cases c22 : 0 ≤ x7_3
                · rw [if_pos c22] at H
                  have c22b0 : decide (0 ≤ x7_3) = true := decide_eq_true c22
                  clear c22
                  replace H := Option.bind_eq_some_iff.mp H
                  obtain ⟨⟨t173, t174, t177, t178, t179⟩, A230, H⟩ := H
                  replace H : (if t179 = true then (postroadref05_Parse.l0 k3 t168 (wrap64 (x7_3 + 1)) t173 t174 t177 t178) else (some (0, ([] : List (S50)), 12, wrap64 (x7_3 + 1)))) = some (r1, r2, r3, r4) := H
                  have A23 := Aside0.mk A230
                  clear A230
                  by_cases c24 : t179 = true
                  · subst c24
                    have H1 : (postroadref05_Parse.l0 k3 t168 (wrap64 (x7_3 + 1)) t173 t174 t177 t178) = some (r1, r2, r3, r4) := by rw [if_pos rfl] at H; exact H
                    clear H
                    have H := H1
                    clear H1
                    have H' := Aside0.mk H
                    clear H
                    obtain ⟨Ao25, co25, eo25⟩ := Kd.R_slice HO_5.out
                    subst eo25
                    obtain ⟨Ao26, co26, eo26⟩ := Kd.R_slice HO_172001.out
                    subst eo26
                    try go_wp2
                    have n0_ := Aside0.mk (Kd.R_drew HO_5.out)
                    have n1_ := Aside0.mk (Kd.R_drew HO_172001.out)
                    have n2_ := Aside0.mk (blk_drew BK167.out)
                    have n3_ := Aside0.mk (blk_drew BK171.out)
                    have n4_ := Aside0.mk (below_drew1 HB.out)
                    clear HO_5
                    clear HO_172001
                    clear BK167
                    clear BK171
                    clear HB
                    have HO_5 := n0_
                    have HO_172001 := n1_
                    have BK167 := n2_
                    have BK171 := n3_
                    have HB := n4_
                    clear n0_ n1_ n2_ n3_ n4_
                    have p172 : 0 ≤ (x7_3 : Int) := of_decide_eq_true (by first | (with_reducible assumption) | assumption)
                    have q172 : x7_3 < (t168.length : Int) := of_decide_eq_true (by first | (with_reducible assumption) | assumption)
                    obtain ⟨ad172, e172, hx172_0⟩ := Kd.at_string (Kd.R_reads' HO_5.out).2.2 x7_3 p172 q172
                    cases e172
                    replace p172 := eq_true p172
                    replace q172 := eq_true q172
                    refine start_ (n := 12) (S := fun w' => w'.cell? ⟨gb171, 0, none⟩ = some (.int .i64 x172000_3) ∧ w'.cell? ⟨gb171, 1, none⟩ = some (.slice Ao26 x172001_3.length co26) ∧ w'.cell? ⟨gb171, 2, none⟩ = some (.int .i64 x172002_3) ∧ w'.cell? ⟨gb171, 3, none⟩ = some (.bool x172003_3) ∧ w'.cell? (ad172.add (x7_3).toNat) = some (.string (rdOf ByteArray.empty t168 x7_3))) (ds := []) #[false, false, false, false, false, false, false, false, false, false, false, false] (by kernel_rfl) rfl rfl ⟨(blk_cell BK171.out 0).trans rfl, (blk_cell BK171.out 1).trans rfl, (blk_cell BK171.out 2).trans rfl, (blk_cell BK171.out 3).trans rfl, hx172_0⟩ (fun hHeld => ?_); refine with_tabW postroadref05_Parse.tab10 postroadref05_Parse.bits10 (fun HT_ HW_ => ?_)
                    generalize wr.drew = w27 at HO_5 HO_172001 BK167 BK171 HB hx172_0 hHeld ⊢
                    refine pure_ (i := 1) (N := some 40) (v := ?_) (a' := ?_) #[false, true, false, false, false, false, false, false, false, false, false, false] rfl rfl (any_of HT_.out (by kernel_rfl)) (fun _ _ _ h => h) (Or.inl ⟨by rfl, ?_⟩) ?_ ?_
                    rotate_left
                    · intro w'
                      go_simp
                      with_reducible rfl
                    rotate_left
                    · simp only [Act.put, List.setIfInBounds_toArray, List.set_cons_zero, List.set_cons_succ, i64_w, i32_w]
                      rfl
                    refine pure_ (i := 2) (N := some 41) (v := ?_) (a' := ?_) #[false, true, true, false, false, false, false, false, false, false, false, false] rfl rfl (any_of HT_.out (by kernel_rfl)) (fun _ _ _ h => h) (Or.inl ⟨by rfl, ?_⟩) ?_ ?_
                    rotate_left
                    · intro w'
                      go_simp
                      with_reducible rfl
                    rotate_left
                    · simp only [Act.put, List.setIfInBounds_toArray, List.set_cons_zero, List.set_cons_succ, i64_w, i32_w]
                      rfl
                    refine pure_ (i := 3) (N := some 42) (v := ?_) (a' := ?_) #[false, true, true, true, false, false, false, false, false, false, false, false] rfl rfl (any_of HT_.out (by kernel_rfl)) (fun _ _ _ h => h) (Or.inl ⟨by rfl, ?_⟩) ?_ ?_
                    rotate_left
                    · intro w'
                      go_simp
                      with_reducible rfl
                    rotate_left
                    · simp only [Act.put, List.setIfInBounds_toArray, List.set_cons_zero, List.set_cons_succ, i64_w, i32_w]
                      rfl
                    refine take_ (i := 0) (N := some 39) (v := ?_) (a' := ?_) #[true, true, true, true, false, false, false, false, false, false, false, false] rfl rfl (take_ofW HT_.out HW_.out (by kernel_rfl)) (fun _ _ _ h => h) (Or.inl ⟨by rfl, ?_⟩) hHeld ?_ ?_
                    rotate_left
                    · rintro w' ⟨s0, s1, s2, s3, s4⟩
                      go_simp
                      with_reducible rfl
                    rotate_left
                    · simp only [Act.put, List.setIfInBounds_toArray, List.set_cons_zero, List.set_cons_succ, i64_w, i32_w]
                      rfl
                    refine take_ (i := 4) (N := some 43) (v := ?_) (a' := ?_) #[true, true, true, true, true, false, false, false, false, false, false, false] rfl rfl (take_ofW HT_.out HW_.out (by kernel_rfl)) (fun _ _ _ h => h) (Or.inl ⟨by rfl, ?_⟩) hHeld ?_ ?_
                    rotate_left
                    · rintro w' ⟨s0, s1, s2, s3, s4⟩
                      go_simp
                      with_reducible rfl
                    rotate_left
                    · simp only [Act.put, List.setIfInBounds_toArray, List.set_cons_zero, List.set_cons_succ, i64_w, i32_w]
                      rfl
                    refine join_ (σ := Value × Nat) 2 #[true, true, true, true, true, true, true, true, true, true, false, false] (fun s_ => [(44, .tuple #[.agg #[.int .i64 t173, s_.1, .int .i64 t177, .bool t178], .bool true]), (8, .pointer (some ⟨s_.2, 0, none⟩)), (38, .tuple #[.agg #[.int .i64 t173, s_.1, .int .i64 t177, .bool t178], .bool true]), (45, .agg #[.int .i64 t173, s_.1, .int .i64 t177, .bool t178]), (46, .bool true)]) (fun s_ w' => (w'.cell? ⟨gb171, 0, none⟩ = some (.int .i64 x172000_3) ∧ w'.cell? ⟨gb171, 1, none⟩ = some (.slice Ao26 x172001_3.length co26) ∧ w'.cell? ⟨gb171, 2, none⟩ = some (.int .i64 x172002_3) ∧ w'.cell? ⟨gb171, 3, none⟩ = some (.bool x172003_3) ∧ w'.cell? (ad172.add (x7_3).toNat) = some (.string (rdOf ByteArray.empty t168 x7_3))) ∧ (Kd.R k50 50 w' w.heap.size (fun _ => True) s_.1 t174) ∧ (Kd.R Kd.string 9 w' w.heap.size (fun _ => True) (.slice (some ad172) t168.length co25) t168) ∧ (w'.heap[gb167]? = some (.cells #[.int .i64 x168000_3, .slice none 0 0] 25 (0, 0))) ∧ (w'.heap[gb171]? = some (.cells #[.int .i64 x172000_3, .slice Ao26 x172001_3.length co26, .int .i64 x172002_3, .bool x172003_3] 63 (0, 0))) ∧ (w'.heap[s_.2]? = some (.cells #[.int .i64 0, .slice none 0 0, .int .i64 0, .bool false] 63 (0, 0))) ∧ (w.heap.size ≤ s_.2) ∧ (w.heap.size ≤ s_.2) ∧ (gb167 ≠ s_.2) ∧ (s_.2 ≠ gb167) ∧ (gb171 ≠ s_.2) ∧ (s_.2 ≠ gb171) ∧ (Below w.heap.size w w')) ?_ ?_
                    rotate_left
                    · intro hCont
                      refine two_ (i := 5) (j := 9) (Ni := some 44) (Nj := some 8) #[true, true, true, true, true, true, false, false, false, false, false, false] #[true, true, true, true, true, false, false, false, false, true, false, false] rfl rfl rfl rfl (two_of HT_.out (by kernel_rfl)) (by decide) (by decide) (fun K hK => ?_) (fun K hK => ?_)
                      · skip
                        refine goes_ Tryd.func26 (by kernel_rfl) rfl #[.agg #[.int .i64 x172000_3, .slice Ao26 x172001_3.length co26, .int .i64 x172002_3, .bool x172003_3], .string (rdOf ByteArray.empty t168 x7_3)] (by rfl) rfl rfl (by (try simp only [List.map_toArray, List.map_cons, List.map_nil]); first | done | rfl | (simp only [List.length_drop, List.length_take]; rfl)) ?_
                        with_reducible refine (postroadref05_line.calls k3 x172000_3 (fun k_ => some k_ = (.slice Ao26 x172001_3.length co26 : Value).ownBlock) (.slice Ao26 x172001_3.length co26) x172001_3 x172002_3 x172003_3 (rdOf ByteArray.empty t168 x7_3) t173 t174 t177 t178 true w _ ?side1 ?side2 A23.out).mono ?_
                        (case side1 => repeat (first | (with_reducible first | exact HB.out | apply below_alloc | apply pw_below_drewN | apply below_drew1 | refine below_set ?_ GE167.out | refine below_set ?_ GE171.out) | exact HB.out))
                        (case side2 => exact Kd.R_tight rfl HO_172001.out)
                        rintro e w28 ⟨v175, rfl, ho0, hb, hkp⟩
                        have HS4_ := cell_kept (hHeld.2.2.2.2) hkp (by first | (rw [add_block]; exact (fun hs_ => ((((Kd.R_apart' HO_5.out (Kd.R_typed HO_172001.out) (by decide))).1 _ rfl).2) hs_)) | (show ¬ _; simp only [add_block]; exact (fun hs_ => ((((Kd.R_apart' HO_5.out (Kd.R_typed HO_172001.out) (by decide))).1 _ rfl).2) hs_)) | exact (fun hs_ => ((((Kd.R_apart' HO_5.out (Kd.R_typed HO_172001.out) (by decide))).1 _ rfl).2) hs_))
                        refine ⟨_, rfl, ?_⟩
                        have n0_ := Aside0.mk (Kd.R_mono (ok' := fun k_ => True) (Kd.R_keptB ((Kd.R_apart' HO_5.out (Kd.R_typed HO_172001.out) (by decide))) hkp (fun k_ hk_ hs_ => (hk_.2) hs_)) (fun k_ hk_ => trivial))
                        have n1_ := Aside0.mk (blk_kept (by (with_reducible repeat (first | refine blk_drewN ?_ _ | refine blk_drew ?_ | refine blk_alloc ?_ _)); exact BK167.out) hkp (fun hs_ => (fun e_ => (Kd.R_ne HO_172001.out BK167.out (by decide)) e_) hs_))
                        have n2_ := Aside0.mk (blk_kept (by (with_reducible repeat (first | refine blk_drewN ?_ _ | refine blk_drew ?_ | refine blk_alloc ?_ _)); exact BK171.out) hkp (fun hs_ => (fun e_ => (Kd.R_ne HO_172001.out BK171.out (by decide)) e_) hs_))
                        have n3_ := Aside0.mk (Kd.R_mono (ok' := fun k_ => True) ho0 (fun k_ hk_ => trivial))
                        have n4_ := Aside0.mk (hb)
                        clear HO_5
                        clear BK167
                        clear BK171
                        clear HB
                        clear HO_172001
                        have HO_5 := n0_
                        have BK167 := n1_
                        have BK171 := n2_
                        have HO176 := n3_
                        have HB := n4_
                        clear n0_ n1_ n2_ n3_ n4_
                        (try clear hb)
                        (try clear hkp)
                        (try clear ho0)
                        refine hK.out _ _ ⟨(blk_cell BK171.out 0).trans rfl, (blk_cell BK171.out 1).trans rfl, (blk_cell BK171.out 2).trans rfl, (blk_cell BK171.out 3).trans rfl, HS4_⟩ (fun hHeld => ?_)
                        clear hK K
                        refine norm_ (a' := ?_) ?_ ?_
                        rotate_left
                        · show Act.put _ (some 44) _ = _
                          simp only [Act.put, List.setIfInBounds_toArray, List.set_cons_zero, List.set_cons_succ, i64_w, i32_w]
                          rfl
                        refine pure_ (i := 6) (N := some 38) (v := ?_) (a' := ?_) #[true, true, true, true, true, true, true, false, false, false, false, false] rfl rfl (any_of HT_.out (by kernel_rfl)) (fun _ _ _ h => h) (Or.inl ⟨by rfl, ?_⟩) ?_ ?_
                        rotate_left
                        · intro w'
                          go_simp
                          with_reducible rfl
                        rotate_left
                        · simp only [Act.put, List.setIfInBounds_toArray, List.set_cons_zero, List.set_cons_succ, i64_w, i32_w]
                          rfl
                        refine pure_ (i := 7) (N := some 45) (v := ?_) (a' := ?_) #[true, true, true, true, true, true, true, true, false, false, false, false] rfl rfl (any_of HT_.out (by kernel_rfl)) (fun _ _ _ h => h) (Or.inl ⟨by rfl, ?_⟩) ?_ ?_
                        rotate_left
                        · intro w'
                          go_simp
                          with_reducible rfl
                        rotate_left
                        · simp only [Act.put, List.setIfInBounds_toArray, List.set_cons_zero, List.set_cons_succ, i64_w, i32_w]
                          rfl
                        refine pure_ (i := 8) (N := some 46) (v := ?_) (a' := ?_) #[true, true, true, true, true, true, true, true, true, false, false, false] rfl rfl (any_of HT_.out (by kernel_rfl)) (fun _ _ _ h => h) (Or.inl ⟨by rfl, ?_⟩) ?_ ?_
                        rotate_left
                        · intro w'
                          go_simp
                          with_reducible rfl
                        rotate_left
                        · simp only [Act.put, List.setIfInBounds_toArray, List.set_cons_zero, List.set_cons_succ, i64_w, i32_w]
                          rfl
                        refine one_ (i := 9) (N := some 8) #[true, true, true, true, true, true, true, true, true, true, false, false] rfl rfl (one_of HT_.out (by kernel_rfl)) (by decide) (fun K hK => ?_)
                        refine box_step ?hg (N := 8) ?hd (cs := #[.int .i64 0, .slice none 0 0, .int .i64 0, .bool false]) (t := 63) ?hr ?_; (case hd => rfl); (case hg => rfl); (case hr => first | (go_simp; done) | (go_simp; rfl))
                        intro gb180 hg w29 hbox hb
                        have HS4_ := (hb.cell (World.block_lt_of_cell? _ _ (hHeld.2.2.2.2))).trans (hHeld.2.2.2.2)
                        have n0_ := Aside0.mk (Kd.R_below (by (with_reducible repeat (first | apply Kd.R_alloc | apply Kd.R_drewN | apply Kd.R_drew)); exact HO_5.out) hb)
                        have n1_ := Aside0.mk (Kd.R_below (by (with_reducible repeat (first | apply Kd.R_alloc | apply Kd.R_drewN | apply Kd.R_drew)); exact HO176.out) hb)
                        have n2_ := Aside0.mk (blk_below (g := gb167) (o := .cells #[.int .i64 x168000_3, .slice none 0 0] 25 (0, 0)) (by (with_reducible repeat (first | refine blk_drewN ?_ _ | refine blk_drew ?_ | refine blk_alloc ?_ _)); exact BK167.out) hb)
                        have n3_ := Aside0.mk (blk_below (g := gb171) (o := .cells #[.int .i64 x172000_3, .slice Ao26 x172001_3.length co26, .int .i64 x172002_3, .bool x172003_3] 63 (0, 0)) (by (with_reducible repeat (first | refine blk_drewN ?_ _ | refine blk_drew ?_ | refine blk_alloc ?_ _)); exact BK171.out) hb)
                        have n4_ := Aside0.mk (below_step (by repeat (first | (with_reducible first | exact HB.out | apply below_alloc | apply pw_below_drewN | apply below_drew1 | refine below_set ?_ GE167.out | refine below_set ?_ GE171.out) | exact HB.out)) hb)
                        have n5_ := Aside0.mk (hbox)
                        have n6_ := Aside0.mk ((by rw [hg]; exact (below_size (by repeat (first | (with_reducible first | exact HB.out | apply below_alloc | apply pw_below_drewN | apply below_drew1 | refine below_set ?_ GE167.out | refine below_set ?_ GE171.out) | exact HB.out))) : w.heap.size ≤ gb180))
                        have n7_ := Aside0.mk ((by rw [hg]; exact (below_size (by repeat (first | (with_reducible first | exact HB.out | apply below_alloc | apply pw_below_drewN | apply below_drew1 | refine below_set ?_ GE167.out | refine below_set ?_ GE171.out) | exact HB.out))) : w.heap.size ≤ gb180))
                        have n8_ := Aside0.mk ((by rw [hg]; exact Nat.ne_of_lt (blk_lt (g := gb167) (o := .cells #[.int .i64 x168000_3, .slice none 0 0] 25 (0, 0)) (by (with_reducible repeat (first | refine blk_drewN ?_ _ | refine blk_drew ?_ | refine blk_alloc ?_ _)); exact BK167.out)) : gb167 ≠ gb180))
                        have n9_ := Aside0.mk ((by rw [hg]; exact Nat.ne_of_gt (blk_lt (g := gb167) (o := .cells #[.int .i64 x168000_3, .slice none 0 0] 25 (0, 0)) (by (with_reducible repeat (first | refine blk_drewN ?_ _ | refine blk_drew ?_ | refine blk_alloc ?_ _)); exact BK167.out)) : gb180 ≠ gb167))
                        have n10_ := Aside0.mk ((by rw [hg]; exact Nat.ne_of_lt (blk_lt (g := gb171) (o := .cells #[.int .i64 x172000_3, .slice Ao26 x172001_3.length co26, .int .i64 x172002_3, .bool x172003_3] 63 (0, 0)) (by (with_reducible repeat (first | refine blk_drewN ?_ _ | refine blk_drew ?_ | refine blk_alloc ?_ _)); exact BK171.out)) : gb171 ≠ gb180))
                        have n11_ := Aside0.mk ((by rw [hg]; exact Nat.ne_of_gt (blk_lt (g := gb171) (o := .cells #[.int .i64 x172000_3, .slice Ao26 x172001_3.length co26, .int .i64 x172002_3, .bool x172003_3] 63 (0, 0)) (by (with_reducible repeat (first | refine blk_drewN ?_ _ | refine blk_drew ?_ | refine blk_alloc ?_ _)); exact BK171.out)) : gb180 ≠ gb171))
                        clear HO_5
                        clear HO176
                        clear BK167
                        clear BK171
                        clear HB
                        have HO_5 := n0_
                        have HO176 := n1_
                        have BK167 := n2_
                        have BK171 := n3_
                        have HB := n4_
                        have BK180 := n5_
                        have GW180 := n6_
                        have GE180 := n7_
                        have NB167_180 := n8_
                        have NB180_167 := n9_
                        have NB171_180 := n10_
                        have NB180_171 := n11_
                        clear n0_ n1_ n2_ n3_ n4_ n5_ n6_ n7_ n8_ n9_ n10_ n11_
                        clear hb hbox hg
                        refine hK.out _ _ ⟨(blk_cell BK171.out 0).trans rfl, (blk_cell BK171.out 1).trans rfl, (blk_cell BK171.out 2).trans rfl, (blk_cell BK171.out 3).trans rfl, HS4_⟩ (fun hHeld => ?_)
                        clear hK K
                        refine norm_ (a' := ?_) ?_ ?_
                        rotate_left
                        · show Act.put _ (some 8) _ = _
                          simp only [Act.put, List.setIfInBounds_toArray, List.set_cons_zero, List.set_cons_succ, i64_w, i32_w]
                          rfl
                        exact norm_ (by simp only [putAll, Act.put, List.setIfInBounds_toArray, List.set_cons_zero, List.set_cons_succ]) (hCont (v175, gb180) _ ⟨hHeld, (by (with_reducible repeat (first | apply Kd.R_alloc | apply Kd.R_drewN | apply Kd.R_drew)); exact HO176.out), (by (with_reducible repeat (first | apply Kd.R_alloc | apply Kd.R_drewN | apply Kd.R_drew)); exact HO_5.out), (by (with_reducible repeat (first | refine blk_drewN ?_ _ | refine blk_drew ?_ | refine blk_alloc ?_ _)); exact BK167.out), (by (with_reducible repeat (first | refine blk_drewN ?_ _ | refine blk_drew ?_ | refine blk_alloc ?_ _)); exact BK171.out), (by (with_reducible repeat (first | refine blk_drewN ?_ _ | refine blk_drew ?_ | refine blk_alloc ?_ _)); exact BK180.out), GW180.out, GE180.out, NB167_180.out, NB180_167.out, NB171_180.out, NB180_171.out, (by repeat (first | (with_reducible first | exact HB.out | apply below_alloc | apply pw_below_drewN | apply below_drew1 | refine below_set ?_ GE167.out | refine below_set ?_ GE171.out | refine below_set ?_ GE180.out) | exact HB.out))⟩)
                      · skip
                        refine box_step ?hg (N := 8) ?hd (cs := #[.int .i64 0, .slice none 0 0, .int .i64 0, .bool false]) (t := 63) ?hr ?_; (case hd => rfl); (case hg => rfl); (case hr => first | (go_simp; done) | (go_simp; rfl))
                        intro gb180 hg w28 hbox hb
                        have HS4_ := (hb.cell (World.block_lt_of_cell? _ _ (hHeld.2.2.2.2))).trans (hHeld.2.2.2.2)
                        have n0_ := Aside0.mk (Kd.R_below (by (with_reducible repeat (first | apply Kd.R_alloc | apply Kd.R_drewN | apply Kd.R_drew)); exact HO_5.out) hb)
                        have n1_ := Aside0.mk (Kd.R_below (by (with_reducible repeat (first | apply Kd.R_alloc | apply Kd.R_drewN | apply Kd.R_drew)); exact HO_172001.out) hb)
                        have n2_ := Aside0.mk (blk_below (g := gb167) (o := .cells #[.int .i64 x168000_3, .slice none 0 0] 25 (0, 0)) (by (with_reducible repeat (first | refine blk_drewN ?_ _ | refine blk_drew ?_ | refine blk_alloc ?_ _)); exact BK167.out) hb)
                        have n3_ := Aside0.mk (blk_below (g := gb171) (o := .cells #[.int .i64 x172000_3, .slice Ao26 x172001_3.length co26, .int .i64 x172002_3, .bool x172003_3] 63 (0, 0)) (by (with_reducible repeat (first | refine blk_drewN ?_ _ | refine blk_drew ?_ | refine blk_alloc ?_ _)); exact BK171.out) hb)
                        have n4_ := Aside0.mk (below_step (by repeat (first | (with_reducible first | exact HB.out | apply below_alloc | apply pw_below_drewN | apply below_drew1 | refine below_set ?_ GE167.out | refine below_set ?_ GE171.out) | exact HB.out)) hb)
                        have n5_ := Aside0.mk (hbox)
                        have n6_ := Aside0.mk ((by rw [hg]; exact (below_size (by repeat (first | (with_reducible first | exact HB.out | apply below_alloc | apply pw_below_drewN | apply below_drew1 | refine below_set ?_ GE167.out | refine below_set ?_ GE171.out) | exact HB.out))) : w.heap.size ≤ gb180))
                        have n7_ := Aside0.mk ((by rw [hg]; exact (below_size (by repeat (first | (with_reducible first | exact HB.out | apply below_alloc | apply pw_below_drewN | apply below_drew1 | refine below_set ?_ GE167.out | refine below_set ?_ GE171.out) | exact HB.out))) : w.heap.size ≤ gb180))
                        have n8_ := Aside0.mk ((by rw [hg]; exact Nat.ne_of_lt (blk_lt (g := gb167) (o := .cells #[.int .i64 x168000_3, .slice none 0 0] 25 (0, 0)) (by (with_reducible repeat (first | refine blk_drewN ?_ _ | refine blk_drew ?_ | refine blk_alloc ?_ _)); exact BK167.out)) : gb167 ≠ gb180))
                        have n9_ := Aside0.mk ((by rw [hg]; exact Nat.ne_of_gt (blk_lt (g := gb167) (o := .cells #[.int .i64 x168000_3, .slice none 0 0] 25 (0, 0)) (by (with_reducible repeat (first | refine blk_drewN ?_ _ | refine blk_drew ?_ | refine blk_alloc ?_ _)); exact BK167.out)) : gb180 ≠ gb167))
                        have n10_ := Aside0.mk ((by rw [hg]; exact Nat.ne_of_lt (blk_lt (g := gb171) (o := .cells #[.int .i64 x172000_3, .slice Ao26 x172001_3.length co26, .int .i64 x172002_3, .bool x172003_3] 63 (0, 0)) (by (with_reducible repeat (first | refine blk_drewN ?_ _ | refine blk_drew ?_ | refine blk_alloc ?_ _)); exact BK171.out)) : gb171 ≠ gb180))
                        have n11_ := Aside0.mk ((by rw [hg]; exact Nat.ne_of_gt (blk_lt (g := gb171) (o := .cells #[.int .i64 x172000_3, .slice Ao26 x172001_3.length co26, .int .i64 x172002_3, .bool x172003_3] 63 (0, 0)) (by (with_reducible repeat (first | refine blk_drewN ?_ _ | refine blk_drew ?_ | refine blk_alloc ?_ _)); exact BK171.out)) : gb180 ≠ gb171))
                        clear HO_5
                        clear HO_172001
                        clear BK167
                        clear BK171
                        clear HB
                        have HO_5 := n0_
                        have HO_172001 := n1_
                        have BK167 := n2_
                        have BK171 := n3_
                        have HB := n4_
                        have BK180 := n5_
                        have GW180 := n6_
                        have GE180 := n7_
                        have NB167_180 := n8_
                        have NB180_167 := n9_
                        have NB171_180 := n10_
                        have NB180_171 := n11_
                        clear n0_ n1_ n2_ n3_ n4_ n5_ n6_ n7_ n8_ n9_ n10_ n11_
                        clear hb hbox hg
                        refine hK.out _ _ ⟨(blk_cell BK171.out 0).trans rfl, (blk_cell BK171.out 1).trans rfl, (blk_cell BK171.out 2).trans rfl, (blk_cell BK171.out 3).trans rfl, HS4_⟩ (fun hHeld => ?_)
                        clear hK K
                        refine norm_ (a' := ?_) ?_ ?_
                        rotate_left
                        · show Act.put _ (some 8) _ = _
                          simp only [Act.put, List.setIfInBounds_toArray, List.set_cons_zero, List.set_cons_succ, i64_w, i32_w]
                          rfl
                        refine one_ (i := 5) (N := some 44) #[true, true, true, true, true, true, false, false, false, true, false, false] rfl rfl (one_of HT_.out (by kernel_rfl)) (by decide) (fun K hK => ?_)
                        refine goes_ Tryd.func26 (by kernel_rfl) rfl #[.agg #[.int .i64 x172000_3, .slice Ao26 x172001_3.length co26, .int .i64 x172002_3, .bool x172003_3], .string (rdOf ByteArray.empty t168 x7_3)] (by rfl) rfl rfl (by (try simp only [List.map_toArray, List.map_cons, List.map_nil]); first | done | rfl | (simp only [List.length_drop, List.length_take]; rfl)) ?_
                        with_reducible refine (postroadref05_line.calls k3 x172000_3 (fun k_ => some k_ = (.slice Ao26 x172001_3.length co26 : Value).ownBlock) (.slice Ao26 x172001_3.length co26) x172001_3 x172002_3 x172003_3 (rdOf ByteArray.empty t168 x7_3) t173 t174 t177 t178 true w _ ?side1 ?side2 A23.out).mono ?_
                        (case side1 => repeat (first | (with_reducible first | exact HB.out | apply below_alloc | apply pw_below_drewN | apply below_drew1 | refine below_set ?_ GE167.out | refine below_set ?_ GE171.out | refine below_set ?_ GE180.out) | exact HB.out))
                        (case side2 => exact Kd.R_tight rfl HO_172001.out)
                        rintro e w29 ⟨v175, rfl, ho0, hb, hkp⟩
                        have HS4_ := cell_kept (hHeld.2.2.2.2) hkp (by first | (rw [add_block]; exact (fun hs_ => ((((Kd.R_apart' HO_5.out (Kd.R_typed HO_172001.out) (by decide))).1 _ rfl).2) hs_)) | (show ¬ _; simp only [add_block]; exact (fun hs_ => ((((Kd.R_apart' HO_5.out (Kd.R_typed HO_172001.out) (by decide))).1 _ rfl).2) hs_)) | exact (fun hs_ => ((((Kd.R_apart' HO_5.out (Kd.R_typed HO_172001.out) (by decide))).1 _ rfl).2) hs_))
                        refine ⟨_, rfl, ?_⟩
                        have n0_ := Aside0.mk (Kd.R_mono (ok' := fun k_ => True) (Kd.R_keptB ((Kd.R_apart' HO_5.out (Kd.R_typed HO_172001.out) (by decide))) hkp (fun k_ hk_ hs_ => (hk_.2) hs_)) (fun k_ hk_ => trivial))
                        have n1_ := Aside0.mk (blk_kept (by (with_reducible repeat (first | refine blk_drewN ?_ _ | refine blk_drew ?_ | refine blk_alloc ?_ _)); exact BK167.out) hkp (fun hs_ => (fun e_ => (Kd.R_ne HO_172001.out BK167.out (by decide)) e_) hs_))
                        have n2_ := Aside0.mk (blk_kept (by (with_reducible repeat (first | refine blk_drewN ?_ _ | refine blk_drew ?_ | refine blk_alloc ?_ _)); exact BK171.out) hkp (fun hs_ => (fun e_ => (Kd.R_ne HO_172001.out BK171.out (by decide)) e_) hs_))
                        have n3_ := Aside0.mk (blk_kept (by (with_reducible repeat (first | refine blk_drewN ?_ _ | refine blk_drew ?_ | refine blk_alloc ?_ _)); exact BK180.out) hkp (fun hs_ => (fun e_ => (Kd.R_ne HO_172001.out BK180.out (by decide)) e_) hs_))
                        have n4_ := Aside0.mk (Kd.R_mono (ok' := fun k_ => True) ho0 (fun k_ hk_ => trivial))
                        have n5_ := Aside0.mk (hb)
                        clear HO_5
                        clear BK167
                        clear BK171
                        clear BK180
                        clear HB
                        clear HO_172001
                        have HO_5 := n0_
                        have BK167 := n1_
                        have BK171 := n2_
                        have BK180 := n3_
                        have HO176 := n4_
                        have HB := n5_
                        clear n0_ n1_ n2_ n3_ n4_ n5_
                        (try clear hb)
                        (try clear hkp)
                        (try clear ho0)
                        refine hK.out _ _ ⟨(blk_cell BK171.out 0).trans rfl, (blk_cell BK171.out 1).trans rfl, (blk_cell BK171.out 2).trans rfl, (blk_cell BK171.out 3).trans rfl, HS4_⟩ (fun hHeld => ?_)
                        clear hK K
                        refine norm_ (a' := ?_) ?_ ?_
                        rotate_left
                        · show Act.put _ (some 44) _ = _
                          simp only [Act.put, List.setIfInBounds_toArray, List.set_cons_zero, List.set_cons_succ, i64_w, i32_w]
                          rfl
                        refine pure_ (i := 6) (N := some 38) (v := ?_) (a' := ?_) #[true, true, true, true, true, true, true, false, false, true, false, false] rfl rfl (any_of HT_.out (by kernel_rfl)) (fun _ _ _ h => h) (Or.inl ⟨by rfl, ?_⟩) ?_ ?_
                        rotate_left
                        · intro w'
                          go_simp
                          with_reducible rfl
                        rotate_left
                        · simp only [Act.put, List.setIfInBounds_toArray, List.set_cons_zero, List.set_cons_succ, i64_w, i32_w]
                          rfl
                        refine pure_ (i := 7) (N := some 45) (v := ?_) (a' := ?_) #[true, true, true, true, true, true, true, true, false, true, false, false] rfl rfl (any_of HT_.out (by kernel_rfl)) (fun _ _ _ h => h) (Or.inl ⟨by rfl, ?_⟩) ?_ ?_
                        rotate_left
                        · intro w'
                          go_simp
                          with_reducible rfl
                        rotate_left
                        · simp only [Act.put, List.setIfInBounds_toArray, List.set_cons_zero, List.set_cons_succ, i64_w, i32_w]
                          rfl
                        refine pure_ (i := 8) (N := some 46) (v := ?_) (a' := ?_) #[true, true, true, true, true, true, true, true, true, true, false, false] rfl rfl (any_of HT_.out (by kernel_rfl)) (fun _ _ _ h => h) (Or.inl ⟨by rfl, ?_⟩) ?_ ?_
                        rotate_left
                        · intro w'
                          go_simp
                          with_reducible rfl
                        rotate_left
                        · simp only [Act.put, List.setIfInBounds_toArray, List.set_cons_zero, List.set_cons_succ, i64_w, i32_w]
                          rfl
                        exact norm_ (by simp only [putAll, Act.put, List.setIfInBounds_toArray, List.set_cons_zero, List.set_cons_succ]) (hCont (v175, gb180) _ ⟨hHeld, (by (with_reducible repeat (first | apply Kd.R_alloc | apply Kd.R_drewN | apply Kd.R_drew)); exact HO176.out), (by (with_reducible repeat (first | apply Kd.R_alloc | apply Kd.R_drewN | apply Kd.R_drew)); exact HO_5.out), (by (with_reducible repeat (first | refine blk_drewN ?_ _ | refine blk_drew ?_ | refine blk_alloc ?_ _)); exact BK167.out), (by (with_reducible repeat (first | refine blk_drewN ?_ _ | refine blk_drew ?_ | refine blk_alloc ?_ _)); exact BK171.out), (by (with_reducible repeat (first | refine blk_drewN ?_ _ | refine blk_drew ?_ | refine blk_alloc ?_ _)); exact BK180.out), GW180.out, GE180.out, NB167_180.out, NB180_167.out, NB171_180.out, NB180_171.out, (by repeat (first | (with_reducible first | exact HB.out | apply below_alloc | apply pw_below_drewN | apply below_drew1 | refine below_set ?_ GE167.out | refine below_set ?_ GE171.out | refine below_set ?_ GE180.out) | exact HB.out))⟩)
                    rintro ⟨v175, gb180⟩ w30 ⟨hS_, h0_, h1_, h2_, h3_, h4_, h5_, h6_, h7_, h8_, h9_, h10_, h11_⟩
                    have n0_ : Aside0 (Kd.R k50 50 w30 w.heap.size (fun _ => True) v175 t174) := ⟨h0_⟩
                    have n1_ : Aside0 (Kd.R Kd.string 9 w30 w.heap.size (fun _ => True) (.slice (some ad172) t168.length co25) t168) := ⟨h1_⟩
                    have n2_ : Aside0 (w30.heap[gb167]? = some (.cells #[.int .i64 x168000_3, .slice none 0 0] 25 (0, 0))) := ⟨h2_⟩
                    have n3_ : Aside0 (w30.heap[gb171]? = some (.cells #[.int .i64 x172000_3, .slice Ao26 x172001_3.length co26, .int .i64 x172002_3, .bool x172003_3] 63 (0, 0))) := ⟨h3_⟩
                    have n4_ : Aside0 (w30.heap[gb180]? = some (.cells #[.int .i64 0, .slice none 0 0, .int .i64 0, .bool false] 63 (0, 0))) := ⟨h4_⟩
                    have n5_ : Aside0 (w.heap.size ≤ gb180) := ⟨h5_⟩
                    have n6_ : Aside0 (w.heap.size ≤ gb180) := ⟨h6_⟩
                    have n7_ : Aside0 (gb167 ≠ gb180) := ⟨h7_⟩
                    have n8_ : Aside0 (gb180 ≠ gb167) := ⟨h8_⟩
                    have n9_ : Aside0 (gb171 ≠ gb180) := ⟨h9_⟩
                    have n10_ : Aside0 (gb180 ≠ gb171) := ⟨h10_⟩
                    have n11_ : Aside0 (Below w.heap.size w w30) := ⟨h11_⟩
                    clear HO_5
                    clear HO_172001
                    clear BK167
                    clear BK171
                    clear HB
                    clear h0_ h1_ h2_ h3_ h4_ h5_ h6_ h7_ h8_ h9_ h10_ h11_
                    have HO176 := n0_
                    have HO_5 := n1_
                    have BK167 := n2_
                    have BK171 := n3_
                    have BK180 := n4_
                    have GW180 := n5_
                    have GE180 := n6_
                    have NB167_180 := n7_
                    have NB180_167 := n8_
                    have NB171_180 := n9_
                    have NB180_171 := n10_
                    have HB := n11_
                    clear n0_ n1_ n2_ n3_ n4_ n5_ n6_ n7_ n8_ n9_ n10_ n11_
                    have hHeld : w30.cell? ⟨gb171, 0, none⟩ = some (.int .i64 x172000_3) ∧ w30.cell? ⟨gb171, 1, none⟩ = some (.slice Ao26 x172001_3.length co26) ∧ w30.cell? ⟨gb171, 2, none⟩ = some (.int .i64 x172002_3) ∧ w30.cell? ⟨gb171, 3, none⟩ = some (.bool x172003_3) ∧ w30.cell? (ad172.add (x7_3).toNat) = some (.string (rdOf ByteArray.empty t168 x7_3)) := hS_
                    obtain ⟨Ao32, co32, eo32⟩ := Kd.R_slice HO176.out
                    (first | subst eo32 | (injection eo32 with f1_ f2_ f3_; have f4_ := f1_.symm; have f5_ := f3_.symm; clear f1_ f2_ f3_; subst f4_; subst f5_))
                    refine norm_ (a' := ?_) ?_ ?_
                    rotate_left
                    · simp only [putAll, Act.put, List.setIfInBounds_toArray, List.set_cons_zero, List.set_cons_succ]
                      rfl
                    refine one_ (i := 10) (N := none) #[true, true, true, true, true, true, true, true, true, true, true, false] rfl rfl (one_of HT_.out (by kernel_rfl)) (by decide) (fun K hK => ?_)
                    have hs31 : w30.cell? ⟨gb180, 0, none⟩ = some (.int .i64 0) := (blk_cell BK180.out 0).trans rfl
                    have hfs31 := blk_frozen BK180.out 0
                    have hns31_0 := NB167_180.out
                    have hns31_1 := NB171_180.out
                    have hms31_0 := NB180_167.out
                    have hms31_1 := NB180_171.out
                    have hs33 : w30.cell? ⟨gb180, 1, none⟩ = some (.slice none 0 0) := (blk_cell BK180.out 1).trans rfl
                    have hfs33 := blk_frozen BK180.out 1
                    have hns33_0 := NB167_180.out
                    have hns33_1 := NB171_180.out
                    have hms33_0 := NB180_167.out
                    have hms33_1 := NB180_171.out
                    have hs34 : w30.cell? ⟨gb180, 2, none⟩ = some (.int .i64 0) := (blk_cell BK180.out 2).trans rfl
                    have hfs34 := blk_frozen BK180.out 2
                    have hns34_0 := NB167_180.out
                    have hns34_1 := NB171_180.out
                    have hms34_0 := NB180_167.out
                    have hms34_1 := NB180_171.out
                    have hs35 : w30.cell? ⟨gb180, 3, none⟩ = some (.bool false) := (blk_cell BK180.out 3).trans rfl
                    have hfs35 := blk_frozen BK180.out 3
                    have hns35_0 := NB167_180.out
                    have hns35_1 := NB171_180.out
                    have hms35_0 := NB180_167.out
                    have hms35_1 := NB180_171.out
                    refine skip_ (w1 := ?_) (by rfl) rfl ?_ ?_
                    rotate_left
                    · go_simp
                      rfl
                    refine hK.out _ _ ⟨((cell_far (p := ⟨gb180, _, none⟩) NB171_180.out _).trans (((cell_far (p := ⟨gb180, _, none⟩) NB171_180.out _).trans (((cell_far (p := ⟨gb180, _, none⟩) NB171_180.out _).trans (((cell_far (p := ⟨gb180, _, none⟩) NB171_180.out _).trans (hHeld.1)))))))), ((cell_far (p := ⟨gb180, _, none⟩) NB171_180.out _).trans (((cell_far (p := ⟨gb180, _, none⟩) NB171_180.out _).trans (((cell_far (p := ⟨gb180, _, none⟩) NB171_180.out _).trans (((cell_far (p := ⟨gb180, _, none⟩) NB171_180.out _).trans (hHeld.2.1)))))))), ((cell_far (p := ⟨gb180, _, none⟩) NB171_180.out _).trans (((cell_far (p := ⟨gb180, _, none⟩) NB171_180.out _).trans (((cell_far (p := ⟨gb180, _, none⟩) NB171_180.out _).trans (((cell_far (p := ⟨gb180, _, none⟩) NB171_180.out _).trans (hHeld.2.2.1)))))))), ((cell_far (p := ⟨gb180, _, none⟩) NB171_180.out _).trans (((cell_far (p := ⟨gb180, _, none⟩) NB171_180.out _).trans (((cell_far (p := ⟨gb180, _, none⟩) NB171_180.out _).trans (((cell_far (p := ⟨gb180, _, none⟩) NB171_180.out _).trans (hHeld.2.2.2.1)))))))), ((cell_far (p := ⟨gb180, _, none⟩) (by first | exact Kd.own_blk (Kd.R_ne HO_5.out BK180.out (by decide)) | (rw [add_block]; exact Kd.own_blk (Kd.R_ne HO_5.out BK180.out (by decide))) | (show (Addr.add _ _).block ≠ _; rw [add_block]; exact Kd.own_blk (Kd.R_ne HO_5.out BK180.out (by decide))) | (dsimp only; exact Kd.own_blk (Kd.R_ne HO_5.out BK180.out (by decide)))) _).trans (((cell_far (p := ⟨gb180, _, none⟩) (by first | exact Kd.own_blk (Kd.R_ne HO_5.out BK180.out (by decide)) | (rw [add_block]; exact Kd.own_blk (Kd.R_ne HO_5.out BK180.out (by decide))) | (show (Addr.add _ _).block ≠ _; rw [add_block]; exact Kd.own_blk (Kd.R_ne HO_5.out BK180.out (by decide))) | (dsimp only; exact Kd.own_blk (Kd.R_ne HO_5.out BK180.out (by decide)))) _).trans (((cell_far (p := ⟨gb180, _, none⟩) (by first | exact Kd.own_blk (Kd.R_ne HO_5.out BK180.out (by decide)) | (rw [add_block]; exact Kd.own_blk (Kd.R_ne HO_5.out BK180.out (by decide))) | (show (Addr.add _ _).block ≠ _; rw [add_block]; exact Kd.own_blk (Kd.R_ne HO_5.out BK180.out (by decide))) | (dsimp only; exact Kd.own_blk (Kd.R_ne HO_5.out BK180.out (by decide)))) _).trans (((cell_far (p := ⟨gb180, _, none⟩) (by first | exact Kd.own_blk (Kd.R_ne HO_5.out BK180.out (by decide)) | (rw [add_block]; exact Kd.own_blk (Kd.R_ne HO_5.out BK180.out (by decide))) | (show (Addr.add _ _).block ≠ _; rw [add_block]; exact Kd.own_blk (Kd.R_ne HO_5.out BK180.out (by decide))) | (dsimp only; exact Kd.own_blk (Kd.R_ne HO_5.out BK180.out (by decide)))) _).trans (hHeld.2.2.2.2))))))))⟩ (fun hHeld => ?_)
                    clear hK K
                    refine pure_ (i := 11) (N := some 9) (v := ?_) (a' := ?_) #[true, true, true, true, true, true, true, true, true, true, true, true] rfl rfl (any_of HT_.out (by kernel_rfl)) (fun _ _ _ h => h) (Or.inl ⟨by rfl, ?_⟩) ?_ ?_
                    rotate_left
                    · intro w'
                      go_simp
                      with_reducible rfl
                    rotate_left
                    · simp only [Act.put, List.setIfInBounds_toArray, List.set_cons_zero, List.set_cons_succ, i64_w, i32_w]
                      rfl
                    refine done_ (done_of HT_.out (by kernel_rfl)) ?_
                    have hnb36 := NB180_167.out
                    have hnc36 := NB167_180.out
                    have hnb37 := NB180_171.out
                    have hnc37 := NB171_180.out
                    have hcz38_0 : w30.cell? ⟨gb180, 0, none⟩ = some (.int .i64 0) := (blk_cell BK180.out 0).trans rfl
                    have hcz38_1 : w30.cell? ⟨gb180, 1, none⟩ = some (.slice none 0 0) := (blk_cell BK180.out 1).trans rfl
                    have hcz38_2 : w30.cell? ⟨gb180, 2, none⟩ = some (.int .i64 0) := (blk_cell BK180.out 2).trans rfl
                    have hcz38_3 : w30.cell? ⟨gb180, 3, none⟩ = some (.bool false) := (blk_cell BK180.out 3).trans rfl
                    have hfz38_0 := blk_frozen BK180.out 0
                    have hfz38_1 := blk_frozen BK180.out 1
                    have hfz38_2 := blk_frozen BK180.out 2
                    have hfz38_3 := blk_frozen BK180.out 3
                    have hnb39 := NB171_167.out
                    have hnc39 := NB167_171.out
                    have hcz40_0 : w30.cell? ⟨gb171, 0, none⟩ = some (.int .i64 x172000_3) := (blk_cell BK171.out 0).trans rfl
                    have hcz40_1 : w30.cell? ⟨gb171, 1, none⟩ = some (.slice Ao26 x172001_3.length co26) := (blk_cell BK171.out 1).trans rfl
                    have hcz40_2 : w30.cell? ⟨gb171, 2, none⟩ = some (.int .i64 x172002_3) := (blk_cell BK171.out 2).trans rfl
                    have hcz40_3 : w30.cell? ⟨gb171, 3, none⟩ = some (.bool x172003_3) := (blk_cell BK171.out 3).trans rfl
                    have hfz40_0 := blk_frozen BK171.out 0
                    have hfz40_1 := blk_frozen BK171.out 1
                    have hfz40_2 := blk_frozen BK171.out 2
                    have hfz40_3 := blk_frozen BK171.out 3
                    try go_wp2
                    go_roundg k3
                    case measure => have := HJ1.out; have := HJ8.out; have := HK3.out; omega
                    case rel => exact ⟨(wrap64 (x7_3 + 1)), (x168000_3), (t173), (t174), (t177), (t178), (.slice Ao32 t174.length co32), (by first | rfl | (simp; done) | (simp [*]; done)), H', ⟨by have := HJ1.out; have := HJ8.out; have := HK3.out; omega⟩, ⟨by (with_reducible repeat (first | apply Kd.R_alloc | apply Kd.R_drewN | apply Kd.R_drew)); exact Kd.R_mono (Kd.R_far (p := ⟨gb171, 3, none⟩) (Kd.R_far (p := ⟨gb171, 2, none⟩) (Kd.R_far (p := ⟨gb171, 1, none⟩) (Kd.R_far (p := ⟨gb171, 0, none⟩) (Kd.R_far (p := ⟨gb180, 3, none⟩) (Kd.R_far (p := ⟨gb180, 2, none⟩) (Kd.R_far (p := ⟨gb180, 1, none⟩) (Kd.R_far (p := ⟨gb180, 0, none⟩) (Kd.R_types (Kd.R_types HO_5.out BK180.out (by decide)) BK171.out (by decide)) (fun _ hk => hk.1.2) (.int .i64 t173)) (fun _ hk => hk.1.2) (.slice Ao32 t174.length co32)) (fun _ hk => hk.1.2) (.int .i64 t177)) (fun _ hk => hk.1.2) (.bool t178)) (fun _ hk => hk.2) (.int .i64 t173)) (fun _ hk => hk.2) (.slice Ao32 t174.length co32)) (fun _ hk => hk.2) (.int .i64 t177)) (fun _ hk => hk.2) (.bool t178)) (fun _ hk => trivial)⟩, ⟨by (with_reducible repeat (first | apply Kd.R_alloc | apply Kd.R_drewN | apply Kd.R_drew)); exact Kd.R_mono (Kd.R_far (p := ⟨gb171, 3, none⟩) (Kd.R_far (p := ⟨gb171, 2, none⟩) (Kd.R_far (p := ⟨gb171, 1, none⟩) (Kd.R_far (p := ⟨gb171, 0, none⟩) (Kd.R_far (p := ⟨gb180, 3, none⟩) (Kd.R_far (p := ⟨gb180, 2, none⟩) (Kd.R_far (p := ⟨gb180, 1, none⟩) (Kd.R_far (p := ⟨gb180, 0, none⟩) (Kd.R_types (Kd.R_types HO176.out BK180.out (by decide)) BK171.out (by decide)) (fun _ hk => hk.1.2) (.int .i64 t173)) (fun _ hk => hk.1.2) (.slice Ao32 t174.length co32)) (fun _ hk => hk.1.2) (.int .i64 t177)) (fun _ hk => hk.1.2) (.bool t178)) (fun _ hk => hk.2) (.int .i64 t173)) (fun _ hk => hk.2) (.slice Ao32 t174.length co32)) (fun _ hk => hk.2) (.int .i64 t177)) (fun _ hk => hk.2) (.bool t178)) (fun _ hk => trivial)⟩, ⟨by (with_reducible repeat (first | refine blk_drewN ?_ _ | refine blk_drew ?_ | refine blk_alloc ?_ _)); refine blk_far ?_ NB167_171.out _; (with_reducible repeat (first | refine blk_drewN ?_ _ | refine blk_drew ?_ | refine blk_alloc ?_ _)); refine blk_far ?_ NB167_171.out _; (with_reducible repeat (first | refine blk_drewN ?_ _ | refine blk_drew ?_ | refine blk_alloc ?_ _)); refine blk_far ?_ NB167_171.out _; (with_reducible repeat (first | refine blk_drewN ?_ _ | refine blk_drew ?_ | refine blk_alloc ?_ _)); refine blk_far ?_ NB167_171.out _; (with_reducible repeat (first | refine blk_drewN ?_ _ | refine blk_drew ?_ | refine blk_alloc ?_ _)); refine blk_far ?_ NB167_180.out _; (with_reducible repeat (first | refine blk_drewN ?_ _ | refine blk_drew ?_ | refine blk_alloc ?_ _)); refine blk_far ?_ NB167_180.out _; (with_reducible repeat (first | refine blk_drewN ?_ _ | refine blk_drew ?_ | refine blk_alloc ?_ _)); refine blk_far ?_ NB167_180.out _; (with_reducible repeat (first | refine blk_drewN ?_ _ | refine blk_drew ?_ | refine blk_alloc ?_ _)); refine blk_far ?_ NB167_180.out _; (with_reducible repeat (first | refine blk_drewN ?_ _ | refine blk_drew ?_ | refine blk_alloc ?_ _)); exact BK167.out⟩, ⟨by (with_reducible repeat (first | refine blk_drewN ?_ _ | refine blk_drew ?_ | refine blk_alloc ?_ _)); refine blk_put (cs := #[.int .i64 t173, .slice Ao32 t174.length co32, .int .i64 t177, .bool x172003_3]) ?_ 3 _ rfl; (with_reducible repeat (first | refine blk_drewN ?_ _ | refine blk_drew ?_ | refine blk_alloc ?_ _)); refine blk_put (cs := #[.int .i64 t173, .slice Ao32 t174.length co32, .int .i64 x172002_3, .bool x172003_3]) ?_ 2 _ rfl; (with_reducible repeat (first | refine blk_drewN ?_ _ | refine blk_drew ?_ | refine blk_alloc ?_ _)); refine blk_put (cs := #[.int .i64 t173, .slice Ao26 x172001_3.length co26, .int .i64 x172002_3, .bool x172003_3]) ?_ 1 _ rfl; (with_reducible repeat (first | refine blk_drewN ?_ _ | refine blk_drew ?_ | refine blk_alloc ?_ _)); refine blk_put (cs := #[.int .i64 x172000_3, .slice Ao26 x172001_3.length co26, .int .i64 x172002_3, .bool x172003_3]) ?_ 0 _ rfl; (with_reducible repeat (first | refine blk_drewN ?_ _ | refine blk_drew ?_ | refine blk_alloc ?_ _)); refine blk_far ?_ NB171_180.out _; (with_reducible repeat (first | refine blk_drewN ?_ _ | refine blk_drew ?_ | refine blk_alloc ?_ _)); refine blk_far ?_ NB171_180.out _; (with_reducible repeat (first | refine blk_drewN ?_ _ | refine blk_drew ?_ | refine blk_alloc ?_ _)); refine blk_far ?_ NB171_180.out _; (with_reducible repeat (first | refine blk_drewN ?_ _ | refine blk_drew ?_ | refine blk_alloc ?_ _)); refine blk_far ?_ NB171_180.out _; (with_reducible repeat (first | refine blk_drewN ?_ _ | refine blk_drew ?_ | refine blk_alloc ?_ _)); exact BK171.out⟩, ⟨by repeat (first | (with_reducible first | exact HB.out | apply below_alloc | apply pw_below_drewN | apply below_drew1 | refine below_set ?_ GE167.out | refine below_set ?_ GE171.out | refine below_set ?_ GE180.out) | exact HB.out)⟩⟩
                  · replace c24 := Bool.eq_false_iff.mpr c24
                    subst c24
                    have H1 : (some (0, ([] : List (S50)), 12, wrap64 (x7_3 + 1))) = some (r1, r2, r3, r4) := by rw [if_neg (show ¬ (false = true) by decide)] at H; exact H
                    clear H
                    have H := H1
                    clear H1
                    simp only [Option.some.injEq, Prod.mk.injEq] at H
                    obtain ⟨rfl, rfl, rfl, rfl⟩ := H
                    obtain ⟨Ao41, co41, eo41⟩ := Kd.R_slice HO_5.out
                    subst eo41
                    obtain ⟨Ao42, co42, eo42⟩ := Kd.R_slice HO_172001.out
                    subst eo42
                    try go_wp2
                    have n0_ := Aside0.mk (Kd.R_drew HO_5.out)
                    have n1_ := Aside0.mk (Kd.R_drew HO_172001.out)
                    have n2_ := Aside0.mk (blk_drew BK167.out)
                    have n3_ := Aside0.mk (blk_drew BK171.out)
                    have n4_ := Aside0.mk (below_drew1 HB.out)
                    clear HO_5
                    clear HO_172001
                    clear BK167
                    clear BK171
                    clear HB
                    have HO_5 := n0_
                    have HO_172001 := n1_
                    have BK167 := n2_
                    have BK171 := n3_
                    have HB := n4_
                    clear n0_ n1_ n2_ n3_ n4_
                    have p172 : 0 ≤ (x7_3 : Int) := of_decide_eq_true (by first | (with_reducible assumption) | assumption)
                    have q172 : x7_3 < (t168.length : Int) := of_decide_eq_true (by first | (with_reducible assumption) | assumption)
                    obtain ⟨ad172, e172, hx172_0⟩ := Kd.at_string (Kd.R_reads' HO_5.out).2.2 x7_3 p172 q172
                    cases e172
                    replace p172 := eq_true p172
                    replace q172 := eq_true q172
                    refine start_ (n := 12) (S := fun w' => w'.cell? ⟨gb171, 0, none⟩ = some (.int .i64 x172000_3) ∧ w'.cell? ⟨gb171, 1, none⟩ = some (.slice Ao42 x172001_3.length co42) ∧ w'.cell? ⟨gb171, 2, none⟩ = some (.int .i64 x172002_3) ∧ w'.cell? ⟨gb171, 3, none⟩ = some (.bool x172003_3) ∧ w'.cell? (ad172.add (x7_3).toNat) = some (.string (rdOf ByteArray.empty t168 x7_3))) (ds := []) #[false, false, false, false, false, false, false, false, false, false, false, false] (by kernel_rfl) rfl rfl ⟨(blk_cell BK171.out 0).trans rfl, (blk_cell BK171.out 1).trans rfl, (blk_cell BK171.out 2).trans rfl, (blk_cell BK171.out 3).trans rfl, hx172_0⟩ (fun hHeld => ?_); refine with_tabW postroadref05_Parse.tab10 postroadref05_Parse.bits10 (fun HT_ HW_ => ?_)
                    generalize wr.drew = w43 at HO_5 HO_172001 BK167 BK171 HB hx172_0 hHeld ⊢
                    refine pure_ (i := 1) (N := some 40) (v := ?_) (a' := ?_) #[false, true, false, false, false, false, false, false, false, false, false, false] rfl rfl (any_of HT_.out (by kernel_rfl)) (fun _ _ _ h => h) (Or.inl ⟨by rfl, ?_⟩) ?_ ?_
                    rotate_left
                    · intro w'
                      go_simp
                      with_reducible rfl
                    rotate_left
                    · simp only [Act.put, List.setIfInBounds_toArray, List.set_cons_zero, List.set_cons_succ, i64_w, i32_w]
                      rfl
                    refine pure_ (i := 2) (N := some 41) (v := ?_) (a' := ?_) #[false, true, true, false, false, false, false, false, false, false, false, false] rfl rfl (any_of HT_.out (by kernel_rfl)) (fun _ _ _ h => h) (Or.inl ⟨by rfl, ?_⟩) ?_ ?_
                    rotate_left
                    · intro w'
                      go_simp
                      with_reducible rfl
                    rotate_left
                    · simp only [Act.put, List.setIfInBounds_toArray, List.set_cons_zero, List.set_cons_succ, i64_w, i32_w]
                      rfl
                    refine pure_ (i := 3) (N := some 42) (v := ?_) (a' := ?_) #[false, true, true, true, false, false, false, false, false, false, false, false] rfl rfl (any_of HT_.out (by kernel_rfl)) (fun _ _ _ h => h) (Or.inl ⟨by rfl, ?_⟩) ?_ ?_
                    rotate_left
                    · intro w'
                      go_simp
                      with_reducible rfl
                    rotate_left
                    · simp only [Act.put, List.setIfInBounds_toArray, List.set_cons_zero, List.set_cons_succ, i64_w, i32_w]
                      rfl
                    refine take_ (i := 0) (N := some 39) (v := ?_) (a' := ?_) #[true, true, true, true, false, false, false, false, false, false, false, false] rfl rfl (take_ofW HT_.out HW_.out (by kernel_rfl)) (fun _ _ _ h => h) (Or.inl ⟨by rfl, ?_⟩) hHeld ?_ ?_
                    rotate_left
                    · rintro w' ⟨s0, s1, s2, s3, s4⟩
                      go_simp
                      with_reducible rfl
                    rotate_left
                    · simp only [Act.put, List.setIfInBounds_toArray, List.set_cons_zero, List.set_cons_succ, i64_w, i32_w]
                      rfl
                    refine take_ (i := 4) (N := some 43) (v := ?_) (a' := ?_) #[true, true, true, true, true, false, false, false, false, false, false, false] rfl rfl (take_ofW HT_.out HW_.out (by kernel_rfl)) (fun _ _ _ h => h) (Or.inl ⟨by rfl, ?_⟩) hHeld ?_ ?_
                    rotate_left
                    · rintro w' ⟨s0, s1, s2, s3, s4⟩
                      go_simp
                      with_reducible rfl
                    rotate_left
                    · simp only [Act.put, List.setIfInBounds_toArray, List.set_cons_zero, List.set_cons_succ, i64_w, i32_w]
                      rfl
                    refine join_ (σ := Value × Nat) 2 #[true, true, true, true, true, true, true, true, true, true, false, false] (fun s_ => [(44, .tuple #[.agg #[.int .i64 t173, s_.1, .int .i64 t177, .bool t178], .bool false]), (8, .pointer (some ⟨s_.2, 0, none⟩)), (38, .tuple #[.agg #[.int .i64 t173, s_.1, .int .i64 t177, .bool t178], .bool false]), (45, .agg #[.int .i64 t173, s_.1, .int .i64 t177, .bool t178]), (46, .bool false)]) (fun s_ w' => (w'.cell? ⟨gb171, 0, none⟩ = some (.int .i64 x172000_3) ∧ w'.cell? ⟨gb171, 1, none⟩ = some (.slice Ao42 x172001_3.length co42) ∧ w'.cell? ⟨gb171, 2, none⟩ = some (.int .i64 x172002_3) ∧ w'.cell? ⟨gb171, 3, none⟩ = some (.bool x172003_3) ∧ w'.cell? (ad172.add (x7_3).toNat) = some (.string (rdOf ByteArray.empty t168 x7_3))) ∧ (Kd.R k50 50 w' w.heap.size (fun _ => True) s_.1 t174) ∧ (Kd.R Kd.string 9 w' w.heap.size (fun _ => True) (.slice (some ad172) t168.length co41) t168) ∧ (w'.heap[gb167]? = some (.cells #[.int .i64 x168000_3, .slice none 0 0] 25 (0, 0))) ∧ (w'.heap[gb171]? = some (.cells #[.int .i64 x172000_3, .slice Ao42 x172001_3.length co42, .int .i64 x172002_3, .bool x172003_3] 63 (0, 0))) ∧ (w'.heap[s_.2]? = some (.cells #[.int .i64 0, .slice none 0 0, .int .i64 0, .bool false] 63 (0, 0))) ∧ (w.heap.size ≤ s_.2) ∧ (w.heap.size ≤ s_.2) ∧ (gb167 ≠ s_.2) ∧ (s_.2 ≠ gb167) ∧ (gb171 ≠ s_.2) ∧ (s_.2 ≠ gb171) ∧ (Below w.heap.size w w')) ?_ ?_
                    rotate_left
                    · intro hCont
                      refine two_ (i := 5) (j := 9) (Ni := some 44) (Nj := some 8) #[true, true, true, true, true, true, false, false, false, false, false, false] #[true, true, true, true, true, false, false, false, false, true, false, false] rfl rfl rfl rfl (two_of HT_.out (by kernel_rfl)) (by decide) (by decide) (fun K hK => ?_) (fun K hK => ?_)
                      · skip
                        refine goes_ Tryd.func26 (by kernel_rfl) rfl #[.agg #[.int .i64 x172000_3, .slice Ao42 x172001_3.length co42, .int .i64 x172002_3, .bool x172003_3], .string (rdOf ByteArray.empty t168 x7_3)] (by rfl) rfl rfl (by (try simp only [List.map_toArray, List.map_cons, List.map_nil]); first | done | rfl | (simp only [List.length_drop, List.length_take]; rfl)) ?_
                        with_reducible refine (postroadref05_line.calls k3 x172000_3 (fun k_ => some k_ = (.slice Ao42 x172001_3.length co42 : Value).ownBlock) (.slice Ao42 x172001_3.length co42) x172001_3 x172002_3 x172003_3 (rdOf ByteArray.empty t168 x7_3) t173 t174 t177 t178 false w _ ?side1 ?side2 A23.out).mono ?_
                        (case side1 => repeat (first | (with_reducible first | exact HB.out | apply below_alloc | apply pw_below_drewN | apply below_drew1 | refine below_set ?_ GE167.out | refine below_set ?_ GE171.out) | exact HB.out))
                        (case side2 => exact Kd.R_tight rfl HO_172001.out)
                        rintro e w44 ⟨v175, rfl, ho0, hb, hkp⟩
                        have HS4_ := cell_kept (hHeld.2.2.2.2) hkp (by first | (rw [add_block]; exact (fun hs_ => ((((Kd.R_apart' HO_5.out (Kd.R_typed HO_172001.out) (by decide))).1 _ rfl).2) hs_)) | (show ¬ _; simp only [add_block]; exact (fun hs_ => ((((Kd.R_apart' HO_5.out (Kd.R_typed HO_172001.out) (by decide))).1 _ rfl).2) hs_)) | exact (fun hs_ => ((((Kd.R_apart' HO_5.out (Kd.R_typed HO_172001.out) (by decide))).1 _ rfl).2) hs_))
                        refine ⟨_, rfl, ?_⟩
                        have n0_ := Aside0.mk (Kd.R_mono (ok' := fun k_ => True) (Kd.R_keptB ((Kd.R_apart' HO_5.out (Kd.R_typed HO_172001.out) (by decide))) hkp (fun k_ hk_ hs_ => (hk_.2) hs_)) (fun k_ hk_ => trivial))
                        have n1_ := Aside0.mk (blk_kept (by (with_reducible repeat (first | refine blk_drewN ?_ _ | refine blk_drew ?_ | refine blk_alloc ?_ _)); exact BK167.out) hkp (fun hs_ => (fun e_ => (Kd.R_ne HO_172001.out BK167.out (by decide)) e_) hs_))
                        have n2_ := Aside0.mk (blk_kept (by (with_reducible repeat (first | refine blk_drewN ?_ _ | refine blk_drew ?_ | refine blk_alloc ?_ _)); exact BK171.out) hkp (fun hs_ => (fun e_ => (Kd.R_ne HO_172001.out BK171.out (by decide)) e_) hs_))
                        have n3_ := Aside0.mk (Kd.R_mono (ok' := fun k_ => True) ho0 (fun k_ hk_ => trivial))
                        have n4_ := Aside0.mk (hb)
                        clear HO_5
                        clear BK167
                        clear BK171
                        clear HB
                        clear HO_172001
                        have HO_5 := n0_
                        have BK167 := n1_
                        have BK171 := n2_
                        have HO176 := n3_
                        have HB := n4_
                        clear n0_ n1_ n2_ n3_ n4_
                        (try clear hb)
                        (try clear hkp)
                        (try clear ho0)
                        refine hK.out _ _ ⟨(blk_cell BK171.out 0).trans rfl, (blk_cell BK171.out 1).trans rfl, (blk_cell BK171.out 2).trans rfl, (blk_cell BK171.out 3).trans rfl, HS4_⟩ (fun hHeld => ?_)
                        clear hK K
                        refine norm_ (a' := ?_) ?_ ?_
                        rotate_left
                        · show Act.put _ (some 44) _ = _
                          simp only [Act.put, List.setIfInBounds_toArray, List.set_cons_zero, List.set_cons_succ, i64_w, i32_w]
                          rfl
                        refine pure_ (i := 6) (N := some 38) (v := ?_) (a' := ?_) #[true, true, true, true, true, true, true, false, false, false, false, false] rfl rfl (any_of HT_.out (by kernel_rfl)) (fun _ _ _ h => h) (Or.inl ⟨by rfl, ?_⟩) ?_ ?_
                        rotate_left
                        · intro w'
                          go_simp
                          with_reducible rfl
                        rotate_left
                        · simp only [Act.put, List.setIfInBounds_toArray, List.set_cons_zero, List.set_cons_succ, i64_w, i32_w]
                          rfl
                        refine pure_ (i := 7) (N := some 45) (v := ?_) (a' := ?_) #[true, true, true, true, true, true, true, true, false, false, false, false] rfl rfl (any_of HT_.out (by kernel_rfl)) (fun _ _ _ h => h) (Or.inl ⟨by rfl, ?_⟩) ?_ ?_
                        rotate_left
                        · intro w'
                          go_simp
                          with_reducible rfl
                        rotate_left
                        · simp only [Act.put, List.setIfInBounds_toArray, List.set_cons_zero, List.set_cons_succ, i64_w, i32_w]
                          rfl
                        refine pure_ (i := 8) (N := some 46) (v := ?_) (a' := ?_) #[true, true, true, true, true, true, true, true, true, false, false, false] rfl rfl (any_of HT_.out (by kernel_rfl)) (fun _ _ _ h => h) (Or.inl ⟨by rfl, ?_⟩) ?_ ?_
                        rotate_left
                        · intro w'
                          go_simp
                          with_reducible rfl
                        rotate_left
                        · simp only [Act.put, List.setIfInBounds_toArray, List.set_cons_zero, List.set_cons_succ, i64_w, i32_w]
                          rfl
                        refine one_ (i := 9) (N := some 8) #[true, true, true, true, true, true, true, true, true, true, false, false] rfl rfl (one_of HT_.out (by kernel_rfl)) (by decide) (fun K hK => ?_)
                        refine box_step ?hg (N := 8) ?hd (cs := #[.int .i64 0, .slice none 0 0, .int .i64 0, .bool false]) (t := 63) ?hr ?_; (case hd => rfl); (case hg => rfl); (case hr => first | (go_simp; done) | (go_simp; rfl))
                        intro gb180 hg w45 hbox hb
                        have HS4_ := (hb.cell (World.block_lt_of_cell? _ _ (hHeld.2.2.2.2))).trans (hHeld.2.2.2.2)
                        have n0_ := Aside0.mk (Kd.R_below (by (with_reducible repeat (first | apply Kd.R_alloc | apply Kd.R_drewN | apply Kd.R_drew)); exact HO_5.out) hb)
                        have n1_ := Aside0.mk (Kd.R_below (by (with_reducible repeat (first | apply Kd.R_alloc | apply Kd.R_drewN | apply Kd.R_drew)); exact HO176.out) hb)
                        have n2_ := Aside0.mk (blk_below (g := gb167) (o := .cells #[.int .i64 x168000_3, .slice none 0 0] 25 (0, 0)) (by (with_reducible repeat (first | refine blk_drewN ?_ _ | refine blk_drew ?_ | refine blk_alloc ?_ _)); exact BK167.out) hb)
                        have n3_ := Aside0.mk (blk_below (g := gb171) (o := .cells #[.int .i64 x172000_3, .slice Ao42 x172001_3.length co42, .int .i64 x172002_3, .bool x172003_3] 63 (0, 0)) (by (with_reducible repeat (first | refine blk_drewN ?_ _ | refine blk_drew ?_ | refine blk_alloc ?_ _)); exact BK171.out) hb)
                        have n4_ := Aside0.mk (below_step (by repeat (first | (with_reducible first | exact HB.out | apply below_alloc | apply pw_below_drewN | apply below_drew1 | refine below_set ?_ GE167.out | refine below_set ?_ GE171.out) | exact HB.out)) hb)
                        have n5_ := Aside0.mk (hbox)
                        have n6_ := Aside0.mk ((by rw [hg]; exact (below_size (by repeat (first | (with_reducible first | exact HB.out | apply below_alloc | apply pw_below_drewN | apply below_drew1 | refine below_set ?_ GE167.out | refine below_set ?_ GE171.out) | exact HB.out))) : w.heap.size ≤ gb180))
                        have n7_ := Aside0.mk ((by rw [hg]; exact (below_size (by repeat (first | (with_reducible first | exact HB.out | apply below_alloc | apply pw_below_drewN | apply below_drew1 | refine below_set ?_ GE167.out | refine below_set ?_ GE171.out) | exact HB.out))) : w.heap.size ≤ gb180))
                        have n8_ := Aside0.mk ((by rw [hg]; exact Nat.ne_of_lt (blk_lt (g := gb167) (o := .cells #[.int .i64 x168000_3, .slice none 0 0] 25 (0, 0)) (by (with_reducible repeat (first | refine blk_drewN ?_ _ | refine blk_drew ?_ | refine blk_alloc ?_ _)); exact BK167.out)) : gb167 ≠ gb180))
                        have n9_ := Aside0.mk ((by rw [hg]; exact Nat.ne_of_gt (blk_lt (g := gb167) (o := .cells #[.int .i64 x168000_3, .slice none 0 0] 25 (0, 0)) (by (with_reducible repeat (first | refine blk_drewN ?_ _ | refine blk_drew ?_ | refine blk_alloc ?_ _)); exact BK167.out)) : gb180 ≠ gb167))
                        have n10_ := Aside0.mk ((by rw [hg]; exact Nat.ne_of_lt (blk_lt (g := gb171) (o := .cells #[.int .i64 x172000_3, .slice Ao42 x172001_3.length co42, .int .i64 x172002_3, .bool x172003_3] 63 (0, 0)) (by (with_reducible repeat (first | refine blk_drewN ?_ _ | refine blk_drew ?_ | refine blk_alloc ?_ _)); exact BK171.out)) : gb171 ≠ gb180))
                        have n11_ := Aside0.mk ((by rw [hg]; exact Nat.ne_of_gt (blk_lt (g := gb171) (o := .cells #[.int .i64 x172000_3, .slice Ao42 x172001_3.length co42, .int .i64 x172002_3, .bool x172003_3] 63 (0, 0)) (by (with_reducible repeat (first | refine blk_drewN ?_ _ | refine blk_drew ?_ | refine blk_alloc ?_ _)); exact BK171.out)) : gb180 ≠ gb171))
                        clear HO_5
                        clear HO176
                        clear BK167
                        clear BK171
                        clear HB
                        have HO_5 := n0_
                        have HO176 := n1_
                        have BK167 := n2_
                        have BK171 := n3_
                        have HB := n4_
                        have BK180 := n5_
                        have GW180 := n6_
                        have GE180 := n7_
                        have NB167_180 := n8_
                        have NB180_167 := n9_
                        have NB171_180 := n10_
                        have NB180_171 := n11_
                        clear n0_ n1_ n2_ n3_ n4_ n5_ n6_ n7_ n8_ n9_ n10_ n11_
                        clear hb hbox hg
                        refine hK.out _ _ ⟨(blk_cell BK171.out 0).trans rfl, (blk_cell BK171.out 1).trans rfl, (blk_cell BK171.out 2).trans rfl, (blk_cell BK171.out 3).trans rfl, HS4_⟩ (fun hHeld => ?_)
                        clear hK K
                        refine norm_ (a' := ?_) ?_ ?_
                        rotate_left
                        · show Act.put _ (some 8) _ = _
                          simp only [Act.put, List.setIfInBounds_toArray, List.set_cons_zero, List.set_cons_succ, i64_w, i32_w]
                          rfl
                        exact norm_ (by simp only [putAll, Act.put, List.setIfInBounds_toArray, List.set_cons_zero, List.set_cons_succ]) (hCont (v175, gb180) _ ⟨hHeld, (by (with_reducible repeat (first | apply Kd.R_alloc | apply Kd.R_drewN | apply Kd.R_drew)); exact HO176.out), (by (with_reducible repeat (first | apply Kd.R_alloc | apply Kd.R_drewN | apply Kd.R_drew)); exact HO_5.out), (by (with_reducible repeat (first | refine blk_drewN ?_ _ | refine blk_drew ?_ | refine blk_alloc ?_ _)); exact BK167.out), (by (with_reducible repeat (first | refine blk_drewN ?_ _ | refine blk_drew ?_ | refine blk_alloc ?_ _)); exact BK171.out), (by (with_reducible repeat (first | refine blk_drewN ?_ _ | refine blk_drew ?_ | refine blk_alloc ?_ _)); exact BK180.out), GW180.out, GE180.out, NB167_180.out, NB180_167.out, NB171_180.out, NB180_171.out, (by repeat (first | (with_reducible first | exact HB.out | apply below_alloc | apply pw_below_drewN | apply below_drew1 | refine below_set ?_ GE167.out | refine below_set ?_ GE171.out | refine below_set ?_ GE180.out) | exact HB.out))⟩)
                      · skip
                        refine box_step ?hg (N := 8) ?hd (cs := #[.int .i64 0, .slice none 0 0, .int .i64 0, .bool false]) (t := 63) ?hr ?_; (case hd => rfl); (case hg => rfl); (case hr => first | (go_simp; done) | (go_simp; rfl))
                        intro gb180 hg w44 hbox hb
                        have HS4_ := (hb.cell (World.block_lt_of_cell? _ _ (hHeld.2.2.2.2))).trans (hHeld.2.2.2.2)
                        have n0_ := Aside0.mk (Kd.R_below (by (with_reducible repeat (first | apply Kd.R_alloc | apply Kd.R_drewN | apply Kd.R_drew)); exact HO_5.out) hb)
                        have n1_ := Aside0.mk (Kd.R_below (by (with_reducible repeat (first | apply Kd.R_alloc | apply Kd.R_drewN | apply Kd.R_drew)); exact HO_172001.out) hb)
                        have n2_ := Aside0.mk (blk_below (g := gb167) (o := .cells #[.int .i64 x168000_3, .slice none 0 0] 25 (0, 0)) (by (with_reducible repeat (first | refine blk_drewN ?_ _ | refine blk_drew ?_ | refine blk_alloc ?_ _)); exact BK167.out) hb)
                        have n3_ := Aside0.mk (blk_below (g := gb171) (o := .cells #[.int .i64 x172000_3, .slice Ao42 x172001_3.length co42, .int .i64 x172002_3, .bool x172003_3] 63 (0, 0)) (by (with_reducible repeat (first | refine blk_drewN ?_ _ | refine blk_drew ?_ | refine blk_alloc ?_ _)); exact BK171.out) hb)
                        have n4_ := Aside0.mk (below_step (by repeat (first | (with_reducible first | exact HB.out | apply below_alloc | apply pw_below_drewN | apply below_drew1 | refine below_set ?_ GE167.out | refine below_set ?_ GE171.out) | exact HB.out)) hb)
                        have n5_ := Aside0.mk (hbox)
                        have n6_ := Aside0.mk ((by rw [hg]; exact (below_size (by repeat (first | (with_reducible first | exact HB.out | apply below_alloc | apply pw_below_drewN | apply below_drew1 | refine below_set ?_ GE167.out | refine below_set ?_ GE171.out) | exact HB.out))) : w.heap.size ≤ gb180))
                        have n7_ := Aside0.mk ((by rw [hg]; exact (below_size (by repeat (first | (with_reducible first | exact HB.out | apply below_alloc | apply pw_below_drewN | apply below_drew1 | refine below_set ?_ GE167.out | refine below_set ?_ GE171.out) | exact HB.out))) : w.heap.size ≤ gb180))
                        have n8_ := Aside0.mk ((by rw [hg]; exact Nat.ne_of_lt (blk_lt (g := gb167) (o := .cells #[.int .i64 x168000_3, .slice none 0 0] 25 (0, 0)) (by (with_reducible repeat (first | refine blk_drewN ?_ _ | refine blk_drew ?_ | refine blk_alloc ?_ _)); exact BK167.out)) : gb167 ≠ gb180))
                        have n9_ := Aside0.mk ((by rw [hg]; exact Nat.ne_of_gt (blk_lt (g := gb167) (o := .cells #[.int .i64 x168000_3, .slice none 0 0] 25 (0, 0)) (by (with_reducible repeat (first | refine blk_drewN ?_ _ | refine blk_drew ?_ | refine blk_alloc ?_ _)); exact BK167.out)) : gb180 ≠ gb167))
                        have n10_ := Aside0.mk ((by rw [hg]; exact Nat.ne_of_lt (blk_lt (g := gb171) (o := .cells #[.int .i64 x172000_3, .slice Ao42 x172001_3.length co42, .int .i64 x172002_3, .bool x172003_3] 63 (0, 0)) (by (with_reducible repeat (first | refine blk_drewN ?_ _ | refine blk_drew ?_ | refine blk_alloc ?_ _)); exact BK171.out)) : gb171 ≠ gb180))
                        have n11_ := Aside0.mk ((by rw [hg]; exact Nat.ne_of_gt (blk_lt (g := gb171) (o := .cells #[.int .i64 x172000_3, .slice Ao42 x172001_3.length co42, .int .i64 x172002_3, .bool x172003_3] 63 (0, 0)) (by (with_reducible repeat (first | refine blk_drewN ?_ _ | refine blk_drew ?_ | refine blk_alloc ?_ _)); exact BK171.out)) : gb180 ≠ gb171))
                        clear HO_5
                        clear HO_172001
                        clear BK167
                        clear BK171
                        clear HB
                        have HO_5 := n0_
                        have HO_172001 := n1_
                        have BK167 := n2_
                        have BK171 := n3_
                        have HB := n4_
                        have BK180 := n5_
                        have GW180 := n6_
                        have GE180 := n7_
                        have NB167_180 := n8_
                        have NB180_167 := n9_
                        have NB171_180 := n10_
                        have NB180_171 := n11_
                        clear n0_ n1_ n2_ n3_ n4_ n5_ n6_ n7_ n8_ n9_ n10_ n11_
                        clear hb hbox hg
                        refine hK.out _ _ ⟨(blk_cell BK171.out 0).trans rfl, (blk_cell BK171.out 1).trans rfl, (blk_cell BK171.out 2).trans rfl, (blk_cell BK171.out 3).trans rfl, HS4_⟩ (fun hHeld => ?_)
                        clear hK K
                        refine norm_ (a' := ?_) ?_ ?_
                        rotate_left
                        · show Act.put _ (some 8) _ = _
                          simp only [Act.put, List.setIfInBounds_toArray, List.set_cons_zero, List.set_cons_succ, i64_w, i32_w]
                          rfl
                        refine one_ (i := 5) (N := some 44) #[true, true, true, true, true, true, false, false, false, true, false, false] rfl rfl (one_of HT_.out (by kernel_rfl)) (by decide) (fun K hK => ?_)
                        refine goes_ Tryd.func26 (by kernel_rfl) rfl #[.agg #[.int .i64 x172000_3, .slice Ao42 x172001_3.length co42, .int .i64 x172002_3, .bool x172003_3], .string (rdOf ByteArray.empty t168 x7_3)] (by rfl) rfl rfl (by (try simp only [List.map_toArray, List.map_cons, List.map_nil]); first | done | rfl | (simp only [List.length_drop, List.length_take]; rfl)) ?_
                        with_reducible refine (postroadref05_line.calls k3 x172000_3 (fun k_ => some k_ = (.slice Ao42 x172001_3.length co42 : Value).ownBlock) (.slice Ao42 x172001_3.length co42) x172001_3 x172002_3 x172003_3 (rdOf ByteArray.empty t168 x7_3) t173 t174 t177 t178 false w _ ?side1 ?side2 A23.out).mono ?_
                        (case side1 => repeat (first | (with_reducible first | exact HB.out | apply below_alloc | apply pw_below_drewN | apply below_drew1 | refine below_set ?_ GE167.out | refine below_set ?_ GE171.out | refine below_set ?_ GE180.out) | exact HB.out))
                        (case side2 => exact Kd.R_tight rfl HO_172001.out)
                        rintro e w45 ⟨v175, rfl, ho0, hb, hkp⟩
                        have HS4_ := cell_kept (hHeld.2.2.2.2) hkp (by first | (rw [add_block]; exact (fun hs_ => ((((Kd.R_apart' HO_5.out (Kd.R_typed HO_172001.out) (by decide))).1 _ rfl).2) hs_)) | (show ¬ _; simp only [add_block]; exact (fun hs_ => ((((Kd.R_apart' HO_5.out (Kd.R_typed HO_172001.out) (by decide))).1 _ rfl).2) hs_)) | exact (fun hs_ => ((((Kd.R_apart' HO_5.out (Kd.R_typed HO_172001.out) (by decide))).1 _ rfl).2) hs_))
                        refine ⟨_, rfl, ?_⟩
                        have n0_ := Aside0.mk (Kd.R_mono (ok' := fun k_ => True) (Kd.R_keptB ((Kd.R_apart' HO_5.out (Kd.R_typed HO_172001.out) (by decide))) hkp (fun k_ hk_ hs_ => (hk_.2) hs_)) (fun k_ hk_ => trivial))
                        have n1_ := Aside0.mk (blk_kept (by (with_reducible repeat (first | refine blk_drewN ?_ _ | refine blk_drew ?_ | refine blk_alloc ?_ _)); exact BK167.out) hkp (fun hs_ => (fun e_ => (Kd.R_ne HO_172001.out BK167.out (by decide)) e_) hs_))
                        have n2_ := Aside0.mk (blk_kept (by (with_reducible repeat (first | refine blk_drewN ?_ _ | refine blk_drew ?_ | refine blk_alloc ?_ _)); exact BK171.out) hkp (fun hs_ => (fun e_ => (Kd.R_ne HO_172001.out BK171.out (by decide)) e_) hs_))
                        have n3_ := Aside0.mk (blk_kept (by (with_reducible repeat (first | refine blk_drewN ?_ _ | refine blk_drew ?_ | refine blk_alloc ?_ _)); exact BK180.out) hkp (fun hs_ => (fun e_ => (Kd.R_ne HO_172001.out BK180.out (by decide)) e_) hs_))
                        have n4_ := Aside0.mk (Kd.R_mono (ok' := fun k_ => True) ho0 (fun k_ hk_ => trivial))
                        have n5_ := Aside0.mk (hb)
                        clear HO_5
                        clear BK167
                        clear BK171
                        clear BK180
                        clear HB
                        clear HO_172001
                        have HO_5 := n0_
                        have BK167 := n1_
                        have BK171 := n2_
                        have BK180 := n3_
                        have HO176 := n4_
                        have HB := n5_
                        clear n0_ n1_ n2_ n3_ n4_ n5_
                        (try clear hb)
                        (try clear hkp)
                        (try clear ho0)
                        refine hK.out _ _ ⟨(blk_cell BK171.out 0).trans rfl, (blk_cell BK171.out 1).trans rfl, (blk_cell BK171.out 2).trans rfl, (blk_cell BK171.out 3).trans rfl, HS4_⟩ (fun hHeld => ?_)
                        clear hK K
                        refine norm_ (a' := ?_) ?_ ?_
                        rotate_left
                        · show Act.put _ (some 44) _ = _
                          simp only [Act.put, List.setIfInBounds_toArray, List.set_cons_zero, List.set_cons_succ, i64_w, i32_w]
                          rfl
                        refine pure_ (i := 6) (N := some 38) (v := ?_) (a' := ?_) #[true, true, true, true, true, true, true, false, false, true, false, false] rfl rfl (any_of HT_.out (by kernel_rfl)) (fun _ _ _ h => h) (Or.inl ⟨by rfl, ?_⟩) ?_ ?_
                        rotate_left
                        · intro w'
                          go_simp
                          with_reducible rfl
                        rotate_left
                        · simp only [Act.put, List.setIfInBounds_toArray, List.set_cons_zero, List.set_cons_succ, i64_w, i32_w]
                          rfl
                        refine pure_ (i := 7) (N := some 45) (v := ?_) (a' := ?_) #[true, true, true, true, true, true, true, true, false, true, false, false] rfl rfl (any_of HT_.out (by kernel_rfl)) (fun _ _ _ h => h) (Or.inl ⟨by rfl, ?_⟩) ?_ ?_
                        rotate_left
                        · intro w'
                          go_simp
                          with_reducible rfl
                        rotate_left
                        · simp only [Act.put, List.setIfInBounds_toArray, List.set_cons_zero, List.set_cons_succ, i64_w, i32_w]
                          rfl
                        refine pure_ (i := 8) (N := some 46) (v := ?_) (a' := ?_) #[true, true, true, true, true, true, true, true, true, true, false, false] rfl rfl (any_of HT_.out (by kernel_rfl)) (fun _ _ _ h => h) (Or.inl ⟨by rfl, ?_⟩) ?_ ?_
                        rotate_left
                        · intro w'
                          go_simp
                          with_reducible rfl
                        rotate_left
                        · simp only [Act.put, List.setIfInBounds_toArray, List.set_cons_zero, List.set_cons_succ, i64_w, i32_w]
                          rfl
                        exact norm_ (by simp only [putAll, Act.put, List.setIfInBounds_toArray, List.set_cons_zero, List.set_cons_succ]) (hCont (v175, gb180) _ ⟨hHeld, (by (with_reducible repeat (first | apply Kd.R_alloc | apply Kd.R_drewN | apply Kd.R_drew)); exact HO176.out), (by (with_reducible repeat (first | apply Kd.R_alloc | apply Kd.R_drewN | apply Kd.R_drew)); exact HO_5.out), (by (with_reducible repeat (first | refine blk_drewN ?_ _ | refine blk_drew ?_ | refine blk_alloc ?_ _)); exact BK167.out), (by (with_reducible repeat (first | refine blk_drewN ?_ _ | refine blk_drew ?_ | refine blk_alloc ?_ _)); exact BK171.out), (by (with_reducible repeat (first | refine blk_drewN ?_ _ | refine blk_drew ?_ | refine blk_alloc ?_ _)); exact BK180.out), GW180.out, GE180.out, NB167_180.out, NB180_167.out, NB171_180.out, NB180_171.out, (by repeat (first | (with_reducible first | exact HB.out | apply below_alloc | apply pw_below_drewN | apply below_drew1 | refine below_set ?_ GE167.out | refine below_set ?_ GE171.out | refine below_set ?_ GE180.out) | exact HB.out))⟩)
                    rintro ⟨v175, gb180⟩ w46 ⟨hS_, h0_, h1_, h2_, h3_, h4_, h5_, h6_, h7_, h8_, h9_, h10_, h11_⟩
                    have n0_ : Aside0 (Kd.R k50 50 w46 w.heap.size (fun _ => True) v175 t174) := ⟨h0_⟩
                    have n1_ : Aside0 (Kd.R Kd.string 9 w46 w.heap.size (fun _ => True) (.slice (some ad172) t168.length co41) t168) := ⟨h1_⟩
                    have n2_ : Aside0 (w46.heap[gb167]? = some (.cells #[.int .i64 x168000_3, .slice none 0 0] 25 (0, 0))) := ⟨h2_⟩
                    have n3_ : Aside0 (w46.heap[gb171]? = some (.cells #[.int .i64 x172000_3, .slice Ao42 x172001_3.length co42, .int .i64 x172002_3, .bool x172003_3] 63 (0, 0))) := ⟨h3_⟩
                    have n4_ : Aside0 (w46.heap[gb180]? = some (.cells #[.int .i64 0, .slice none 0 0, .int .i64 0, .bool false] 63 (0, 0))) := ⟨h4_⟩
                    have n5_ : Aside0 (w.heap.size ≤ gb180) := ⟨h5_⟩
                    have n6_ : Aside0 (w.heap.size ≤ gb180) := ⟨h6_⟩
                    have n7_ : Aside0 (gb167 ≠ gb180) := ⟨h7_⟩
                    have n8_ : Aside0 (gb180 ≠ gb167) := ⟨h8_⟩
                    have n9_ : Aside0 (gb171 ≠ gb180) := ⟨h9_⟩
                    have n10_ : Aside0 (gb180 ≠ gb171) := ⟨h10_⟩
                    have n11_ : Aside0 (Below w.heap.size w w46) := ⟨h11_⟩
                    clear HO_5
                    clear HO_172001
                    clear BK167
                    clear BK171
                    clear HB
                    clear h0_ h1_ h2_ h3_ h4_ h5_ h6_ h7_ h8_ h9_ h10_ h11_
                    have HO176 := n0_
                    have HO_5 := n1_
                    have BK167 := n2_
                    have BK171 := n3_
                    have BK180 := n4_
                    have GW180 := n5_
                    have GE180 := n6_
                    have NB167_180 := n7_
                    have NB180_167 := n8_
                    have NB171_180 := n9_
                    have NB180_171 := n10_
                    have HB := n11_
                    clear n0_ n1_ n2_ n3_ n4_ n5_ n6_ n7_ n8_ n9_ n10_ n11_
                    have hHeld : w46.cell? ⟨gb171, 0, none⟩ = some (.int .i64 x172000_3) ∧ w46.cell? ⟨gb171, 1, none⟩ = some (.slice Ao42 x172001_3.length co42) ∧ w46.cell? ⟨gb171, 2, none⟩ = some (.int .i64 x172002_3) ∧ w46.cell? ⟨gb171, 3, none⟩ = some (.bool x172003_3) ∧ w46.cell? (ad172.add (x7_3).toNat) = some (.string (rdOf ByteArray.empty t168 x7_3)) := hS_
                    obtain ⟨Ao48, co48, eo48⟩ := Kd.R_slice HO176.out
                    (first | subst eo48 | (injection eo48 with f1_ f2_ f3_; have f4_ := f1_.symm; have f5_ := f3_.symm; clear f1_ f2_ f3_; subst f4_; subst f5_))
                    refine norm_ (a' := ?_) ?_ ?_
                    rotate_left
                    · simp only [putAll, Act.put, List.setIfInBounds_toArray, List.set_cons_zero, List.set_cons_succ]
                      rfl
                    refine one_ (i := 10) (N := none) #[true, true, true, true, true, true, true, true, true, true, true, false] rfl rfl (one_of HT_.out (by kernel_rfl)) (by decide) (fun K hK => ?_)
                    have hs47 : w46.cell? ⟨gb180, 0, none⟩ = some (.int .i64 0) := (blk_cell BK180.out 0).trans rfl
                    have hfs47 := blk_frozen BK180.out 0
                    have hns47_0 := NB167_180.out
                    have hns47_1 := NB171_180.out
                    have hms47_0 := NB180_167.out
                    have hms47_1 := NB180_171.out
                    have hs49 : w46.cell? ⟨gb180, 1, none⟩ = some (.slice none 0 0) := (blk_cell BK180.out 1).trans rfl
                    have hfs49 := blk_frozen BK180.out 1
                    have hns49_0 := NB167_180.out
                    have hns49_1 := NB171_180.out
                    have hms49_0 := NB180_167.out
                    have hms49_1 := NB180_171.out
                    have hs50 : w46.cell? ⟨gb180, 2, none⟩ = some (.int .i64 0) := (blk_cell BK180.out 2).trans rfl
                    have hfs50 := blk_frozen BK180.out 2
                    have hns50_0 := NB167_180.out
                    have hns50_1 := NB171_180.out
                    have hms50_0 := NB180_167.out
                    have hms50_1 := NB180_171.out
                    have hs51 : w46.cell? ⟨gb180, 3, none⟩ = some (.bool false) := (blk_cell BK180.out 3).trans rfl
                    have hfs51 := blk_frozen BK180.out 3
                    have hns51_0 := NB167_180.out
                    have hns51_1 := NB171_180.out
                    have hms51_0 := NB180_167.out
                    have hms51_1 := NB180_171.out
                    refine skip_ (w1 := ?_) (by rfl) rfl ?_ ?_
                    rotate_left
                    · go_simp
                      rfl
                    refine hK.out _ _ ⟨((cell_far (p := ⟨gb180, _, none⟩) NB171_180.out _).trans (((cell_far (p := ⟨gb180, _, none⟩) NB171_180.out _).trans (((cell_far (p := ⟨gb180, _, none⟩) NB171_180.out _).trans (((cell_far (p := ⟨gb180, _, none⟩) NB171_180.out _).trans (hHeld.1)))))))), ((cell_far (p := ⟨gb180, _, none⟩) NB171_180.out _).trans (((cell_far (p := ⟨gb180, _, none⟩) NB171_180.out _).trans (((cell_far (p := ⟨gb180, _, none⟩) NB171_180.out _).trans (((cell_far (p := ⟨gb180, _, none⟩) NB171_180.out _).trans (hHeld.2.1)))))))), ((cell_far (p := ⟨gb180, _, none⟩) NB171_180.out _).trans (((cell_far (p := ⟨gb180, _, none⟩) NB171_180.out _).trans (((cell_far (p := ⟨gb180, _, none⟩) NB171_180.out _).trans (((cell_far (p := ⟨gb180, _, none⟩) NB171_180.out _).trans (hHeld.2.2.1)))))))), ((cell_far (p := ⟨gb180, _, none⟩) NB171_180.out _).trans (((cell_far (p := ⟨gb180, _, none⟩) NB171_180.out _).trans (((cell_far (p := ⟨gb180, _, none⟩) NB171_180.out _).trans (((cell_far (p := ⟨gb180, _, none⟩) NB171_180.out _).trans (hHeld.2.2.2.1)))))))), ((cell_far (p := ⟨gb180, _, none⟩) (by first | exact Kd.own_blk (Kd.R_ne HO_5.out BK180.out (by decide)) | (rw [add_block]; exact Kd.own_blk (Kd.R_ne HO_5.out BK180.out (by decide))) | (show (Addr.add _ _).block ≠ _; rw [add_block]; exact Kd.own_blk (Kd.R_ne HO_5.out BK180.out (by decide))) | (dsimp only; exact Kd.own_blk (Kd.R_ne HO_5.out BK180.out (by decide)))) _).trans (((cell_far (p := ⟨gb180, _, none⟩) (by first | exact Kd.own_blk (Kd.R_ne HO_5.out BK180.out (by decide)) | (rw [add_block]; exact Kd.own_blk (Kd.R_ne HO_5.out BK180.out (by decide))) | (show (Addr.add _ _).block ≠ _; rw [add_block]; exact Kd.own_blk (Kd.R_ne HO_5.out BK180.out (by decide))) | (dsimp only; exact Kd.own_blk (Kd.R_ne HO_5.out BK180.out (by decide)))) _).trans (((cell_far (p := ⟨gb180, _, none⟩) (by first | exact Kd.own_blk (Kd.R_ne HO_5.out BK180.out (by decide)) | (rw [add_block]; exact Kd.own_blk (Kd.R_ne HO_5.out BK180.out (by decide))) | (show (Addr.add _ _).block ≠ _; rw [add_block]; exact Kd.own_blk (Kd.R_ne HO_5.out BK180.out (by decide))) | (dsimp only; exact Kd.own_blk (Kd.R_ne HO_5.out BK180.out (by decide)))) _).trans (((cell_far (p := ⟨gb180, _, none⟩) (by first | exact Kd.own_blk (Kd.R_ne HO_5.out BK180.out (by decide)) | (rw [add_block]; exact Kd.own_blk (Kd.R_ne HO_5.out BK180.out (by decide))) | (show (Addr.add _ _).block ≠ _; rw [add_block]; exact Kd.own_blk (Kd.R_ne HO_5.out BK180.out (by decide))) | (dsimp only; exact Kd.own_blk (Kd.R_ne HO_5.out BK180.out (by decide)))) _).trans (hHeld.2.2.2.2))))))))⟩ (fun hHeld => ?_)
                    clear hK K
                    refine pure_ (i := 11) (N := some 9) (v := ?_) (a' := ?_) #[true, true, true, true, true, true, true, true, true, true, true, true] rfl rfl (any_of HT_.out (by kernel_rfl)) (fun _ _ _ h => h) (Or.inl ⟨by rfl, ?_⟩) ?_ ?_
                    rotate_left
                    · intro w'
                      go_simp
                      with_reducible rfl
                    rotate_left
                    · simp only [Act.put, List.setIfInBounds_toArray, List.set_cons_zero, List.set_cons_succ, i64_w, i32_w]
                      rfl
                    refine done_ (done_of HT_.out (by kernel_rfl)) ?_
                    have hnb52 := NB167_171.out
                    have hnc52 := NB171_167.out
                    have hnb53 := NB167_180.out
                    have hnc53 := NB180_167.out
                    have hcz54_0 : w46.cell? ⟨gb167, 0, none⟩ = some (.int .i64 x168000_3) := (blk_cell BK167.out 0).trans rfl
                    have hcz54_1 : w46.cell? ⟨gb167, 1, none⟩ = some (.slice none 0 0) := (blk_cell BK167.out 1).trans rfl
                    have hfz54_0 := blk_frozen BK167.out 0
                    have hfz54_1 := blk_frozen BK167.out 1
                    try go_wp2
                    refine bodyPost_ret (results_ctt rfl _ _ gb167 25 #[.int .i64 0, .slice none 0 0] (0, 0) _ rfl (by (with_reducible repeat (first | refine blk_drewN ?_ _ | refine blk_drew ?_ | refine blk_alloc ?_ _)); refine blk_put (cs := #[.int .i64 0, .slice none 0 0]) ?_ 1 _ rfl; (with_reducible repeat (first | refine blk_drewN ?_ _ | refine blk_drew ?_ | refine blk_alloc ?_ _)); refine blk_put (cs := #[.int .i64 x168000_3, .slice none 0 0]) ?_ 0 _ rfl; (with_reducible repeat (first | refine blk_drewN ?_ _ | refine blk_drew ?_ | refine blk_alloc ?_ _)); refine blk_far ?_ NB167_180.out _; (with_reducible repeat (first | refine blk_drewN ?_ _ | refine blk_drew ?_ | refine blk_alloc ?_ _)); refine blk_far ?_ NB167_180.out _; (with_reducible repeat (first | refine blk_drewN ?_ _ | refine blk_drew ?_ | refine blk_alloc ?_ _)); refine blk_far ?_ NB167_180.out _; (with_reducible repeat (first | refine blk_drewN ?_ _ | refine blk_drew ?_ | refine blk_alloc ?_ _)); refine blk_far ?_ NB167_180.out _; (with_reducible repeat (first | refine blk_drewN ?_ _ | refine blk_drew ?_ | refine blk_alloc ?_ _)); exact BK167.out) Tryd.underlying25 rfl (by kernel_rfl)) rfl ?_
                    exact ⟨_, by first | rfl | (simp [errW_none, errW_some] <;> rfl) | (simp [*, errW_none, errW_some] <;> rfl), by first | exact Kd.R_nil _ _ _ _ _ | exact Kd.N_nil _ _ _ _ _ | exact Kd.V_nil _ _ _ _ _ | exact Kd.Q_nil _ _ _ _ _ | exact Kd.S_nil _ _ _ _ _, by repeat (first | (with_reducible first | exact HB.out | apply below_alloc | apply pw_below_drewN | apply below_drew1 | refine below_set ?_ GE167.out | refine below_set ?_ GE171.out | refine below_set ?_ GE180.out) | exact HB.out)⟩
                · rw [if_neg c22] at H
                  exact absurd H (by simp)
              · rw [if_neg c21] at H
                have c21b0 : decide (x7_3 < (t168.length : Int)) = false := decide_eq_false c21
                clear c21
                by_cases c55 : x172003_3 = true
                · subst c55
                  have H1 : (if (x172001_3.length : Int) = x172002_3 then (some (x172000_3, x172001_3, 0, 0)) else (some (0, ([] : List (S50)), 12, wrap64 ((t168.length : Int) + 1)))) = some (r1, r2, r3, r4) := by rw [if_pos rfl] at H; exact H
                  clear H
                  have H := H1
                  clear H1
                  by_cases c56 : (x172001_3.length : Int) = x172002_3
                  · rw [if_pos c56] at H
                    have c56b0 : ((x172001_3.length : Int) == x172002_3) = true := beq_iff_eq.mpr c56
                    have c56b1 : ((x172001_3.length : Int) != x172002_3) = false := bne_eq_false_iff_eq.mpr c56
                    clear c56
                    simp only [Option.some.injEq, Prod.mk.injEq] at H
                    obtain ⟨rfl, rfl, rfl, rfl⟩ := H
                    obtain ⟨Ao57, co57, eo57⟩ := Kd.R_slice HO_5.out
                    subst eo57
                    have hnb58 := NB171_167.out
                    have hnc58 := NB167_171.out
                    have hcz59_0 : wr.cell? ⟨gb171, 0, none⟩ = some (.int .i64 x172000_3) := (blk_cell BK171.out 0).trans rfl
                    have hcz59_1 : wr.cell? ⟨gb171, 1, none⟩ = some (u172001) := (blk_cell BK171.out 1).trans rfl
                    have hcz59_2 : wr.cell? ⟨gb171, 2, none⟩ = some (.int .i64 x172002_3) := (blk_cell BK171.out 2).trans rfl
                    have hcz59_3 : wr.cell? ⟨gb171, 3, none⟩ = some (.bool true) := (blk_cell BK171.out 3).trans rfl
                    have hfz59_0 := blk_frozen BK171.out 0
                    have hfz59_1 := blk_frozen BK171.out 1
                    have hfz59_2 := blk_frozen BK171.out 2
                    have hfz59_3 := blk_frozen BK171.out 3
                    obtain ⟨Ao60, co60, eo60⟩ := Kd.R_slice HO_172001.out
                    subst eo60
                    have hcz61_0 : wr.cell? ⟨gb167, 0, none⟩ = some (.int .i64 x168000_3) := (blk_cell BK167.out 0).trans rfl
                    have hcz61_1 : wr.cell? ⟨gb167, 1, none⟩ = some (.slice none 0 0) := (blk_cell BK167.out 1).trans rfl
                    have hfz61_0 := blk_frozen BK167.out 0
                    have hfz61_1 := blk_frozen BK167.out 1
                    go_wp2
                    refine bodyPost_ret (results_ctt rfl _ _ gb167 25 #[.int .i64 x172000_3, .slice Ao60 x172001_3.length co60] (0, 0) _ rfl (by (with_reducible repeat (first | refine blk_drewN ?_ _ | refine blk_drew ?_ | refine blk_alloc ?_ _)); refine blk_put (cs := #[.int .i64 x172000_3, .slice none 0 0]) ?_ 1 _ rfl; (with_reducible repeat (first | refine blk_drewN ?_ _ | refine blk_drew ?_ | refine blk_alloc ?_ _)); refine blk_put (cs := #[.int .i64 x168000_3, .slice none 0 0]) ?_ 0 _ rfl; (with_reducible repeat (first | refine blk_drewN ?_ _ | refine blk_drew ?_ | refine blk_alloc ?_ _)); exact BK167.out) Tryd.underlying25 rfl (by kernel_rfl)) rfl ?_
                    exact ⟨_, by first | rfl | (simp [errW_none, errW_some] <;> rfl) | (simp [*, errW_none, errW_some] <;> rfl), by (with_reducible repeat (first | apply Kd.R_alloc | apply Kd.R_drewN | apply Kd.R_drew)); exact Kd.R_mono (Kd.R_far (p := ⟨gb167, 1, none⟩) (Kd.R_far (p := ⟨gb167, 0, none⟩) (Kd.R_types HO_172001.out BK167.out (by decide)) (fun _ hk => hk.2) (.int .i64 x172000_3)) (fun _ hk => hk.2) (.slice Ao60 x172001_3.length co60)) (fun _ hk => trivial), by repeat (first | (with_reducible first | exact HB.out | apply below_alloc | apply pw_below_drewN | apply below_drew1 | refine below_set ?_ GE167.out | refine below_set ?_ GE171.out) | exact HB.out)⟩
                  · rw [if_neg c56] at H
                    have c56b0 : ((x172001_3.length : Int) == x172002_3) = false := beq_eq_false_iff_ne.mpr c56
                    have c56b1 : ((x172001_3.length : Int) != x172002_3) = true := bne_iff_ne.mpr c56
                    simp only [Option.some.injEq, Prod.mk.injEq] at H
                    obtain ⟨rfl, rfl, rfl, rfl⟩ := H
                    obtain ⟨Ao62, co62, eo62⟩ := Kd.R_slice HO_5.out
                    subst eo62
                    have hnb63 := NB171_167.out
                    have hnc63 := NB167_171.out
                    have hcz64_0 : wr.cell? ⟨gb171, 0, none⟩ = some (.int .i64 x172000_3) := (blk_cell BK171.out 0).trans rfl
                    have hcz64_1 : wr.cell? ⟨gb171, 1, none⟩ = some (u172001) := (blk_cell BK171.out 1).trans rfl
                    have hcz64_2 : wr.cell? ⟨gb171, 2, none⟩ = some (.int .i64 x172002_3) := (blk_cell BK171.out 2).trans rfl
                    have hcz64_3 : wr.cell? ⟨gb171, 3, none⟩ = some (.bool true) := (blk_cell BK171.out 3).trans rfl
                    have hfz64_0 := blk_frozen BK171.out 0
                    have hfz64_1 := blk_frozen BK171.out 1
                    have hfz64_2 := blk_frozen BK171.out 2
                    have hfz64_3 := blk_frozen BK171.out 3
                    obtain ⟨Ao65, co65, eo65⟩ := Kd.R_slice HO_172001.out
                    subst eo65
                    have hcz66_0 : wr.cell? ⟨gb167, 0, none⟩ = some (.int .i64 x168000_3) := (blk_cell BK167.out 0).trans rfl
                    have hcz66_1 : wr.cell? ⟨gb167, 1, none⟩ = some (.slice none 0 0) := (blk_cell BK167.out 1).trans rfl
                    have hfz66_0 := blk_frozen BK167.out 0
                    have hfz66_1 := blk_frozen BK167.out 1
                    go_wp2
                    refine bodyPost_ret (results_ctt rfl _ _ gb167 25 #[.int .i64 0, .slice none 0 0] (0, 0) _ rfl (by (with_reducible repeat (first | refine blk_drewN ?_ _ | refine blk_drew ?_ | refine blk_alloc ?_ _)); refine blk_put (cs := #[.int .i64 0, .slice none 0 0]) ?_ 1 _ rfl; (with_reducible repeat (first | refine blk_drewN ?_ _ | refine blk_drew ?_ | refine blk_alloc ?_ _)); refine blk_put (cs := #[.int .i64 x168000_3, .slice none 0 0]) ?_ 0 _ rfl; (with_reducible repeat (first | refine blk_drewN ?_ _ | refine blk_drew ?_ | refine blk_alloc ?_ _)); exact BK167.out) Tryd.underlying25 rfl (by kernel_rfl)) rfl ?_
                    exact ⟨_, by first | rfl | (simp [errW_none, errW_some] <;> rfl) | (simp [*, errW_none, errW_some] <;> rfl), by first | exact Kd.R_nil _ _ _ _ _ | exact Kd.N_nil _ _ _ _ _ | exact Kd.V_nil _ _ _ _ _ | exact Kd.Q_nil _ _ _ _ _ | exact Kd.S_nil _ _ _ _ _, by repeat (first | (with_reducible first | exact HB.out | apply below_alloc | apply pw_below_drewN | apply below_drew1 | refine below_set ?_ GE167.out | refine below_set ?_ GE171.out) | exact HB.out)⟩
                · replace c55 := Bool.eq_false_iff.mpr c55
                  subst c55
                  have H1 : (some (0, ([] : List (S50)), 12, wrap64 ((t168.length : Int) + 1))) = some (r1, r2, r3, r4) := by rw [if_neg (show ¬ (false = true) by decide)] at H; exact H
                  clear H
                  have H := H1
                  clear H1
                  simp only [Option.some.injEq, Prod.mk.injEq] at H
                  obtain ⟨rfl, rfl, rfl, rfl⟩ := H
                  obtain ⟨Ao67, co67, eo67⟩ := Kd.R_slice HO_5.out
                  subst eo67
                  have hnb68 := NB171_167.out
                  have hnc68 := NB167_171.out
                  have hcz69_0 : wr.cell? ⟨gb171, 0, none⟩ = some (.int .i64 x172000_3) := (blk_cell BK171.out 0).trans rfl
                  have hcz69_1 : wr.cell? ⟨gb171, 1, none⟩ = some (u172001) := (blk_cell BK171.out 1).trans rfl
                  have hcz69_2 : wr.cell? ⟨gb171, 2, none⟩ = some (.int .i64 x172002_3) := (blk_cell BK171.out 2).trans rfl
                  have hcz69_3 : wr.cell? ⟨gb171, 3, none⟩ = some (.bool false) := (blk_cell BK171.out 3).trans rfl
                  have hfz69_0 := blk_frozen BK171.out 0
                  have hfz69_1 := blk_frozen BK171.out 1
                  have hfz69_2 := blk_frozen BK171.out 2
                  have hfz69_3 := blk_frozen BK171.out 3
                  have hcz70_0 : wr.cell? ⟨gb167, 0, none⟩ = some (.int .i64 x168000_3) := (blk_cell BK167.out 0).trans rfl
                  have hcz70_1 : wr.cell? ⟨gb167, 1, none⟩ = some (.slice none 0 0) := (blk_cell BK167.out 1).trans rfl
                  have hfz70_0 := blk_frozen BK167.out 0
                  have hfz70_1 := blk_frozen BK167.out 1
                  go_wp2
                  refine bodyPost_ret (results_ctt rfl _ _ gb167 25 #[.int .i64 0, .slice none 0 0] (0, 0) _ rfl (by (with_reducible repeat (first | refine blk_drewN ?_ _ | refine blk_drew ?_ | refine blk_alloc ?_ _)); refine blk_put (cs := #[.int .i64 0, .slice none 0 0]) ?_ 1 _ rfl; (with_reducible repeat (first | refine blk_drewN ?_ _ | refine blk_drew ?_ | refine blk_alloc ?_ _)); refine blk_put (cs := #[.int .i64 x168000_3, .slice none 0 0]) ?_ 0 _ rfl; (with_reducible repeat (first | refine blk_drewN ?_ _ | refine blk_drew ?_ | refine blk_alloc ?_ _)); exact BK167.out) Tryd.underlying25 rfl (by kernel_rfl)) rfl ?_
                  exact ⟨_, by first | rfl | (simp [errW_none, errW_some] <;> rfl) | (simp [*, errW_none, errW_some] <;> rfl), by first | exact Kd.R_nil _ _ _ _ _ | exact Kd.N_nil _ _ _ _ _ | exact Kd.V_nil _ _ _ _ _ | exact Kd.Q_nil _ _ _ _ _ | exact Kd.S_nil _ _ _ _ _, by repeat (first | (with_reducible first | exact HB.out | apply below_alloc | apply pw_below_drewN | apply below_drew1 | refine below_set ?_ GE167.out | refine below_set ?_ GE171.out) | exact HB.out)⟩

end Go.Proofs.YtegikndkokemjaaDoor.PAll
