import Derived.Test.YtfkejflmhidnaaaQMtP
import Derived.Test.YtfkejflmhidnaaaQCmB
import Derived.Test.YtfkejflmhidnaaaQKnE
namespace Go.Proofs.Ytfkejflmhidnaaa.PAll
open Go.RowKit Go.Proofs.YtfkejflmhidnaaaW.PrintWords Go.Proofs.YtfkejflmhidnaaaW.PrintLast Go.Proofs.YtfkejflmhidnaaaW.PrintMore
open Hp hiding Good
set_option linter.unusedVariables false
set_option linter.unusedSimpArgs false

/-- query.Where -/
theorem where_walk (w : World) (hb n : Nat) (h : HierP) (wm : Int) (H : HierRep w hb n h) (hok : HOk n wm h) (s t : Int) :
    Calls Try.prog 48 #[.pointer (some ⟨hb, 0, none⟩), .int .i64 s, .int .i64 t] w fun r w' => r = .returned (.tuple #[.int .i64 (whereP n h s t).1, .int .i64 (whereP n h s t).2]) ∧ Below w.heap.size w w' := by
  have HH := Lib.hid H
  have HOK := Lib.hid hok
  have HF := Lib.hid (forward_walk w hb n h wm H hok s)
  have HP : Hid (whereP n h s t = meetP (aboveP n h s false) (aboveP n h t true)) := Lib.hid rfl
  have HX : Hid (∃ p, whereP n h s t = p) := Lib.hid ⟨_, rfl⟩
  obtain ⟨p, hp⟩ := HX.out
  rw [hp] at HP ⊢
  clear H hok HX hp
  generalize aboveP n h s false = a at *
  go_enter Try.func48, Try.ntmps48
  go_wp2_with fail
  refine HF.out.mono ?_
  rintro e w1 ⟨v1, rfl, hR1, hB1⟩
  obtain ⟨A1, c1, rfl, hc1, hC1⟩ := Kd.R_reads hR1
  have HC1 := Lib.hid hC1
  have HB1 := Lib.hid hB1
  have HK := Lib.hid (back_walk w1 hb n h wm (HH.out.below hB1) HOK.out t)
  clear hR1 hC1 hB1 HF HH HOK
  generalize aboveP n h t true = b at *
  go_wp2_with fail
  refine HK.out.mono ?_
  rintro e w2 ⟨v2, rfl, hR2, hB2⟩
  obtain ⟨A2, c2, rfl, hc2, hC2⟩ := Kd.R_reads hR2
  have HM := Lib.hid (meet_walk w2 a b A1 A2 c1 c2 hc1 hc2 (Kd.C_below HC1.out hB2) hC2)
  have HB2 := Lib.hid (HB1.out.trans (hB2.mono HB1.out.size))
  clear hR2 hC2 hB2 HK HC1 HB1
  go_wp2_with fail
  refine HM.out.mono ?_
  rintro e w3 ⟨rfl, hB3⟩
  rw [← HP.out]
  have HB3 := Lib.hid (HB2.out.trans (hB3.mono HB2.out.size))
  clear hB3 HM HB2
  go_wp2_with fail
  go_ret2
  exact ⟨rfl, HB3.out⟩
/-- query.Far -/
theorem far_walk (w : World) (hb n : Nat) (h : HierP) (wm : Int) (H : HierRep w hb n h) (hok : HOk n wm h) (s t : Int) :
    Calls Try.prog 26 #[.pointer (some ⟨hb, 0, none⟩), .int .i64 s, .int .i64 t] w fun r w' => r = .returned (.int .i64 (farP n h s t)) ∧ Below w.heap.size w w' := by
  have HW := Lib.hid (where_walk w hb n h wm H hok s t)
  have HX : Hid (∃ x, farP n h s t = x) := Lib.hid ⟨_, rfl⟩
  have e0 : farP n h s t = (whereP n h s t).1 := rfl
  rw [e0]
  generalize whereP n h s t = p at *
  clear H hok e0 HX
  obtain ⟨d, x⟩ := p
  simp only at HW ⊢
  go_enter Try.func26, Try.ntmps26
  go_wp2_with (first | (go_at_call 48; refine HW.out.mono ?_; rintro e w1 ⟨rfl, hB⟩; have HB := Lib.hid hB; clear hB))
  all_goals go_ret
  all_goals exact ⟨rfl, HB.out⟩

def cmpI (x y : Int) : Int := if x < y then -1 else if x > y then 1 else 0
def orI (x y : Int) : Int := if x = 0 then y else x
theorem compare_walk (x y : Int) (w : World) : Calls Try.prog 50 #[.int .i64 x, .int .i64 y] w fun r w' => r = .returned (.int .i64 (cmpI x y)) ∧ ∃ j, w' = w.drewN j := by
  refine (cmp_Compare_int.calls x y (cmpI x y) w ?_).mono ?_
  · simp [cmp_Compare_int.f, cmp_isNaN_int.f, cmpI]
    split
    · rfl
    · split <;> rfl
  · rintro e w' ⟨rfl, hd⟩
    obtain ⟨⟨j, rfl⟩⟩ := hd
    exact ⟨rfl, j, rfl⟩
theorem or_walk (x y : Int) (A : Option Addr) (c : Nat) (w : World) (hC : Kd.C (Kd.int .i64) w A 2 [x, y]) (hc : 2 ≤ c) : Calls Try.prog 49 #[.slice A 2 c] w fun r w' => r = .returned (.int .i64 (orI x y)) ∧ ∃ j, w' = w.drewN j := by
  refine (cmp_Or_int.calls 4 A c [x, y] (orI x y) w hC hc ?_).mono ?_
  · unfold orI
    have w1 : wrap64 1 = 1 := by kernel_rfl
    have w2 : wrap64 2 = 2 := by kernel_rfl
    by_cases h : x = 0
    · by_cases g : y = 0
      · simp [cmp_Or_int.f, cmp_Or_int.l0, rd, h, g, w1, w2]
      · simp [cmp_Or_int.f, cmp_Or_int.l0, rd, h, g, w1, w2]
    · simp [cmp_Or_int.f, cmp_Or_int.l0, rd, h, w1, w2]
  · rintro e w' ⟨rfl, hd⟩
    obtain ⟨⟨j, rfl⟩⟩ := hd
    exact ⟨rfl, j, rfl⟩

theorem cell_alloc_any {w : World} {p : Addr} {u : Value} {o : Obj} (h : w.cell? p = some u) : (w.alloc o).cell? p = some u := by
  have hlt : p.block < w.heap.size := by
    unfold World.cell? at h
    cases ho : w.heap[p.block]? with
    | none => simp [ho] at h
    | some o => exact (Array.getElem?_eq_some_iff.1 ho).1
  exact (World.cell?_of_block (w := w) (Below.heap_alloc w o p.block hlt)).trans h

/-- a and b, each in a box -/
theorem two_boxes (w : World) (a b : S39) : ∀ W, (w.alloc (.cells #[.int .i64 a.f0, .int .i64 a.f1] 39)).alloc (.cells #[.int .i64 b.f0, .int .i64 b.f1] 39) = W →
    Below w.heap.size w W ∧ W.heap[w.heap.size]? = some (.cells #[.int .i64 a.f0, .int .i64 a.f1] 39 (0, 0)) ∧ W.heap[w.heap.size + 1]? = some (.cells #[.int .i64 b.f0, .int .i64 b.f1] 39 (0, 0)) ∧ W.heap.size = w.heap.size + 2 := by
  rintro W rfl
  refine ⟨((Below.refl _ w).alloc (Nat.le_refl _) _).alloc (by simp) _, blk_alloc (blk_new w _) _, ?_, by simp⟩
  have := blk_new (w.alloc (.cells #[.int .i64 a.f0, .int .i64 a.f1] 39)) (.cells #[.int .i64 b.f0, .int .i64 b.f1] 39)
  rwa [World.size_alloc] at this

set_option maxRecDepth 100000 in
set_option maxHeartbeats 4000000 in
/-- access.Beats -/
theorem beats_walk (w : World) (hb n : Nat) (h : HierP) (wm : Int) (H : HierRep w hb n h) (hok : HOk n wm h) (a b : S39) (back : Bool) (ha0 : 0 ≤ a.f1) (ha1 : a.f1 ≤ 2305843009213693952) :
    Calls Try.prog 28 #[.pointer (some ⟨hb, 0, none⟩), .agg #[.int .i64 a.f0, .int .i64 a.f1], .agg #[.int .i64 b.f0, .int .i64 b.f1], .bool back] w fun r w' => r = .returned (.bool (beatsP n h back a b)) ∧ Below w.heap.size w w' := by
  obtain ⟨W, hW⟩ : ∃ W, (w.alloc (.cells #[.int .i64 a.f0, .int .i64 a.f1] 39)).alloc (.cells #[.int .i64 b.f0, .int .i64 b.f1] 39) = W := ⟨_, rfl⟩
  obtain ⟨hB, hba, hbb, hsz⟩ := two_boxes w a b W hW
  have HW := Lib.hid hW
  have HB := Lib.hid hB
  have HBA := Lib.hid hba
  have HBB := Lib.hid hbb
  have HF : Hid (∀ W1, Below W.heap.size W W1 → Calls Try.prog 26 #[.pointer (some ⟨hb, 0, none⟩), .int .i64 (if back = true then b.f0 else a.f0), .int .i64 (if back = true then a.f0 else b.f0)] W1 fun r w' => r = .returned (.int .i64 (farP n h (if back = true then b.f0 else a.f0) (if back = true then a.f0 else b.f0))) ∧ Below W.heap.size W w') := Lib.hid (fun W1 g =>
    (far_walk _ hb n h wm ((H.below hB).below g) hok _ _).mono (fun r w' hh => ⟨hh.1, g.trans (hh.2.mono g.size)⟩))
  have hfb := far_bound hok H.small (if back = true then b.f0 else a.f0) (if back = true then a.f0 else b.f0)
  have HV : Hid (beatsP n h back a b = (decide (farP n h (if back = true then b.f0 else a.f0) (if back = true then a.f0 else b.f0) ≠ -1) && decide (a.f0 ≠ b.f0) && (decide (a.f1 + farP n h (if back = true then b.f0 else a.f0) (if back = true then a.f0 else b.f0) < b.f1) || (decide (a.f1 + farP n h (if back = true then b.f0 else a.f0) (if back = true then a.f0 else b.f0) = b.f1) && decide (a.f0 < b.f0))))) := Lib.hid (by cases back <;> rfl)
  generalize farP n h (if back = true then b.f0 else a.f0) (if back = true then a.f0 else b.f0) = d at *
  generalize beatsP n h back a b = V at *
  obtain ⟨a0, a1⟩ := a
  obtain ⟨b0, b1⟩ := b
  simp only at *
  clear H hok hW hB hba hbb
  cases back
  all_goals simp only [Bool.false_eq_true, if_false, if_true] at HF HV ⊢
  all_goals
    go_enter Try.func28, Try.ntmps28
    go_wp2_with fail
    rw [HW.out]
    have ca0 := (blk_cell HBA.out 0).trans rfl
    have ca1 := (blk_cell HBA.out 1).trans rfl
    have cb0 := (blk_cell HBB.out 0).trans rfl
    have cb1 := (blk_cell HBB.out 1).trans rfl
    have hlt0 : w.heap.size < W.heap.size := by omega
    have hlt1 : w.heap.size + 1 < W.heap.size := by omega
    clear HW
    go_region
    go_wp2_with fail
    refine (HF.out _ (Below.refl _ _).drew).mono ?_
    rintro e w1 ⟨rfl, hB1⟩
    have ka0 := (hB1.cell (p := ⟨w.heap.size, 0, none⟩) hlt0).trans ca0
    have ka1 := (hB1.cell (p := ⟨w.heap.size, 1, none⟩) hlt0).trans ca1
    have kb0 := (hB1.cell (p := ⟨w.heap.size + 1, 0, none⟩) hlt1).trans cb0
    have kb1 := (hB1.cell (p := ⟨w.heap.size + 1, 1, none⟩) hlt1).trans cb1
    have hl0 : w.heap.size < w1.heap.size := Nat.lt_of_lt_of_le hlt0 hB1.size
    have hl1 : w.heap.size + 1 < w1.heap.size := Nat.lt_of_lt_of_le hlt1 hB1.size
    have HB1 := Lib.hid (HB.out.trans (hB1.mono HB.out.size))
    clear hB1 ca0 ca1 cb0 cb1 hlt0 hlt1 HF HBA HBB HB hsz
    by_cases hd : d = -1
    · have hVF : V = false := by rw [HV.out]; simp [hd]
      subst hVF
      have e1 : (d == -1) = true := by simp [hd]
      clear hfb HV hd
      go_wp2_with fail
      all_goals go_ret
      all_goals exact ⟨rfl, HB1.out⟩
    · have e1 : (d == -1) = false := by simp [hd]
      by_cases he : a0 = b0
      · have hVF : V = false := by rw [HV.out]; simp [he]
        subst hVF
        subst he
        clear hfb HV hd
        go_wp2_with fail
        all_goals go_ret
        all_goals exact ⟨rfl, HB1.out⟩
      · have e2 : (a0 == b0) = false := by simp [he]
        have hs : IntKind.i64.wrap (a1 + d) = a1 + d := i64w rfl (by omega) (by omega)
        have hVF : Hid (V = decide (orI (cmpI (a1 + d) b1) (cmpI a0 b0) < 0)) := Lib.hid (by
          rw [HV.out]
          rw [show decide (d ≠ -1) = true from by simp [hd], show decide (a0 ≠ b0) = true from by simp [he]]
          unfold orI cmpI
          generalize a1 + d = s
          simp only [Bool.true_and]
          rw [Bool.eq_iff_iff]
          simp only [Bool.or_eq_true, Bool.and_eq_true, decide_eq_true_eq]
          repeat (first | omega | split))
        clear HV hd he hfb
        generalize hsd : a1 + d = s at *
        obtain ⟨c1, hc1⟩ : ∃ c, cmpI s b1 = c := ⟨_, rfl⟩
        obtain ⟨c2, hc2⟩ : ∃ c, cmpI a0 b0 = c := ⟨_, rfl⟩
        have HC1 : Hid (∀ W, Calls Try.prog 50 #[.int .i64 s, .int .i64 b1] W fun r w' => r = .returned (.int .i64 c1) ∧ ∃ j, w' = W.drewN j) := Lib.hid (fun W => by rw [← hc1]; exact compare_walk s b1 W)
        have HC2 : Hid (∀ W, Calls Try.prog 50 #[.int .i64 a0, .int .i64 b0] W fun r w' => r = .returned (.int .i64 c2) ∧ ∃ j, w' = W.drewN j) := Lib.hid (fun W => by rw [← hc2]; exact compare_walk a0 b0 W)
        rw [hc1, hc2] at hVF
        clear hc1 hc2
        go_wp2_with fail
        refine start_ (n := 16) (S := fun w' => w'.cell? ⟨w.heap.size, 0, none⟩ = some (.int .i64 a0) ∧ w'.cell? ⟨w.heap.size, 1, none⟩ = some (.int .i64 a1) ∧ w'.cell? ⟨w.heap.size + 1, 0, none⟩ = some (.int .i64 b0) ∧ w'.cell? ⟨w.heap.size + 1, 1, none⟩ = some (.int .i64 b1)) (ds := []) #[false, false, false, false, false, false, false, false, false, false, false, false, false, false, false, false] (by kernel_rfl) rfl rfl ⟨ka0, ka1, kb0, kb1⟩ (fun hHeld => ?_)
        refine pure_ (i := 0) (N := some 32) (v := ?_) (a' := ?_) #[true, false, false, false, false, false, false, false, false, false, false, false, false, false, false, false] rfl rfl (by kernel_rfl) (fun _ _ _ h => h) (Or.inl ⟨by rfl, ?_⟩) ?_ ?_
        rotate_left
        · intro w'
          go_simp
          with_reducible rfl
        rotate_left
        · simp only [Act.put, List.setIfInBounds_toArray, List.set_cons_zero, List.set_cons_succ, i64_w, i32_w]
          rfl
        refine pure_ (i := 2) (N := some 34) (v := ?_) (a' := ?_) #[true, false, true, false, false, false, false, false, false, false, false, false, false, false, false, false] rfl rfl (by kernel_rfl) (fun _ _ _ h => h) (Or.inl ⟨by rfl, ?_⟩) ?_ ?_
        rotate_left
        · intro w'
          go_simp
          with_reducible rfl
        rotate_left
        · simp only [Act.put, List.setIfInBounds_toArray, List.set_cons_zero, List.set_cons_succ, i64_w, i32_w]
          rfl
        refine pure_ (i := 4) (N := some 36) (v := ?_) (a' := ?_) #[true, false, true, false, true, false, false, false, false, false, false, false, false, false, false, false] rfl rfl (by kernel_rfl) (fun _ _ _ h => h) (Or.inl ⟨by rfl, ?_⟩) ?_ ?_
        rotate_left
        · intro w'
          go_simp
          with_reducible rfl
        rotate_left
        · simp only [Act.put, List.setIfInBounds_toArray, List.set_cons_zero, List.set_cons_succ, i64_w, i32_w]
          rfl
        refine pure_ (i := 7) (N := some 39) (v := ?_) (a' := ?_) #[true, false, true, false, true, false, false, true, false, false, false, false, false, false, false, false] rfl rfl (by kernel_rfl) (fun _ _ _ h => h) (Or.inl ⟨by rfl, ?_⟩) ?_ ?_
        rotate_left
        · intro w'
          go_simp
          with_reducible rfl
        rotate_left
        · simp only [Act.put, List.setIfInBounds_toArray, List.set_cons_zero, List.set_cons_succ, i64_w, i32_w]
          rfl
        refine pure_ (i := 9) (N := some 41) (v := ?_) (a' := ?_) #[true, false, true, false, true, false, false, true, false, true, false, false, false, false, false, false] rfl rfl (by kernel_rfl) (fun _ _ _ h => h) (Or.inl ⟨by rfl, ?_⟩) ?_ ?_
        rotate_left
        · intro w'
          go_simp
          with_reducible rfl
        rotate_left
        · simp only [Act.put, List.setIfInBounds_toArray, List.set_cons_zero, List.set_cons_succ, i64_w, i32_w]
          rfl
        refine take_ (i := 1) (N := some 33) (v := ?_) (a' := ?_) #[true, true, true, false, true, false, false, true, false, true, false, false, false, false, false, false] rfl rfl (by kernel_rfl) (fun _ _ _ h => h) (Or.inl ⟨by rfl, ?_⟩) hHeld ?_ ?_
        rotate_left
        · rintro w' ⟨s0, s1, s2, s3⟩
          go_simp
          with_reducible rfl
        rotate_left
        · simp only [Act.put, List.setIfInBounds_toArray, List.set_cons_zero, List.set_cons_succ, i64_w, i32_w]
          rfl
        refine pure_ (i := 3) (N := some 35) (v := ?_) (a' := ?_) #[true, true, true, true, true, false, false, true, false, true, false, false, false, false, false, false] rfl rfl (by kernel_rfl) (fun _ _ _ h => h) (Or.inl ⟨by rfl, ?_⟩) ?_ ?_
        rotate_left
        · intro w'
          go_simp
          with_reducible rfl
        rotate_left
        · simp only [Act.put, List.setIfInBounds_toArray, List.set_cons_zero, List.set_cons_succ, i64_w, i32_w]
          rfl
        refine take_ (i := 5) (N := some 37) (v := ?_) (a' := ?_) #[true, true, true, true, true, true, false, true, false, true, false, false, false, false, false, false] rfl rfl (by kernel_rfl) (fun _ _ _ h => h) (Or.inl ⟨by rfl, ?_⟩) hHeld ?_ ?_
        rotate_left
        · rintro w' ⟨s0, s1, s2, s3⟩
          go_simp
          with_reducible rfl
        rotate_left
        · simp only [Act.put, List.setIfInBounds_toArray, List.set_cons_zero, List.set_cons_succ, i64_w, i32_w]
          rfl
        refine take_ (i := 8) (N := some 40) (v := ?_) (a' := ?_) #[true, true, true, true, true, true, false, true, true, true, false, false, false, false, false, false] rfl rfl (by kernel_rfl) (fun _ _ _ h => h) (Or.inl ⟨by rfl, ?_⟩) hHeld ?_ ?_
        rotate_left
        · rintro w' ⟨s0, s1, s2, s3⟩
          go_simp
          with_reducible rfl
        rotate_left
        · simp only [Act.put, List.setIfInBounds_toArray, List.set_cons_zero, List.set_cons_succ, i64_w, i32_w]
          rfl
        refine take_ (i := 10) (N := some 42) (v := ?_) (a' := ?_) #[true, true, true, true, true, true, false, true, true, true, true, false, false, false, false, false] rfl rfl (by kernel_rfl) (fun _ _ _ h => h) (Or.inl ⟨by rfl, ?_⟩) hHeld ?_ ?_
        rotate_left
        · rintro w' ⟨s0, s1, s2, s3⟩
          go_simp
          with_reducible rfl
        rotate_left
        · simp only [Act.put, List.setIfInBounds_toArray, List.set_cons_zero, List.set_cons_succ, i64_w, i32_w]
          rfl
        refine one_ (i := 6) (N := some 38) #[true, true, true, true, true, true, true, true, true, true, true, false, false, false, false, false] rfl rfl (by kernel_rfl) (by decide) (fun K hK => ?_)
        refine goes_ Try.func50 (by kernel_rfl) rfl #[.int .i64 s, .int .i64 b1] (by rfl) rfl rfl (by simp only [List.map_toArray, List.map_cons, List.map_nil]; rfl) ?_
        with_reducible refine (HC1.out _).mono ?_
        rintro e w3 ⟨rfl, j1, rfl⟩
        refine ⟨_, rfl, ?_⟩
        refine hK.out _ _ ⟨hHeld.1, hHeld.2.1, hHeld.2.2.1, hHeld.2.2.2⟩ (fun hHeld => ?_)
        clear hK K
        refine norm_ (a' := ?_) ?_ ?_
        rotate_left
        · show Act.put _ (some 38) _ = _
          simp only [Act.put, List.setIfInBounds_toArray, List.set_cons_zero, List.set_cons_succ, i64_w, i32_w]
          rfl
        refine one_ (i := 11) (N := some 43) #[true, true, true, true, true, true, true, true, true, true, true, true, false, false, false, false] rfl rfl (by kernel_rfl) (by decide) (fun K hK => ?_)
        refine goes_ Try.func50 (by kernel_rfl) rfl #[.int .i64 a0, .int .i64 b0] (by rfl) rfl rfl (by simp only [List.map_toArray, List.map_cons, List.map_nil]; rfl) ?_
        with_reducible refine (HC2.out _).mono ?_
        rintro e w3 ⟨rfl, j2, rfl⟩
        refine ⟨_, rfl, ?_⟩
        refine hK.out _ _ ⟨hHeld.1, hHeld.2.1, hHeld.2.2.1, hHeld.2.2.2⟩ (fun hHeld => ?_)
        clear hK K
        refine norm_ (a' := ?_) ?_ ?_
        rotate_left
        · show Act.put _ (some 43) _ = _
          simp only [Act.put, List.setIfInBounds_toArray, List.set_cons_zero, List.set_cons_succ, i64_w, i32_w]
          rfl
        refine one_ (i := 12) (N := some 44) #[true, true, true, true, true, true, true, true, true, true, true, true, true, false, false, false] rfl rfl (by kernel_rfl) (by decide) (fun K hK => ?_)
        refine value_ (w1 := ?_) (v := ?_) (by rfl) rfl ?_ ?_
        rotate_left 2
        · go_simp
          constructor
          · rfl
          · rfl
        refine hK.out _ _ ⟨(cell_alloc_any hHeld.1), (cell_alloc_any hHeld.2.1), (cell_alloc_any hHeld.2.2.1), (cell_alloc_any hHeld.2.2.2)⟩ (fun hHeld => ?_)
        clear hK K
        refine norm_ (a' := ?_) ?_ ?_
        rotate_left
        · show Act.put _ (some 44) _ = _
          simp only [Act.put, List.setIfInBounds_toArray, List.set_cons_zero, List.set_cons_succ, i64_w, i32_w]
          rfl
        refine one_ (i := 13) (N := some 45) #[true, true, true, true, true, true, true, true, true, true, true, true, true, true, false, false] rfl rfl (by kernel_rfl) (by decide) (fun K hK => ?_)
        refine goes_ Try.func49 (by kernel_rfl) rfl #[.slice (some ⟨_, 0, none⟩) 2 2] (by rfl) rfl rfl (by simp only [List.map_toArray, List.map_cons, List.map_nil]; rfl) ?_
        with_reducible refine (or_walk c1 c2 _ _ _ (litI _ _ [c1, c2] _ rfl (blk_new _ _) (by simp)) (by decide)).mono ?_
        rintro e w3 ⟨rfl, j3, rfl⟩
        refine ⟨_, rfl, ?_⟩
        refine hK.out _ _ ⟨hHeld.1, hHeld.2.1, hHeld.2.2.1, hHeld.2.2.2⟩ (fun hHeld => ?_)
        clear hK K
        refine norm_ (a' := ?_) ?_ ?_
        rotate_left
        · show Act.put _ (some 45) _ = _
          simp only [Act.put, List.setIfInBounds_toArray, List.set_cons_zero, List.set_cons_succ, i64_w, i32_w]
          rfl
        refine pure_ (i := 14) (N := some 46) (v := ?_) (a' := ?_) #[true, true, true, true, true, true, true, true, true, true, true, true, true, true, true, false] rfl rfl (by kernel_rfl) (fun _ _ _ h => h) (Or.inl ⟨by rfl, ?_⟩) ?_ ?_
        rotate_left
        · intro w'
          go_simp
          with_reducible rfl
        rotate_left
        · simp only [Act.put, List.setIfInBounds_toArray, List.set_cons_zero, List.set_cons_succ, i64_w, i32_w]
          rfl
        refine pure_ (i := 15) (N := some 8) (v := ?_) (a' := ?_) #[true, true, true, true, true, true, true, true, true, true, true, true, true, true, true, true] rfl rfl (by kernel_rfl) (fun _ _ _ h => h) (Or.inl ⟨by rfl, ?_⟩) ?_ ?_
        rotate_left
        · intro w'
          go_simp
          with_reducible rfl
        rotate_left
        · simp only [Act.put, List.setIfInBounds_toArray, List.set_cons_zero, List.set_cons_succ, i64_w, i32_w]
          rfl
        refine done_ (by kernel_rfl) ?_
        go_wp2_with fail
        go_ret
        refine ⟨by rw [hVF.out]; rfl, ?_⟩
        have hz := HB1.out.size
        exact pw_below_drewN ((pw_below_drewN HB1.out _).alloc (by simpa using hz) _) _
end Go.Proofs.Ytfkejflmhidnaaa.PAll
