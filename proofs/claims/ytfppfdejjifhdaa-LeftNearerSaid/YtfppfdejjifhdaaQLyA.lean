import Derived.Test.YtfppfdejjifhdaaQLrA
import Derived.Test.YtfppfdejjifhdaaQLvP
namespace Go.Proofs.Ytfppfdejjifhdaa.PAll
open Go.RowKit Go.Proofs.YtfppfdejjifhdaaW.PrintWords Go.Proofs.YtfppfdejjifhdaaW.PrintLast Go.Proofs.YtfppfdejjifhdaaW.PrintMore
open Hp hiding Good
set_option linter.unusedVariables false
set_option linter.unusedSimpArgs false

set_option maxRecDepth 100000 in
set_option maxHeartbeats 4000000 in
/-- (*Left).Way -/
theorem way_walk (w : World) (lb n K : Nat) (F : Int → Int → Option WayP) (B : Nat → Nat) (H : LRep w lb n K F B) (u : Nat) (hu : u < n) (hn : n ≤ 1000) (v : Int) (hv : (Lit.int .i64 v).wf = true) :
    Calls Try.prog 11 #[.pointer (some ⟨lb, 0, none⟩), .int .i64 u, .int .i64 v] w fun r w' => r = .returned (.tuple #[wayV ((F u v).getD ⟨0, 0, 0⟩), .bool (F u v).isSome]) ∧ Below w.heap.size w w' := by
  have hwu : (Lit.int .i64 (u : Int)).wf = true := wf64 (by omega) (by omega)
  have g0 : Below w.heap.size w (w.alloc (.cells #[.int .i64 0, .int .i64 0, .int .i64 0] 37)) := (Below.refl _ _).alloc (Nat.le_refl _) _
  have HG0 := Lib.hid g0
  have HZ0 := Lib.hid (blk_new w (.cells #[.int .i64 0, .int .i64 0, .int .i64 0] 37))
  have H1 := H.below g0
  have HI := Lib.hid (is_walk _ lb n K F B H1 u hwu)
  have e0 : decide (0 ≤ (u : Int) ∧ (u : Int) < n) = true := by simp; omega
  rw [e0] at HI
  obtain ⟨c0, c1, c2, c3, cl⟩ := H1.cells
  have hl := H1.out.look Try.underlying46 (zero51 _) u hwu
  rw [rowsV_at hu] at hl
  simp only [Option.getD_some] at hl
  have hl2 := (H1.outs u hu).lookOk Try.underlying51 (zero37 _) v hv
  rw [waysV_get, waysV_is] at hl2
  generalize (F u v).isSome = b at *
  generalize (F u v).getD ⟨0, 0, 0⟩ = y at *
  obtain ⟨y0, y1, y2⟩ := y
  simp only [wayV] at hl2 ⊢
  clear H e0 H1 g0
  go_enter Try.func11, Try.ntmps11
  go_upto_region 1 with fail
  generalize w.alloc (.cells #[.int .i64 0, .int .i64 0, .int .i64 0] 37) = W1 at *
  have zl := blk_lt HZ0.out
  have z0 := (blk_cell HZ0.out 0).trans rfl
  have z1 := (blk_cell HZ0.out 1).trans rfl
  have z2 := (blk_cell HZ0.out 2).trans rfl
  have zf : ∀ j, W1.frozen? ⟨w.heap.size, j, none⟩ = false := fun j => blk_frozen HZ0.out j
  go_wp2_with (first | (go_at_call 27; refine HI.out.mono ?_; rintro e w' ⟨rfl, rfl⟩))
  all_goals (try rw [Exit.noGoto_ret])
  have p0 := blk_put HZ0.out 0 (.int .i64 y0) (cs' := #[.int .i64 y0, .int .i64 0, .int .i64 0]) rfl
  have p1 := blk_put p0 1 (.int .i64 y1) (cs' := #[.int .i64 y0, .int .i64 y1, .int .i64 0]) rfl
  have p2 := blk_put p1 2 (.int .i64 y2) (cs' := #[.int .i64 y0, .int .i64 y1, .int .i64 y2]) rfl
  refine bodyPost_ret (results_ct rfl _ _ w.heap.size 37 #[.int .i64 y0, .int .i64 y1, .int .i64 y2] (0, 0) _ rfl (blk_alloc p2 _) Try.underlying37 rfl (by kernel_rfl)) rfl ?_
  refine ⟨rfl, ?_⟩
  have h1 := ((HG0.out.setCell (p := ⟨w.heap.size, 0, none⟩) (by simp) (.int .i64 y0)).setCell (p := ⟨w.heap.size, 1, none⟩) (by simp) (.int .i64 y1)).setCell (p := ⟨w.heap.size, 2, none⟩) (by simp) (.int .i64 y2)
  exact h1.alloc h1.size _

set_option maxRecDepth 100000 in
set_option maxHeartbeats 4000000 in
/-- (*Left).lay -/
theorem wlay_walk (w : World) (lb n K : Nat) (F : Int → Int → Option WayP) (B : Nat → Nat) (H : LRep w lb n K F B) (hn : n ≤ 1000) (hK : K ≤ 1000000000) (u v : Nat) (hu : u < n) (hv : v < n) (y : WayP) :
    Calls Try.prog 17 #[.pointer (some ⟨lb, 0, none⟩), .int .i64 u, .int .i64 v, wayV y] w fun r w' => (∃ x, r = .returned x) ∧ LRep w' lb n (K + 1) (putF F u v y) B ∧ Only w w' (LS n B) := by
  have hwu : (Lit.int .i64 (u : Int)).wf = true := wf64 (by omega) (by omega)
  have hwv : (Lit.int .i64 (v : Int)).wf = true := wf64 (by omega) (by omega)
  have hM : K < maxLen := by simp only [maxLen]; omega
  obtain ⟨y0, y1, y2⟩ := y
  have g0 : Below w.heap.size w (w.alloc (.cells #[.int .i64 y0, .int .i64 y1, .int .i64 y2] 37)) := (Below.refl _ _).alloc (Nat.le_refl _) _
  have HG0 := Lib.hid g0
  have HZ0 := Lib.hid (blk_new w (.cells #[.int .i64 y0, .int .i64 y1, .int .i64 y2] 37))
  have HL := Lib.hid (H.below g0)
  have HLT := Lib.hid H.lt
  simp only [wayV]
  clear H g0
  go_enter Try.func17, Try.ntmps17
  go_upto_region 1 with fail
  generalize w.alloc (.cells #[.int .i64 y0, .int .i64 y1, .int .i64 y2] 37) = W1 at *
  have HD : Hid (LRep W1.drew lb n K F B) := Lib.hid (HL.out.below (Below.refl _ _).drew)
  obtain ⟨v0, st0, w2, hr1, g1, hs1⟩ := (HD.out.outs u hu).entry Try.underlying51 zero37 hM v hwv
  obtain ⟨w3, hr2, hm2, g2⟩ := hs1 w2 (wayV ⟨y0, y1, y2⟩) rfl
  have hne : B (5 + 2 * v) ≠ B (4 + 2 * u) := fun e => absurd (HD.out.inj _ _ (by omega) (by omega) e) (by omega)
  have HM3 : Hid (MapV w3 (B (5 + 2 * v)) K (waysV fun x => F x v)) := Lib.hid (((HD.out.inns v hv).grown g1 (fun e => hne (Option.some.inj e).symm)).grown g2 (fun e => hne (Option.some.inj e).symm))
  obtain ⟨v1, st1, w4, hr3, g3, hs3⟩ := HM3.out.entry Try.underlying51 zero37 hM u hwu
  obtain ⟨w5, hr4, hm4, g4⟩ := hs3 w4 (wayV ⟨y0, y1, y2⟩) rfl
  have hg13 : W1.drew.grownBy w3 (some (B (4 + 2 * u))) := g1.trans g2
  have hg35 : w3.grownBy w5 (some (B (5 + 2 * v))) := g3.trans g4
  have HFIN := Lib.hid (HD.out.laid hu hv ⟨y0, y1, y2⟩ hm2 hg13 hm4 hg35)
  -- what is read, in each world
  have RD : Hid (∀ W : World, Only W1.drew W (fun k => k = B (4 + 2 * u) ∨ k = B (5 + 2 * v)) → (W.cell? ⟨lb, 0, none⟩ = some (.map (some (B 1))) ∧ W.cell? ⟨lb, 1, none⟩ = some (.map (some (B 2))) ∧ (Instr.lookup 46 (.map (some (B 1))) (.int .i64 u) false).run Try.prog W = .ok (.map (some (B (4 + 2 * u)))) W ∧ (Instr.lookup 46 (.map (some (B 2))) (.int .i64 v) false).run Try.prog W = .ok (.map (some (B (5 + 2 * v)))) W) ∧
      W.cell? ⟨w.heap.size, 0, none⟩ = some (.int .i64 y0) ∧ W.cell? ⟨w.heap.size, 1, none⟩ = some (.int .i64 y1) ∧ W.cell? ⟨w.heap.size, 2, none⟩ = some (.int .i64 y2)) := Lib.hid (fun W o => by
    have ne : ∀ i, i < 4 → ¬ (B i = B (4 + 2 * u) ∨ B i = B (5 + 2 * v)) := fun i hi e => by
      rcases e with e | e
      · exact absurd (HD.out.inj _ _ (by omega) (by omega) e) (by omega)
      · exact absurd (HD.out.inj _ _ (by omega) (by omega) e) (by omega)
    have hb := (o.block _ (blk_lt HD.out.blk) (by have := ne 0 (by omega); rwa [HD.out.obj] at this)).trans HD.out.blk
    have hz := (o.block w.heap.size (blk_lt HZ0.out) (fun e => by
      rcases e with e | e
      · exact absurd (HLT.out _ ⟨4 + 2 * u, by omega, rfl⟩) (by omega)
      · exact absurd (HLT.out _ ⟨5 + 2 * v, by omega, rfl⟩) (by omega))).trans HZ0.out
    have l1 := (HD.out.out.only o (ne 1 (by omega))).look Try.underlying46 (zero51 _) u hwu
    have l2 := (HD.out.inn.only o (ne 2 (by omega))).look Try.underlying46 (zero51 _) v hwv
    rw [rowsV_at hu] at l1
    rw [rowsV_at hv] at l2
    exact ⟨⟨(blk_cell hb 0).trans rfl, (blk_cell hb 1).trans rfl, l1, l2⟩, (blk_cell hz 0).trans rfl, (blk_cell hz 1).trans rfl, (blk_cell hz 2).trans rfl⟩)
  have o2 : Only W1.drew w2 (fun k => k = B (4 + 2 * u) ∨ k = B (5 + 2 * v)) := (Only.of_grown g1).mono (fun k _ e => by cases e; exact .inl rfl)
  have o3 : Only W1.drew w3 (fun k => k = B (4 + 2 * u) ∨ k = B (5 + 2 * v)) := (Only.of_grown hg13).mono (fun k _ e => by cases e; exact .inl rfl)
  have o4 : Only W1.drew w4 (fun k => k = B (4 + 2 * u) ∨ k = B (5 + 2 * v)) := o3.trans ((Only.of_grown g3).mono (fun k _ e _ => by cases e; exact .inr rfl))
  obtain ⟨⟨p0, p1, p2, p3⟩, p4, p5, p6⟩ := RD.out W1.drew (Only.refl _ _)
  have R2 := RD.out w2 o2
  have R3 := RD.out w3 o3
  have R4 := RD.out w4 o4
  simp only [wayV] at hr2 hr4
  clear hs1 hs3 g1 g2 g3 g4 hm2 hm4 hg13 hg35 o2 o3 o4 hne hM
  refine start_ (n := 22) (S := fun w' => w'.cell? ⟨lb, 0, none⟩ = some (.map (some (B 1))) ∧ w'.cell? ⟨lb, 1, none⟩ = some (.map (some (B 2))) ∧ (Instr.lookup 46 (.map (some (B 1))) (.int .i64 u) false).run Try.prog w' = .ok (.map (some (B (4 + 2 * u)))) w' ∧ (Instr.lookup 46 (.map (some (B 2))) (.int .i64 v) false).run Try.prog w' = .ok (.map (some (B (5 + 2 * v)))) w' ∧ w'.cell? ⟨w.heap.size, 0, none⟩ = some (.int .i64 y0) ∧ w'.cell? ⟨w.heap.size, 1, none⟩ = some (.int .i64 y1) ∧ w'.cell? ⟨w.heap.size, 2, none⟩ = some (.int .i64 y2)) (ds := [21]) #[false, false, false, false, false, false, false, false, false, false, false, false, false, false, false, false, false, false, false, false, false, false] (by kernel_rfl) rfl rfl ⟨p0, p1, p2, p3, p4, p5, p6⟩ (fun hHeld => ?_)
  refine pure_ (i := 0) (N := some 8) (v := ?_) (a' := ?_) #[true, false, false, false, false, false, false, false, false, false, false, false, false, false, false, false, false, false, false, false, false, false] rfl rfl (by kernel_rfl) (fun _ _ _ h => h) (Or.inl ⟨by rfl, ?_⟩) ?_ ?_
  rotate_left
  · intro w'
    go_simp
    with_reducible rfl
  rotate_left
  · simp only [Act.put, List.setIfInBounds_toArray, List.set_cons_zero, List.set_cons_succ, i64_w, i32_w]
    rfl
  refine pure_ (i := 1) (N := some 9) (v := ?_) (a' := ?_) #[true, true, false, false, false, false, false, false, false, false, false, false, false, false, false, false, false, false, false, false, false, false] rfl rfl (by kernel_rfl) (fun _ _ _ h => h) (Or.inl ⟨by rfl, ?_⟩) ?_ ?_
  rotate_left
  · intro w'
    go_simp
    with_reducible rfl
  rotate_left
  · simp only [Act.put, List.setIfInBounds_toArray, List.set_cons_zero, List.set_cons_succ, i64_w, i32_w]
    rfl
  refine pure_ (i := 2) (N := some 10) (v := ?_) (a' := ?_) #[true, true, true, false, false, false, false, false, false, false, false, false, false, false, false, false, false, false, false, false, false, false] rfl rfl (by kernel_rfl) (fun _ _ _ h => h) (Or.inl ⟨by rfl, ?_⟩) ?_ ?_
  rotate_left
  · intro w'
    go_simp
    with_reducible rfl
  rotate_left
  · simp only [Act.put, List.setIfInBounds_toArray, List.set_cons_zero, List.set_cons_succ, i64_w, i32_w]
    rfl
  refine pure_ (i := 4) (N := some 12) (v := ?_) (a' := ?_) #[true, true, true, false, true, false, false, false, false, false, false, false, false, false, false, false, false, false, false, false, false, false] rfl rfl (by kernel_rfl) (fun _ _ _ h => h) (Or.inl ⟨by rfl, ?_⟩) ?_ ?_
  rotate_left
  · intro w'
    go_simp
    with_reducible rfl
  rotate_left
  · simp only [Act.put, List.setIfInBounds_toArray, List.set_cons_zero, List.set_cons_succ, i64_w, i32_w]
    rfl
  refine pure_ (i := 6) (N := some 14) (v := ?_) (a' := ?_) #[true, true, true, false, true, false, true, false, false, false, false, false, false, false, false, false, false, false, false, false, false, false] rfl rfl (by kernel_rfl) (fun _ _ _ h => h) (Or.inl ⟨by rfl, ?_⟩) ?_ ?_
  rotate_left
  · intro w'
    go_simp
    with_reducible rfl
  rotate_left
  · simp only [Act.put, List.setIfInBounds_toArray, List.set_cons_zero, List.set_cons_succ, i64_w, i32_w]
    rfl
  refine pure_ (i := 7) (N := some 15) (v := ?_) (a' := ?_) #[true, true, true, false, true, false, true, true, false, false, false, false, false, false, false, false, false, false, false, false, false, false] rfl rfl (by kernel_rfl) (fun _ _ _ h => h) (Or.inl ⟨by rfl, ?_⟩) ?_ ?_
  rotate_left
  · intro w'
    go_simp
    with_reducible rfl
  rotate_left
  · simp only [Act.put, List.setIfInBounds_toArray, List.set_cons_zero, List.set_cons_succ, i64_w, i32_w]
    rfl
  refine pure_ (i := 8) (N := some 16) (v := ?_) (a' := ?_) #[true, true, true, false, true, false, true, true, true, false, false, false, false, false, false, false, false, false, false, false, false, false] rfl rfl (by kernel_rfl) (fun _ _ _ h => h) (Or.inl ⟨by rfl, ?_⟩) ?_ ?_
  rotate_left
  · intro w'
    go_simp
    with_reducible rfl
  rotate_left
  · simp only [Act.put, List.setIfInBounds_toArray, List.set_cons_zero, List.set_cons_succ, i64_w, i32_w]
    rfl
  refine pure_ (i := 9) (N := some 17) (v := ?_) (a' := ?_) #[true, true, true, false, true, false, true, true, true, true, false, false, false, false, false, false, false, false, false, false, false, false] rfl rfl (by kernel_rfl) (fun _ _ _ h => h) (Or.inl ⟨by rfl, ?_⟩) ?_ ?_
  rotate_left
  · intro w'
    go_simp
    with_reducible rfl
  rotate_left
  · simp only [Act.put, List.setIfInBounds_toArray, List.set_cons_zero, List.set_cons_succ, i64_w, i32_w]
    rfl
  refine pure_ (i := 11) (N := some 19) (v := ?_) (a' := ?_) #[true, true, true, false, true, false, true, true, true, true, false, true, false, false, false, false, false, false, false, false, false, false] rfl rfl (by kernel_rfl) (fun _ _ _ h => h) (Or.inl ⟨by rfl, ?_⟩) ?_ ?_
  rotate_left
  · intro w'
    go_simp
    with_reducible rfl
  rotate_left
  · simp only [Act.put, List.setIfInBounds_toArray, List.set_cons_zero, List.set_cons_succ, i64_w, i32_w]
    rfl
  refine pure_ (i := 13) (N := some 21) (v := ?_) (a' := ?_) #[true, true, true, false, true, false, true, true, true, true, false, true, false, true, false, false, false, false, false, false, false, false] rfl rfl (by kernel_rfl) (fun _ _ _ h => h) (Or.inl ⟨by rfl, ?_⟩) ?_ ?_
  rotate_left
  · intro w'
    go_simp
    with_reducible rfl
  rotate_left
  · simp only [Act.put, List.setIfInBounds_toArray, List.set_cons_zero, List.set_cons_succ, i64_w, i32_w]
    rfl
  refine take_ (i := 3) (N := some 11) (v := ?_) (a' := ?_) #[true, true, true, true, true, false, true, true, true, true, false, true, false, true, false, false, false, false, false, false, false, false] rfl rfl (by kernel_rfl) (fun _ _ _ h => h) (Or.inl ⟨by rfl, ?_⟩) hHeld ?_ ?_
  rotate_left
  · rintro w' ⟨s0, s1, s2, s3, s4, s5, s6⟩
    go_simp
    with_reducible rfl
  rotate_left
  · simp only [Act.put, List.setIfInBounds_toArray, List.set_cons_zero, List.set_cons_succ, i64_w, i32_w]
    rfl
  refine take_ (i := 5) (N := some 13) (v := ?_) (a' := ?_) #[true, true, true, true, true, true, true, true, true, true, false, true, false, true, false, false, false, false, false, false, false, false] rfl rfl (by kernel_rfl) (fun _ _ _ h => h) (Or.inl ⟨by rfl, ?_⟩) hHeld ?_ ?_
  rotate_left
  · rintro w' ⟨s0, s1, s2, s3, s4, s5, s6⟩
    go_simp
    with_reducible rfl
  rotate_left
  · simp only [Act.put, List.setIfInBounds_toArray, List.set_cons_zero, List.set_cons_succ, i64_w, i32_w]
    rfl
  refine take_ (i := 10) (N := some 18) (v := ?_) (a' := ?_) #[true, true, true, true, true, true, true, true, true, true, true, true, false, true, false, false, false, false, false, false, false, false] rfl rfl (by kernel_rfl) (fun _ _ _ h => h) (Or.inl ⟨by rfl, ?_⟩) hHeld ?_ ?_
  rotate_left
  · rintro w' ⟨s0, s1, s2, s3, s4, s5, s6⟩
    go_simp
    with_reducible rfl
  rotate_left
  · simp only [Act.put, List.setIfInBounds_toArray, List.set_cons_zero, List.set_cons_succ, i64_w, i32_w]
    rfl
  refine take_ (i := 12) (N := some 20) (v := ?_) (a' := ?_) #[true, true, true, true, true, true, true, true, true, true, true, true, true, true, false, false, false, false, false, false, false, false] rfl rfl (by kernel_rfl) (fun _ _ _ h => h) (Or.inl ⟨by rfl, ?_⟩) hHeld ?_ ?_
  rotate_left
  · rintro w' ⟨s0, s1, s2, s3, s4, s5, s6⟩
    go_simp
    with_reducible rfl
  rotate_left
  · simp only [Act.put, List.setIfInBounds_toArray, List.set_cons_zero, List.set_cons_succ, i64_w, i32_w]
    rfl
  refine take_ (i := 14) (N := some 22) (v := ?_) (a' := ?_) #[true, true, true, true, true, true, true, true, true, true, true, true, true, true, true, false, false, false, false, false, false, false] rfl rfl (by kernel_rfl) (fun _ _ _ h => h) (Or.inl ⟨by rfl, ?_⟩) hHeld ?_ ?_
  rotate_left
  · rintro w' ⟨s0, s1, s2, s3, s4, s5, s6⟩
    go_simp
    with_reducible rfl
  rotate_left
  · simp only [Act.put, List.setIfInBounds_toArray, List.set_cons_zero, List.set_cons_succ, i64_w, i32_w]
    rfl
  refine take_ (i := 15) (N := some 23) (v := ?_) (a' := ?_) #[true, true, true, true, true, true, true, true, true, true, true, true, true, true, true, true, false, false, false, false, false, false] rfl rfl (by kernel_rfl) (fun _ _ _ h => h) (Or.inl ⟨by rfl, ?_⟩) hHeld ?_ ?_
  rotate_left
  · rintro w' ⟨s0, s1, s2, s3, s4, s5, s6⟩
    go_simp
    with_reducible rfl
  rotate_left
  · simp only [Act.put, List.setIfInBounds_toArray, List.set_cons_zero, List.set_cons_succ, i64_w, i32_w]
    rfl
  refine one_ (i := 16) (N := some 24) #[true, true, true, true, true, true, true, true, true, true, true, true, true, true, true, true, true, false, false, false, false, false] rfl rfl (by kernel_rfl) (by decide) (fun K hK => ?_)
  refine value_ (w1 := ?_) (v := ?_) (by rfl) rfl ?_ ?_
  rotate_left 2
  · go_simp
    constructor
    · rfl
    · rfl
  refine hK.out _ _ ⟨R2.1.1, R2.1.2.1, R2.1.2.2.1, R2.1.2.2.2, R2.2.1, R2.2.2.1, R2.2.2.2⟩ (fun hHeld => ?_)
  clear hK K
  refine norm_ (a' := ?_) ?_ ?_
  rotate_left
  · show Act.put _ (some 24) _ = _
    simp only [Act.put, List.setIfInBounds_toArray, List.set_cons_zero, List.set_cons_succ, i64_w, i32_w]
    rfl
  refine pure_ (i := 17) (N := some 25) (v := ?_) (a' := ?_) #[true, true, true, true, true, true, true, true, true, true, true, true, true, true, true, true, true, true, false, false, false, false] rfl rfl (by kernel_rfl) (fun _ _ _ h => h) (Or.inl ⟨by rfl, ?_⟩) ?_ ?_
  rotate_left
  · intro w'
    go_simp
    with_reducible rfl
  rotate_left
  · simp only [Act.put, List.setIfInBounds_toArray, List.set_cons_zero, List.set_cons_succ, i64_w, i32_w]
    rfl
  refine one_ (i := 18) (N := none) #[true, true, true, true, true, true, true, true, true, true, true, true, true, true, true, true, true, true, true, false, false, false] rfl rfl (by kernel_rfl) (by decide) (fun K hK => ?_)
  refine skip_ (w1 := ?_) (by rfl) rfl ?_ ?_
  rotate_left
  · go_simp
    rfl
  refine hK.out _ _ ⟨R3.1.1, R3.1.2.1, R3.1.2.2.1, R3.1.2.2.2, R3.2.1, R3.2.2.1, R3.2.2.2⟩ (fun hHeld => ?_)
  clear hK K
  refine one_ (i := 19) (N := some 26) #[true, true, true, true, true, true, true, true, true, true, true, true, true, true, true, true, true, true, true, true, false, false] rfl rfl (by kernel_rfl) (by decide) (fun K hK => ?_)
  refine value_ (w1 := ?_) (v := ?_) (by rfl) rfl ?_ ?_
  rotate_left 2
  · go_simp
    constructor
    · rfl
    · rfl
  refine hK.out _ _ ⟨R4.1.1, R4.1.2.1, R4.1.2.2.1, R4.1.2.2.2, R4.2.1, R4.2.2.1, R4.2.2.2⟩ (fun hHeld => ?_)
  clear hK K
  refine norm_ (a' := ?_) ?_ ?_
  rotate_left
  · show Act.put _ (some 26) _ = _
    simp only [Act.put, List.setIfInBounds_toArray, List.set_cons_zero, List.set_cons_succ, i64_w, i32_w]
    rfl
  refine pure_ (i := 20) (N := some 27) (v := ?_) (a' := ?_) #[true, true, true, true, true, true, true, true, true, true, true, true, true, true, true, true, true, true, true, true, true, false] rfl rfl (by kernel_rfl) (fun _ _ _ h => h) (Or.inl ⟨by rfl, ?_⟩) ?_ ?_
  rotate_left
  · intro w'
    go_simp
    with_reducible rfl
  rotate_left
  · simp only [Act.put, List.setIfInBounds_toArray, List.set_cons_zero, List.set_cons_succ, i64_w, i32_w]
    rfl
  refine last_ (i := 21) (N := none) #[true, true, true, true, true, true, true, true, true, true, true, true, true, true, true, true, true, true, true, true, true, true] rfl rfl (by kernel_rfl) (by decide) (fun K hK => ?_)
  refine skip_ (w1 := ?_) (by rfl) rfl ?_ ?_
  rotate_left
  · go_simp
    rfl
  refine hK.out _ _ ?_
  clear hK K
  refine done_ (by kernel_rfl) ?_
  all_goals (go_wp2_with fail)
  refine bodyPost_end (results_none rfl _ _ _) rfl ?_
  exact ⟨⟨_, rfl⟩, HFIN.out.1, (Only.of_below HG0.out _).trans ((((Only.refl W1 (LS n B)).drew).trans (HFIN.out.2.mono (fun k _ h _ => h))).mono (fun k _ h _ => h))⟩
end Go.Proofs.Ytfppfdejjifhdaa.PAll
