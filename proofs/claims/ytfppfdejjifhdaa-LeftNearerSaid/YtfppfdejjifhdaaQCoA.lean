import Derived.Test.YtfppfdejjifhdaaQNuA
namespace Go.Proofs.Ytfppfdejjifhdaa.PAll
open Go.RowKit Go.Proofs.YtfppfdejjifhdaaW.PrintWords Go.Proofs.YtfppfdejjifhdaaW.PrintLast Go.Proofs.YtfppfdejjifhdaaW.PrintMore
open Hp hiding Good
set_option linter.unusedVariables false
set_option linter.unusedSimpArgs false

open Go.WideElems (Fit rg rd_key rg_of) in
/-- a map with one key has one entry -/
theorem MapV.len1 {w : World} {b n : Nat} {f : Int → Option Value} (h : MapV w b n f) {t e : TypeId} (ht : Try.prog.underlying t = some (.map 3 e)) (c : Int) (hc : ∀ x, (f x).isSome = decide (x = c)) (ty : TypeId) :
    (Builtin.len_ #[t] ty #[.map (some b)]).run Try.prog w = .ok (.int .i64 1) w := by
  obtain ⟨D, h1, h2, h3⟩ := h
  rw [h1.len ht ty]
  obtain ⟨es, hE, hP, _⟩ := h1.entries key3
  have hk : ∀ p ∈ es, p.1 = Lit.int .i64 c := by
    obtain ⟨es', clock, _, F, _, hD⟩ := h1
    rw [hE] at hD
    injection hD with hD
    intro p hp
    have hp2 := hp
    rw [hD] at hp2
    obtain ⟨x, hx, e2⟩ := List.mem_map.1 (Go.mem_sorted.1 hp2)
    obtain ⟨y, hy⟩ := F.reads x hx
    rw [rg_of hy] at e2
    obtain ⟨z, _, e3, _⟩ := Maps.keyOf_int_inv Try.underlying3 (rd_key hy)
    have e4 : p.1 = Lit.int .i64 z := by rw [← e2]; exact e3
    have hh : Maps.has D (.int .i64 z) = true := by
      rw [hE, Maps.has_eq]
      exact List.any_eq_true.2 ⟨p, hp, by rw [e4]; exact WideAt.sameKey_self trivial⟩
    rw [(h3 z).1, hc z] at hh
    have : z = c := by simpa using hh
    rw [e4, this]
  have hl : es.length = 1 := by
    have hh : Maps.has D (.int .i64 c) = true := by rw [(h3 c).1, hc c]; simp
    rw [hE, Maps.has_eq] at hh
    obtain ⟨p, hp, _⟩ := List.any_eq_true.1 hh
    match es, hP, hk, hp with
    | [], _, _, hp => cases hp
    | [_], _, _, _ => rfl
    | a :: b :: r, hP, hk, _ =>
      exfalso
      rw [List.pairwise_cons] at hP
      exact hP.1 b (by simp) (by rw [hk a (by simp), hk b (by simp)])
  rw [hE, Maps.size_eq, hl]
  rfl

theorem MapI.look0 {w : World} {b n : Nat} (h : MapI w b n (fun _ => none)) (x : Int) (hx : (Lit.int .i64 x).wf = true) : (Instr.lookup 47 (.map (some b)) (.int .i64 x) false).run Try.prog w = .ok (.int .i64 0) w := by
  obtain ⟨D, h1, h2, h3⟩ := h
  obtain ⟨c, hr, hat, _⟩ := h1.lookup_int key3 Try.underlying47 Try.underlying3 (zero3 w) (Maps.keyOf_int_mk Try.underlying3 hx)
  rw [(h3 x).2] at hat
  simp only [DataW.lit.injEq, Lit.int.injEq, true_and] at hat
  rw [hr, ← hat]

set_option maxRecDepth 100000 in
set_option maxHeartbeats 8000000 in
/-- (*Left).Cost of a place with one way in and one way out -/
theorem cost_walk (w : World) (lb n K : Nat) (F : Int → Int → Option WayP) (B : Nat → Nat) (H : LRep w lb n K F B) (hn : n ≤ 900) (v : Nat) (hv : v < n) (c d : Int) (hc : ∀ x, (F x v).isSome = decide (x = c)) (hd : ∀ x, (F v x).isSome = decide (x = d)) (hcd : c ≠ d) :
    Calls Try.prog 13 #[.pointer (some ⟨lb, 0, none⟩), .int .i64 v] w fun r w' => r = .returned (.int .i64 (-1)) ∧ Below w.heap.size w w' := by
  have hwv : (Lit.int .i64 (v : Int)).wf = true := wf64 (by omega) (by omega)
  have HV := Lib.hid (is_walk w lb n K F B H v hwv)
  rw [decide_eq_true (show 0 ≤ (v : Int) ∧ (v : Int) < n by omega)] at HV
  have HL := Lib.hid H
  have RD : Hid (∀ W : World, Below w.heap.size w W → (W.cell? ⟨lb, 0, none⟩ = some (.map (some (B 1))) ∧ W.cell? ⟨lb, 1, none⟩ = some (.map (some (B 2))) ∧ W.cell? ⟨lb, 2, none⟩ = some (.map (some (B 3))) ∧ (Instr.lookup 46 (.map (some (B 1))) (.int .i64 v) false).run Try.prog W = .ok (.map (some (B (4 + 2 * v)))) W ∧ (Instr.lookup 46 (.map (some (B 2))) (.int .i64 v) false).run Try.prog W = .ok (.map (some (B (5 + 2 * v)))) W) ∧
      ((Instr.lookup 47 (.map (some (B 3))) (.int .i64 v) false).run Try.prog W = .ok (.int .i64 0) W ∧ (Builtin.len_ #[51] 3 #[.map (some (B (4 + 2 * v)))]).run Try.prog W = .ok (.int .i64 1) W ∧ (Builtin.len_ #[51] 3 #[.map (some (B (5 + 2 * v)))]).run Try.prog W = .ok (.int .i64 1) W)) := Lib.hid (fun W o => by
    have H := HL.out.below o
    obtain ⟨c0, c1, c2, c3, cl⟩ := H.cells
    have l1 := H.out.look Try.underlying46 (zero51 _) v hwv
    have l2 := H.inn.look Try.underlying46 (zero51 _) v hwv
    rw [rowsV_at hv] at l1 l2
    have l3 := H.lost.look0 v hwv
    exact ⟨⟨c0, c1, c2, l1, l2⟩, l3, (H.outs v hv).len1 Try.underlying51 d (fun x => by rw [waysV_is]; exact hd x) 3, (H.inns v hv).len1 Try.underlying51 c (fun x => by rw [waysV_is]; exact hc x) 3⟩)
  have HIN : Hid (∀ x y, F x v = some y → F v x = none) := Lib.hid (fun x y e => by
    have e1 := hc x
    rw [e] at e1
    have e2 := hd x
    have e3 : x = c := by simpa using e1.symm
    rw [decide_eq_false (by omega)] at e2
    cases hf : F v x with
    | none => rfl
    | some z => rw [hf] at e2; cases e2)
  clear H hc hd hcd
  have g0 := Lib.hid (Below.refl w.heap.size w)
  go_enter Try.func13, Try.ntmps13
  go_upto_region 3 with (first | (go_at_call 27; with_reducible refine HV.out.mono ?_; rintro e w' ⟨rfl, rfl⟩))
  have gd := Lib.hid ((Below.refl w.heap.size w).drew)
  obtain ⟨⟨p0, p1, p2, p3, p4⟩, p5, p6, p7⟩ := RD.out w.drew gd.out
  refine start_ (n := 16) (S := fun w' => w'.cell? ⟨lb, 0, none⟩ = some (.map (some (B 1))) ∧ w'.cell? ⟨lb, 1, none⟩ = some (.map (some (B 2))) ∧ w'.cell? ⟨lb, 2, none⟩ = some (.map (some (B 3))) ∧ (Instr.lookup 46 (.map (some (B 1))) (.int .i64 v) false).run Try.prog w' = .ok (.map (some (B (4 + 2 * v)))) w' ∧ (Instr.lookup 46 (.map (some (B 2))) (.int .i64 v) false).run Try.prog w' = .ok (.map (some (B (5 + 2 * v)))) w' ∧ (Instr.lookup 47 (.map (some (B 3))) (.int .i64 v) false).run Try.prog w' = .ok (.int .i64 0) w' ∧ (Builtin.len_ #[51] 3 #[.map (some (B (4 + 2 * v)))]).run Try.prog w' = .ok (.int .i64 1) w' ∧ (Builtin.len_ #[51] 3 #[.map (some (B (5 + 2 * v)))]).run Try.prog w' = .ok (.int .i64 1) w') (ds := []) #[false, false, false, false, false, false, false, false, false, false, false, false, false, false, false, false] (by kernel_rfl) rfl rfl ⟨p0, p1, p2, p3, p4, p5, p6, p7⟩ (fun hHeld => ?_)
  refine pure_ (i := 0) (N := some 13) (v := ?_) (a' := ?_) #[true, false, false, false, false, false, false, false, false, false, false, false, false, false, false, false] rfl rfl (by kernel_rfl) (fun _ _ _ h => h) (Or.inl ⟨by rfl, ?_⟩) ?_ ?_
  rotate_left
  · intro w'
    go_simp
    with_reducible rfl
  rotate_left
  · simp only [Act.put, List.setIfInBounds_toArray, List.set_cons_zero, List.set_cons_succ, i64_w, i32_w]
    rfl
  refine pure_ (i := 1) (N := some 14) (v := ?_) (a' := ?_) #[true, true, false, false, false, false, false, false, false, false, false, false, false, false, false, false] rfl rfl (by kernel_rfl) (fun _ _ _ h => h) (Or.inl ⟨by rfl, ?_⟩) ?_ ?_
  rotate_left
  · intro w'
    go_simp
    with_reducible rfl
  rotate_left
  · simp only [Act.put, List.setIfInBounds_toArray, List.set_cons_zero, List.set_cons_succ, i64_w, i32_w]
    rfl
  refine pure_ (i := 2) (N := some 15) (v := ?_) (a' := ?_) #[true, true, true, false, false, false, false, false, false, false, false, false, false, false, false, false] rfl rfl (by kernel_rfl) (fun _ _ _ h => h) (Or.inl ⟨by rfl, ?_⟩) ?_ ?_
  rotate_left
  · intro w'
    go_simp
    with_reducible rfl
  rotate_left
  · simp only [Act.put, List.setIfInBounds_toArray, List.set_cons_zero, List.set_cons_succ, i64_w, i32_w]
    rfl
  refine pure_ (i := 4) (N := some 17) (v := ?_) (a' := ?_) #[true, true, true, false, true, false, false, false, false, false, false, false, false, false, false, false] rfl rfl (by kernel_rfl) (fun _ _ _ h => h) (Or.inl ⟨by rfl, ?_⟩) ?_ ?_
  rotate_left
  · intro w'
    go_simp
    with_reducible rfl
  rotate_left
  · simp only [Act.put, List.setIfInBounds_toArray, List.set_cons_zero, List.set_cons_succ, i64_w, i32_w]
    rfl
  refine pure_ (i := 7) (N := some 20) (v := ?_) (a' := ?_) #[true, true, true, false, true, false, false, true, false, false, false, false, false, false, false, false] rfl rfl (by kernel_rfl) (fun _ _ _ h => h) (Or.inl ⟨by rfl, ?_⟩) ?_ ?_
  rotate_left
  · intro w'
    go_simp
    with_reducible rfl
  rotate_left
  · simp only [Act.put, List.setIfInBounds_toArray, List.set_cons_zero, List.set_cons_succ, i64_w, i32_w]
    rfl
  refine pure_ (i := 8) (N := some 21) (v := ?_) (a' := ?_) #[true, true, true, false, true, false, false, true, true, false, false, false, false, false, false, false] rfl rfl (by kernel_rfl) (fun _ _ _ h => h) (Or.inl ⟨by rfl, ?_⟩) ?_ ?_
  rotate_left
  · intro w'
    go_simp
    with_reducible rfl
  rotate_left
  · simp only [Act.put, List.setIfInBounds_toArray, List.set_cons_zero, List.set_cons_succ, i64_w, i32_w]
    rfl
  refine pure_ (i := 9) (N := some 22) (v := ?_) (a' := ?_) #[true, true, true, false, true, false, false, true, true, true, false, false, false, false, false, false] rfl rfl (by kernel_rfl) (fun _ _ _ h => h) (Or.inl ⟨by rfl, ?_⟩) ?_ ?_
  rotate_left
  · intro w'
    go_simp
    with_reducible rfl
  rotate_left
  · simp only [Act.put, List.setIfInBounds_toArray, List.set_cons_zero, List.set_cons_succ, i64_w, i32_w]
    rfl
  refine pure_ (i := 11) (N := some 24) (v := ?_) (a' := ?_) #[true, true, true, false, true, false, false, true, true, true, false, true, false, false, false, false] rfl rfl (by kernel_rfl) (fun _ _ _ h => h) (Or.inl ⟨by rfl, ?_⟩) ?_ ?_
  rotate_left
  · intro w'
    go_simp
    with_reducible rfl
  rotate_left
  · simp only [Act.put, List.setIfInBounds_toArray, List.set_cons_zero, List.set_cons_succ, i64_w, i32_w]
    rfl
  refine take_ (i := 3) (N := some 16) (v := ?_) (a' := ?_) #[true, true, true, true, true, false, false, true, true, true, false, true, false, false, false, false] rfl rfl (by kernel_rfl) (fun _ _ _ h => h) (Or.inl ⟨by rfl, ?_⟩) hHeld ?_ ?_
  rotate_left
  · rintro w' ⟨s0, s1, s2, s3, s4, s5, s6, s7⟩
    go_simp
    with_reducible rfl
  rotate_left
  · simp only [Act.put, List.setIfInBounds_toArray, List.set_cons_zero, List.set_cons_succ, i64_w, i32_w]
    rfl
  refine take_ (i := 5) (N := some 18) (v := ?_) (a' := ?_) #[true, true, true, true, true, true, false, true, true, true, false, true, false, false, false, false] rfl rfl (by kernel_rfl) (fun _ _ _ h => h) (Or.inl ⟨by rfl, ?_⟩) hHeld ?_ ?_
  rotate_left
  · rintro w' ⟨s0, s1, s2, s3, s4, s5, s6, s7⟩
    go_simp
    with_reducible rfl
  rotate_left
  · simp only [Act.put, List.setIfInBounds_toArray, List.set_cons_zero, List.set_cons_succ, i64_w, i32_w]
    rfl
  refine take_ (i := 6) (N := some 19) (v := ?_) (a' := ?_) #[true, true, true, true, true, true, true, true, true, true, false, true, false, false, false, false] rfl rfl (by kernel_rfl) (fun _ _ _ h => h) (Or.inl ⟨by rfl, ?_⟩) hHeld ?_ ?_
  rotate_left
  · rintro w' ⟨s0, s1, s2, s3, s4, s5, s6, s7⟩
    go_simp
    with_reducible rfl
  rotate_left
  · simp only [Act.put, List.setIfInBounds_toArray, List.set_cons_zero, List.set_cons_succ, i64_w, i32_w]
    rfl
  refine take_ (i := 10) (N := some 23) (v := ?_) (a' := ?_) #[true, true, true, true, true, true, true, true, true, true, true, true, false, false, false, false] rfl rfl (by kernel_rfl) (fun _ _ _ h => h) (Or.inl ⟨by rfl, ?_⟩) hHeld ?_ ?_
  rotate_left
  · rintro w' ⟨s0, s1, s2, s3, s4, s5, s6, s7⟩
    go_simp
    with_reducible rfl
  rotate_left
  · simp only [Act.put, List.setIfInBounds_toArray, List.set_cons_zero, List.set_cons_succ, i64_w, i32_w]
    rfl
  refine take_ (i := 12) (N := some 25) (v := ?_) (a' := ?_) #[true, true, true, true, true, true, true, true, true, true, true, true, true, false, false, false] rfl rfl (by kernel_rfl) (fun _ _ _ h => h) (Or.inl ⟨by rfl, ?_⟩) hHeld ?_ ?_
  rotate_left
  · rintro w' ⟨s0, s1, s2, s3, s4, s5, s6, s7⟩
    go_simp
    with_reducible rfl
  rotate_left
  · simp only [Act.put, List.setIfInBounds_toArray, List.set_cons_zero, List.set_cons_succ, i64_w, i32_w]
    rfl
  refine take_ (i := 13) (N := some 26) (v := ?_) (a' := ?_) #[true, true, true, true, true, true, true, true, true, true, true, true, true, true, false, false] rfl rfl (by kernel_rfl) (fun _ _ _ h => h) (Or.inl ⟨by rfl, ?_⟩) hHeld ?_ ?_
  rotate_left
  · rintro w' ⟨s0, s1, s2, s3, s4, s5, s6, s7⟩
    go_simp
    with_reducible rfl
  rotate_left
  · simp only [Act.put, List.setIfInBounds_toArray, List.set_cons_zero, List.set_cons_succ, i64_w, i32_w]
    rfl
  refine pure_ (i := 14) (N := some 27) (v := ?_) (a' := ?_) #[true, true, true, true, true, true, true, true, true, true, true, true, true, true, true, false] rfl rfl (by kernel_rfl) (fun _ _ _ h => h) (Or.inl ⟨by rfl, ?_⟩) ?_ ?_
  rotate_left
  · intro w'
    go_simp
    with_reducible rfl
  rotate_left
  · simp only [Act.put, List.setIfInBounds_toArray, List.set_cons_zero, List.set_cons_succ, i64_w, i32_w]
    rfl
  refine pure_ (i := 15) (N := some 5) (v := ?_) (a' := ?_) #[true, true, true, true, true, true, true, true, true, true, true, true, true, true, true, true] rfl rfl (by kernel_rfl) (fun _ _ _ h => h) (Or.inl ⟨by rfl, ?_⟩) ?_ ?_
  rotate_left
  · intro w'
    go_simp
    with_reducible rfl
  rotate_left
  · simp only [Act.put, List.setIfInBounds_toArray, List.set_cons_zero, List.set_cons_succ, i64_w, i32_w]
    rfl
  refine done_ (by kernel_rfl) ?_
  have hD1 := gd.out
  have HL1 := Lib.hid (HL.out.below gd.out)
  clear p0 p1 p2 p3 p4 p5 p6 p7
  generalize w.drew = W1 at *
  obtain ⟨⟨c0, c1, c2, c3, c4⟩, c5, c6, c7⟩ := RD.out W1 gd.out
  obtain ⟨D, hown, _, hD⟩ := HL1.out.inns v hv
  have HDF : Hid (DF D (waysV fun x => F x v)) := Lib.hid ⟨fun x => (hD x).1, fun x => (hD x).2⟩
  have HOW := Lib.hid hown
  have HOUT := Lib.hid (fun (W : World) (o : Below w.heap.size w W) => ((HL.out.below o).outs v hv))
  clear hD hown hD1
  generalize hbx : B (5 + 2 * v) = bx at *
  go_wp2_with (at_range; refine wpList_range_own _ rfl _ 51 rfl 3 37 key3 Try.underlying51 anyElem bx K D rfl HOW.out ?_; intro w9 hrg0 hg0 hs0)
  go_frame
  have hB9 : Below W1.heap.size W1 w9 := (Only.of_grown hg0).below (Nat.le_refl _) (fun k hk => by cases hk)
  have g9 := Lib.hid (gd.out.trans (hB9.mono gd.out.size))
  have HRG0 := Lib.hid hrg0
  have hr0 := gd.out.size
  generalize W1.heap.size = r at *
  clear hrg0 hg0 hs0 hB9 c0 c1 c2 c3 c4 c5 c6 c7 HL1 HOW
  go_loopw [5] (fun v5 wr => ∃ (left : Lit → Bool) (cnt : Nat), v5 = .int .i64 1 ∧ Hid (wr.ranges Try.prog 3 anyElem bx r K D left cnt) ∧ Hid (∀ z, left z = true → Maps.has D z = true) ∧ Hid (Below w.heap.size w wr))
    (fun _ wr => wr.rangeLeft bx r)
  case atStart => exact ⟨_, _, (by kernel_rfl), HRG0, Lib.hid (fun z hz => hz), g9⟩
  case round =>
    obtain ⟨left, cnt, rfl, HRG, HLH, g3⟩ := hrel
    clear HRG0 g9
    go_wp2_with (at_next; refine wpList_next_ranges _ rfl _ rfl 3 key3 anyElem (Value.int .i64) (fun c : Value => c) (fun key kl h => by obtain ⟨x, rfl, _⟩ := Maps.keyOf_int_inv Try.underlying3 h; exact ⟨x, rfl⟩) (fun v y h => ⟨v, rfl⟩) bx r K D left cnt rfl HRG.out ?_ ?_)
    · intro hc0 hl0
      clear hl0
      go_upto_region 10 with fail
      generalize hwz : wr = wz at *
      have gz := Lib.hid (g3.out.trans ((Below.refl wz.heap.size wz).drew.mono g3.out.size))
      obtain ⟨⟨p0, p1, p2, p3, p4⟩, p5, p6, p7⟩ := RD.out wz.drew gz.out
      refine start_ (n := 25) (S := fun w' => w'.cell? ⟨lb, 0, none⟩ = some (.map (some (B 1))) ∧ w'.cell? ⟨lb, 1, none⟩ = some (.map (some (B 2))) ∧ w'.cell? ⟨lb, 2, none⟩ = some (.map (some (B 3))) ∧ (Instr.lookup 46 (.map (some (B 1))) (.int .i64 v) false).run Try.prog w' = .ok (.map (some (B (4 + 2 * v)))) w' ∧ (Instr.lookup 46 (.map (some (B 2))) (.int .i64 v) false).run Try.prog w' = .ok (.map (some (bx))) w' ∧ (Instr.lookup 47 (.map (some (B 3))) (.int .i64 v) false).run Try.prog w' = .ok (.int .i64 0) w' ∧ (Builtin.len_ #[51] 3 #[.map (some (B (4 + 2 * v)))]).run Try.prog w' = .ok (.int .i64 1) w' ∧ (Builtin.len_ #[51] 3 #[.map (some (bx))]).run Try.prog w' = .ok (.int .i64 1) w') (ds := []) #[false, false, false, false, false, false, false, false, false, false, false, false, false, false, false, false, false, false, false, false, false, false, false, false, false] (by kernel_rfl) rfl rfl ⟨p0, p1, p2, p3, p4, p5, p6, p7⟩ (fun hHeld => ?_)
      refine pure_ (i := 0) (N := some 53) (v := ?_) (a' := ?_) #[true, false, false, false, false, false, false, false, false, false, false, false, false, false, false, false, false, false, false, false, false, false, false, false, false] rfl rfl (by kernel_rfl) (fun _ _ _ h => h) (Or.inl ⟨by rfl, ?_⟩) ?_ ?_
      rotate_left
      · intro w'
        go_simp
        with_reducible rfl
      rotate_left
      · simp only [Act.put, List.setIfInBounds_toArray, List.set_cons_zero, List.set_cons_succ, i64_w, i32_w]
        rfl
      refine pure_ (i := 1) (N := some 54) (v := ?_) (a' := ?_) #[true, true, false, false, false, false, false, false, false, false, false, false, false, false, false, false, false, false, false, false, false, false, false, false, false] rfl rfl (by kernel_rfl) (fun _ _ _ h => h) (Or.inl ⟨by rfl, ?_⟩) ?_ ?_
      rotate_left
      · intro w'
        go_simp
        with_reducible rfl
      rotate_left
      · simp only [Act.put, List.setIfInBounds_toArray, List.set_cons_zero, List.set_cons_succ, i64_w, i32_w]
        rfl
      refine pure_ (i := 2) (N := some 55) (v := ?_) (a' := ?_) #[true, true, true, false, false, false, false, false, false, false, false, false, false, false, false, false, false, false, false, false, false, false, false, false, false] rfl rfl (by kernel_rfl) (fun _ _ _ h => h) (Or.inl ⟨by rfl, ?_⟩) ?_ ?_
      rotate_left
      · intro w'
        go_simp
        with_reducible rfl
      rotate_left
      · simp only [Act.put, List.setIfInBounds_toArray, List.set_cons_zero, List.set_cons_succ, i64_w, i32_w]
        rfl
      refine pure_ (i := 3) (N := some 56) (v := ?_) (a' := ?_) #[true, true, true, true, false, false, false, false, false, false, false, false, false, false, false, false, false, false, false, false, false, false, false, false, false] rfl rfl (by kernel_rfl) (fun _ _ _ h => h) (Or.inl ⟨by rfl, ?_⟩) ?_ ?_
      rotate_left
      · intro w'
        go_simp
        with_reducible rfl
      rotate_left
      · simp only [Act.put, List.setIfInBounds_toArray, List.set_cons_zero, List.set_cons_succ, i64_w, i32_w]
        rfl
      refine pure_ (i := 5) (N := some 58) (v := ?_) (a' := ?_) #[true, true, true, true, false, true, false, false, false, false, false, false, false, false, false, false, false, false, false, false, false, false, false, false, false] rfl rfl (by kernel_rfl) (fun _ _ _ h => h) (Or.inl ⟨by rfl, ?_⟩) ?_ ?_
      rotate_left
      · intro w'
        go_simp
        with_reducible rfl
      rotate_left
      · simp only [Act.put, List.setIfInBounds_toArray, List.set_cons_zero, List.set_cons_succ, i64_w, i32_w]
        rfl
      refine pure_ (i := 9) (N := some 62) (v := ?_) (a' := ?_) #[true, true, true, true, false, true, false, false, false, true, false, false, false, false, false, false, false, false, false, false, false, false, false, false, false] rfl rfl (by kernel_rfl) (fun _ _ _ h => h) (Or.inl ⟨by rfl, ?_⟩) ?_ ?_
      rotate_left
      · intro w'
        go_simp
        with_reducible rfl
      rotate_left
      · simp only [Act.put, List.setIfInBounds_toArray, List.set_cons_zero, List.set_cons_succ, i64_w, i32_w]
        rfl
      refine pure_ (i := 10) (N := some 63) (v := ?_) (a' := ?_) #[true, true, true, true, false, true, false, false, false, true, true, false, false, false, false, false, false, false, false, false, false, false, false, false, false] rfl rfl (by kernel_rfl) (fun _ _ _ h => h) (Or.inl ⟨by rfl, ?_⟩) ?_ ?_
      rotate_left
      · intro w'
        go_simp
        with_reducible rfl
      rotate_left
      · simp only [Act.put, List.setIfInBounds_toArray, List.set_cons_zero, List.set_cons_succ, i64_w, i32_w]
        rfl
      refine pure_ (i := 11) (N := some 64) (v := ?_) (a' := ?_) #[true, true, true, true, false, true, false, false, false, true, true, true, false, false, false, false, false, false, false, false, false, false, false, false, false] rfl rfl (by kernel_rfl) (fun _ _ _ h => h) (Or.inl ⟨by rfl, ?_⟩) ?_ ?_
      rotate_left
      · intro w'
        go_simp
        with_reducible rfl
      rotate_left
      · simp only [Act.put, List.setIfInBounds_toArray, List.set_cons_zero, List.set_cons_succ, i64_w, i32_w]
        rfl
      refine pure_ (i := 13) (N := some 66) (v := ?_) (a' := ?_) #[true, true, true, true, false, true, false, false, false, true, true, true, false, true, false, false, false, false, false, false, false, false, false, false, false] rfl rfl (by kernel_rfl) (fun _ _ _ h => h) (Or.inl ⟨by rfl, ?_⟩) ?_ ?_
      rotate_left
      · intro w'
        go_simp
        with_reducible rfl
      rotate_left
      · simp only [Act.put, List.setIfInBounds_toArray, List.set_cons_zero, List.set_cons_succ, i64_w, i32_w]
        rfl
      refine pure_ (i := 17) (N := some 70) (v := ?_) (a' := ?_) #[true, true, true, true, false, true, false, false, false, true, true, true, false, true, false, false, false, true, false, false, false, false, false, false, false] rfl rfl (by kernel_rfl) (fun _ _ _ h => h) (Or.inl ⟨by rfl, ?_⟩) ?_ ?_
      rotate_left
      · intro w'
        go_simp
        with_reducible rfl
      rotate_left
      · simp only [Act.put, List.setIfInBounds_toArray, List.set_cons_zero, List.set_cons_succ, i64_w, i32_w]
        rfl
      refine pure_ (i := 18) (N := some 71) (v := ?_) (a' := ?_) #[true, true, true, true, false, true, false, false, false, true, true, true, false, true, false, false, false, true, true, false, false, false, false, false, false] rfl rfl (by kernel_rfl) (fun _ _ _ h => h) (Or.inl ⟨by rfl, ?_⟩) ?_ ?_
      rotate_left
      · intro w'
        go_simp
        with_reducible rfl
      rotate_left
      · simp only [Act.put, List.setIfInBounds_toArray, List.set_cons_zero, List.set_cons_succ, i64_w, i32_w]
        rfl
      refine pure_ (i := 19) (N := some 72) (v := ?_) (a' := ?_) #[true, true, true, true, false, true, false, false, false, true, true, true, false, true, false, false, false, true, true, true, false, false, false, false, false] rfl rfl (by kernel_rfl) (fun _ _ _ h => h) (Or.inl ⟨by rfl, ?_⟩) ?_ ?_
      rotate_left
      · intro w'
        go_simp
        with_reducible rfl
      rotate_left
      · simp only [Act.put, List.setIfInBounds_toArray, List.set_cons_zero, List.set_cons_succ, i64_w, i32_w]
        rfl
      refine pure_ (i := 21) (N := some 74) (v := ?_) (a' := ?_) #[true, true, true, true, false, true, false, false, false, true, true, true, false, true, false, false, false, true, true, true, false, true, false, false, false] rfl rfl (by kernel_rfl) (fun _ _ _ h => h) (Or.inl ⟨by rfl, ?_⟩) ?_ ?_
      rotate_left
      · intro w'
        go_simp
        with_reducible rfl
      rotate_left
      · simp only [Act.put, List.setIfInBounds_toArray, List.set_cons_zero, List.set_cons_succ, i64_w, i32_w]
        rfl
      refine take_ (i := 4) (N := some 57) (v := ?_) (a' := ?_) #[true, true, true, true, true, true, false, false, false, true, true, true, false, true, false, false, false, true, true, true, false, true, false, false, false] rfl rfl (by kernel_rfl) (fun _ _ _ h => h) (Or.inl ⟨by rfl, ?_⟩) hHeld ?_ ?_
      rotate_left
      · rintro w' ⟨s0, s1, s2, s3, s4, s5, s6, s7⟩
        go_simp
        with_reducible rfl
      rotate_left
      · simp only [Act.put, List.setIfInBounds_toArray, List.set_cons_zero, List.set_cons_succ, i64_w, i32_w]
        rfl
      refine take_ (i := 6) (N := some 59) (v := ?_) (a' := ?_) #[true, true, true, true, true, true, true, false, false, true, true, true, false, true, false, false, false, true, true, true, false, true, false, false, false] rfl rfl (by kernel_rfl) (fun _ _ _ h => h) (Or.inl ⟨by rfl, ?_⟩) hHeld ?_ ?_
      rotate_left
      · rintro w' ⟨s0, s1, s2, s3, s4, s5, s6, s7⟩
        go_simp
        with_reducible rfl
      rotate_left
      · simp only [Act.put, List.setIfInBounds_toArray, List.set_cons_zero, List.set_cons_succ, i64_w, i32_w]
        rfl
      refine take_ (i := 7) (N := some 60) (v := ?_) (a' := ?_) #[true, true, true, true, true, true, true, true, false, true, true, true, false, true, false, false, false, true, true, true, false, true, false, false, false] rfl rfl (by kernel_rfl) (fun _ _ _ h => h) (Or.inl ⟨by rfl, ?_⟩) hHeld ?_ ?_
      rotate_left
      · rintro w' ⟨s0, s1, s2, s3, s4, s5, s6, s7⟩
        go_simp
        with_reducible rfl
      rotate_left
      · simp only [Act.put, List.setIfInBounds_toArray, List.set_cons_zero, List.set_cons_succ, i64_w, i32_w]
        rfl
      refine pure_ (i := 8) (N := some 61) (v := ?_) (a' := ?_) #[true, true, true, true, true, true, true, true, true, true, true, true, false, true, false, false, false, true, true, true, false, true, false, false, false] rfl rfl (by kernel_rfl) (fun _ _ _ h => h) (Or.inl ⟨by rfl, ?_⟩) ?_ ?_
      rotate_left
      · intro w'
        go_simp
        with_reducible rfl
      rotate_left
      · simp only [Act.put, List.setIfInBounds_toArray, List.set_cons_zero, List.set_cons_succ, i64_w, i32_w]
        rfl
      refine take_ (i := 12) (N := some 65) (v := ?_) (a' := ?_) #[true, true, true, true, true, true, true, true, true, true, true, true, true, true, false, false, false, true, true, true, false, true, false, false, false] rfl rfl (by kernel_rfl) (fun _ _ _ h => h) (Or.inl ⟨by rfl, ?_⟩) hHeld ?_ ?_
      rotate_left
      · rintro w' ⟨s0, s1, s2, s3, s4, s5, s6, s7⟩
        go_simp
        with_reducible rfl
      rotate_left
      · simp only [Act.put, List.setIfInBounds_toArray, List.set_cons_zero, List.set_cons_succ, i64_w, i32_w]
        rfl
      refine take_ (i := 14) (N := some 67) (v := ?_) (a' := ?_) #[true, true, true, true, true, true, true, true, true, true, true, true, true, true, true, false, false, true, true, true, false, true, false, false, false] rfl rfl (by kernel_rfl) (fun _ _ _ h => h) (Or.inl ⟨by rfl, ?_⟩) hHeld ?_ ?_
      rotate_left
      · rintro w' ⟨s0, s1, s2, s3, s4, s5, s6, s7⟩
        go_simp
        with_reducible rfl
      rotate_left
      · simp only [Act.put, List.setIfInBounds_toArray, List.set_cons_zero, List.set_cons_succ, i64_w, i32_w]
        rfl
      refine take_ (i := 15) (N := some 68) (v := ?_) (a' := ?_) #[true, true, true, true, true, true, true, true, true, true, true, true, true, true, true, true, false, true, true, true, false, true, false, false, false] rfl rfl (by kernel_rfl) (fun _ _ _ h => h) (Or.inl ⟨by rfl, ?_⟩) hHeld ?_ ?_
      rotate_left
      · rintro w' ⟨s0, s1, s2, s3, s4, s5, s6, s7⟩
        go_simp
        with_reducible rfl
      rotate_left
      · simp only [Act.put, List.setIfInBounds_toArray, List.set_cons_zero, List.set_cons_succ, i64_w, i32_w]
        rfl
      refine pure_ (i := 16) (N := some 69) (v := ?_) (a' := ?_) #[true, true, true, true, true, true, true, true, true, true, true, true, true, true, true, true, true, true, true, true, false, true, false, false, false] rfl rfl (by kernel_rfl) (fun _ _ _ h => h) (Or.inl ⟨by rfl, ?_⟩) ?_ ?_
      rotate_left
      · intro w'
        go_simp
        with_reducible rfl
      rotate_left
      · simp only [Act.put, List.setIfInBounds_toArray, List.set_cons_zero, List.set_cons_succ, i64_w, i32_w]
        rfl
      refine take_ (i := 20) (N := some 73) (v := ?_) (a' := ?_) #[true, true, true, true, true, true, true, true, true, true, true, true, true, true, true, true, true, true, true, true, true, true, false, false, false] rfl rfl (by kernel_rfl) (fun _ _ _ h => h) (Or.inl ⟨by rfl, ?_⟩) hHeld ?_ ?_
      rotate_left
      · rintro w' ⟨s0, s1, s2, s3, s4, s5, s6, s7⟩
        go_simp
        with_reducible rfl
      rotate_left
      · simp only [Act.put, List.setIfInBounds_toArray, List.set_cons_zero, List.set_cons_succ, i64_w, i32_w]
        rfl
      refine take_ (i := 22) (N := some 75) (v := ?_) (a' := ?_) #[true, true, true, true, true, true, true, true, true, true, true, true, true, true, true, true, true, true, true, true, true, true, true, false, false] rfl rfl (by kernel_rfl) (fun _ _ _ h => h) (Or.inl ⟨by rfl, ?_⟩) hHeld ?_ ?_
      rotate_left
      · rintro w' ⟨s0, s1, s2, s3, s4, s5, s6, s7⟩
        go_simp
        with_reducible rfl
      rotate_left
      · simp only [Act.put, List.setIfInBounds_toArray, List.set_cons_zero, List.set_cons_succ, i64_w, i32_w]
        rfl
      refine pure_ (i := 23) (N := some 76) (v := ?_) (a' := ?_) #[true, true, true, true, true, true, true, true, true, true, true, true, true, true, true, true, true, true, true, true, true, true, true, true, false] rfl rfl (by kernel_rfl) (fun _ _ _ h => h) (Or.inl ⟨by rfl, ?_⟩) ?_ ?_
      rotate_left
      · intro w'
        go_simp
        with_reducible rfl
      rotate_left
      · simp only [Act.put, List.setIfInBounds_toArray, List.set_cons_zero, List.set_cons_succ, i64_w, i32_w]
        rfl
      refine pure_ (i := 24) (N := some 4) (v := ?_) (a' := ?_) #[true, true, true, true, true, true, true, true, true, true, true, true, true, true, true, true, true, true, true, true, true, true, true, true, true] rfl rfl (by kernel_rfl) (fun _ _ _ h => h) (Or.inl ⟨by rfl, ?_⟩) ?_ ?_
      rotate_left
      · intro w'
        go_simp
        with_reducible rfl
      rotate_left
      · simp only [Act.put, List.setIfInBounds_toArray, List.set_cons_zero, List.set_cons_succ, i64_w, i32_w]
        rfl
      refine done_ (by kernel_rfl) ?_
      go_wp2_with fail
      go_ret
      refine ⟨?_, gz.out⟩
      show Ending.returned (Value.int IntKind.i64 (wrap64 (wrap64 (wrap64 0 - 1)))) = _
      have e : wrap64 (wrap64 (wrap64 0 - 1)) = -1 := by decide +kernel
      rw [e]
    · intro x c kl y1 y2 w1 cnt1 hkey hlk hRR hat hrg1 hlt hg1 hs1 hen
      obtain ⟨rfl, hwx, yy, hyy, rfl⟩ := next_way HDF.out hkey hlk HLH.out hRR hat
      have hno := HIN.out x yy hyy
      have HLH1 : Hid (∀ z, (left z && !z.sameKey (.int .i64 x)) = true → Maps.has D z = true) := Lib.hid (fun z hz => HLH.out z (by rw [Bool.and_eq_true] at hz; exact hz.1))
      have HLT : Hid (cnt1 < cnt) := Lib.hid hlt
      have g4 := Lib.hid (g3.out.trans ((Only.of_grown hg1).below g3.out.size (fun k hk => by cases hk; exact hr0)))
      have hO := HOUT.out w1 g4.out
      have hl2 := hO.lookOk Try.underlying51 (zero37 _) x hwx
      rw [waysV_get, waysV_is, hno] at hl2
      simp only [Option.isSome_none, Option.getD_none, wayV] at hl2
      obtain ⟨⟨c0, c1, c2, c3, c4⟩, c5, c6, c7⟩ := RD.out w1 g4.out
      have HRG1 := Lib.hid (hrg1.alloc (.cells #[.int .i64 0, .int .i64 0, .int .i64 0] 37))
      have g5 := Lib.hid (g4.out.alloc g4.out.size (.cells #[.int .i64 0, .int .i64 0, .int .i64 0] 37))
      clear hkey hlk hRR hat hrg1 hlt hg1 hs1 hyy hno hO
      go_wp2_with fail
      go_roundw
      case measure => rw [HRG1.out.left_eq, HRG.out.left_eq]; exact HLT.out
      case rel => exact ⟨_, cnt1, rfl, HRG1, HLH1, g5⟩
end Go.Proofs.Ytfppfdejjifhdaa.PAll
