import Derived.Test.YtfppfdejjifhdaaQNgA
namespace Go.Proofs.Ytfppfdejjifhdaa.PAll
open Go.RowKit Go.Proofs.YtfppfdejjifhdaaW.PrintWords Go.Proofs.YtfppfdejjifhdaaW.PrintLast Go.Proofs.YtfppfdejjifhdaaW.PrintMore
open Hp hiding Good
set_option linter.unusedVariables false
set_option linter.unusedSimpArgs false

/-- (*Graph).N -/
theorem gn_walk (w : World) (gb n : Nat) (E : Nat → List EdgP) (H : GRep w gb n E) : Calls Try.prog 15 #[.pointer (some ⟨gb, 0, none⟩)] w fun r w' => r = .returned (.int .i64 n) ∧ w = w' := by
  obtain ⟨v1, bA, bc, eA, ec, x4, x5, x6, beg, L, h1, h2, h3, h4, h5⟩ := H.blk
  have c0 : w.cell? ⟨gb, 0, none⟩ = some (.int .i64 n) := (blk_cell h1 0).trans rfl
  have cl := blk_lt h1
  clear h1 h2 h3 h4 h5 H
  go_enter Try.func15, Try.ntmps15
  go_wp2
  go_ret
  exact ⟨rfl, rfl⟩
theorem gis_walk (w : World) (gb n : Nat) (E : Nat → List EdgP) (H : GRep w gb n E) (v : Nat) (hv : v < n) : Calls Try.prog 35 #[.pointer (some ⟨gb, 0, none⟩), .int .i64 v] w fun r w' => r = .returned (.bool true) ∧ w = w' := by
  have HN := Lib.hid (gn_walk w gb n E H)
  have d0 : decide ((v : Int) ≥ 0) = true := by simp
  have d0' : decide ((0 : Int) ≤ (v : Int)) = true := by simp
  have d1 : decide ((v : Int) < (n : Int)) = true := by simp; omega
  have d2 : decide (v < n) = true := by simp; omega
  clear H
  go_enter Try.func35, Try.ntmps35
  go_wp2_with (first | (go_at_call 15; refine HN.out.mono ?_; rintro e w' ⟨rfl, rfl⟩))
  go_ret
  exact ⟨rfl, rfl⟩
theorem info55' : (Try.prog.info? 55).map (fun i => (i.zero, i.size, i.bytes)) = some (some (.agg #[(.int .i64 0), (.int .i64 0), (.int .i64 0)]), 3, 24) := by kernel_rfl
theorem cutE (eA : Option Addr) (m ec a b : Nat) (hab : a ≤ b) (hb : b ≤ m) (hm : m ≤ ec) (L : List S55) (hL : L.length = m) : ∃ A' : Option Addr, (∀ w : World, Kd.C k55 w eA m L → Kd.C k55 w A' (b - a) ((L.drop a).take (b - a))) ∧
    ∀ W : World, (Instr.slice 52 (.slice eA m ec) (some (.int .i64 (a : Int))) (some (.int .i64 (b : Int))) none).run Try.prog W = .ok (.slice A' (b - a) (ec - a)) W := by
  have hel : Try.prog.elem 52 = 55 := by simp [Program.elem, Try.underlying52]
  have hu : Try.prog.underlying 52 = some (.slice (Try.prog.elem 52)) := by rw [hel]; exact Try.underlying52
  obtain ⟨i0, hi0, hz0, hz1, hz2⟩ := info_parts info55'
  refine ⟨if ec = a then eA else eA.map (·.add (a * 3)), fun w h => ?_, fun W => ?_⟩
  · subst hL
    have h1 := Kd.C_drop (m := a) (c := ec) h (by omega) hm
    have h2 := Kd.C_take (m := b - a) h1 (by rw [List.length_drop]; omega)
    have e : ((L.drop a).take (b - a)).length = b - a := by rw [List.length_take, List.length_drop]; omega
    rw [e] at h2
    exact h2
  · rw [run_slice_lh W 52 eA m ec hu .i64 .i64 a b (by omega) (by omega) (by omega), hel]
    by_cases hc : ec = a
    · subst hc
      simp [sizeOf, typeInfo, hi0, hz1, sliced, Result.andThen]
    · have hc' : ¬ a = ec := fun e => hc e.symm
      cases eA with
      | none => simp [sizeOf, typeInfo, hi0, hz1, sliced, Result.andThen, hc, hc']
      | some ad => simp [sizeOf, typeInfo, hi0, hz1, sliced, Result.andThen, hc, hc', Addr.add]
set_option maxRecDepth 100000 in
set_option maxHeartbeats 4000000 in
theorem gall_walk (w : World) (gb n : Nat) (E : Nat → List EdgP) (H : GRep w gb n E) (v : Nat) (hv : v < n) (hn : n ≤ 900) : Calls Try.prog 36 #[.pointer (some ⟨gb, 2, none⟩), .int .i64 v] w fun r w' => ∃ (A : Option Addr) (c : Nat) (l : List S55), r = .returned (.slice A l.length c) ∧ l.length ≤ c ∧ Kd.R k55 55 w' w.heap.size (fun _ => True) (.slice A l.length c) l ∧ l.map toE = E v ∧ l.length ≤ 1000 ∧ Below w.heap.size w w' := by
  obtain ⟨v1, bA, bc, eA, ec, x4, x5, x6, beg, L, h1, h2, h3, h4, h5, h6⟩ := H.blk
  obtain ⟨a, b, ha, hb, hab, hbL, hE⟩ := h6 v hv
  have c2 : w.cell? ⟨gb, 2, none⟩ = some (.slice bA (n + 1) bc) := (blk_cell h1 2).trans rfl
  have c3 : w.cell? ⟨gb, 3, none⟩ = some (.slice eA L.length ec) := (blk_cell h1 3).trans rfl
  obtain ⟨ad, rfl, b0⟩ := Kd.at_int h2 (v : Int) (by omega) (by omega)
  obtain ⟨ad', e, b1⟩ := Kd.at_int h2 ((v + 1 : Nat) : Int) (by omega) (by omega)
  cases e
  rw [Int.toNat_natCast] at b0 b1
  rw [ha] at b0
  rw [hb] at b1
  have b1 : w.cell? ⟨ad.block, ad.off + (v + 1), none⟩ = some (.int .i64 (b : Int)) := by simpa [Addr.add] using b1
  obtain ⟨A', hA', hsl⟩ := cutE eA L.length ec a b hab hbL h3 L rfl
  have HCU := Lib.hid (Kd.C_below (hA' w h4) (Below.refl w.heap.size w).drew)
  have HE := Lib.hid hE
  have hlen : ((L.drop a).take (b - a)).length = b - a := by rw [List.length_take, List.length_drop]; omega
  have HLEN := Lib.hid hlen
  have hba : b - a ≤ 1000 := by omega
  have hec : b - a ≤ ec - a := by omega
  have hw : IntKind.i64.wrap ((v : Int) + 1) = (v : Int) + 1 := i64w (by omega) (by omega) (by omega)
  have i0 : (0 : Int) ≤ (v : Int) := Int.natCast_nonneg _
  have i1 : (v : Int) < (n : Int) + 1 := by omega
  have i2 : (0 : Int) ≤ (v : Int) + 1 := by omega
  have i3 : (v : Int) + 1 < (n : Int) + 1 := by omega
  generalize (L.drop a).take (b - a) = l at *
  generalize b - a = m at *
  generalize L.length = lL at *
  clear h1 h2 h3 h4 h5 h6 ha hb hbL hA' hE hlen
  go_enter Try.func36, Try.ntmps36
  go_upto_region 1 with fail
  refine start_ (n := 22) (S := fun w' => w'.cell? ⟨gb, 2, none⟩ = some (.slice (some ad) (n + 1) bc) ∧ w'.cell? ⟨gb, 3, none⟩ = some (.slice eA lL ec) ∧ w'.cell? (ad.add v) = some (.int .i64 (a : Int)) ∧ w'.cell? ⟨ad.block, ad.off + (v + 1), none⟩ = some (.int .i64 (b : Int))) (ds := [20]) #[false, false, false, false, false, false, false, false, false, false, false, false, false, false, false, false, false, false, false, false, false, false] (by kernel_rfl) rfl rfl ⟨c2, c3, b0, b1⟩ (fun hHeld => ?_)
  refine pure_ (i := 0) (N := some 5) (v := ?_) (a' := ?_) #[true, false, false, false, false, false, false, false, false, false, false, false, false, false, false, false, false, false, false, false, false, false] rfl rfl (by kernel_rfl) (fun _ _ _ h => h) (Or.inl ⟨by rfl, ?_⟩) ?_ ?_
  rotate_left
  · intro w'
    go_simp
    with_reducible rfl
  rotate_left
  · simp only [Act.put, List.setIfInBounds_toArray, List.set_cons_zero, List.set_cons_succ, i64_w, i32_w]
    rfl
  refine pure_ (i := 1) (N := some 6) (v := ?_) (a' := ?_) #[true, true, false, false, false, false, false, false, false, false, false, false, false, false, false, false, false, false, false, false, false, false] rfl rfl (by kernel_rfl) (fun _ _ _ h => h) (Or.inl ⟨by rfl, ?_⟩) ?_ ?_
  rotate_left
  · intro w'
    go_simp
    with_reducible rfl
  rotate_left
  · simp only [Act.put, List.setIfInBounds_toArray, List.set_cons_zero, List.set_cons_succ, i64_w, i32_w]
    rfl
  refine pure_ (i := 2) (N := some 7) (v := ?_) (a' := ?_) #[true, true, true, false, false, false, false, false, false, false, false, false, false, false, false, false, false, false, false, false, false, false] rfl rfl (by kernel_rfl) (fun _ _ _ h => h) (Or.inl ⟨by rfl, ?_⟩) ?_ ?_
  rotate_left
  · intro w'
    go_simp
    with_reducible rfl
  rotate_left
  · simp only [Act.put, List.setIfInBounds_toArray, List.set_cons_zero, List.set_cons_succ, i64_w, i32_w]
    rfl
  refine pure_ (i := 4) (N := some 9) (v := ?_) (a' := ?_) #[true, true, true, false, true, false, false, false, false, false, false, false, false, false, false, false, false, false, false, false, false, false] rfl rfl (by kernel_rfl) (fun _ _ _ h => h) (Or.inl ⟨by rfl, ?_⟩) ?_ ?_
  rotate_left
  · intro w'
    go_simp
    with_reducible rfl
  rotate_left
  · simp only [Act.put, List.setIfInBounds_toArray, List.set_cons_zero, List.set_cons_succ, i64_w, i32_w]
    rfl
  refine pure_ (i := 5) (N := some 10) (v := ?_) (a' := ?_) #[true, true, true, false, true, true, false, false, false, false, false, false, false, false, false, false, false, false, false, false, false, false] rfl rfl (by kernel_rfl) (fun _ _ _ h => h) (Or.inl ⟨by rfl, ?_⟩) ?_ ?_
  rotate_left
  · intro w'
    go_simp
    with_reducible rfl
  rotate_left
  · simp only [Act.put, List.setIfInBounds_toArray, List.set_cons_zero, List.set_cons_succ, i64_w, i32_w]
    rfl
  refine pure_ (i := 6) (N := some 11) (v := ?_) (a' := ?_) #[true, true, true, false, true, true, true, false, false, false, false, false, false, false, false, false, false, false, false, false, false, false] rfl rfl (by kernel_rfl) (fun _ _ _ h => h) (Or.inl ⟨by rfl, ?_⟩) ?_ ?_
  rotate_left
  · intro w'
    go_simp
    with_reducible rfl
  rotate_left
  · simp only [Act.put, List.setIfInBounds_toArray, List.set_cons_zero, List.set_cons_succ, i64_w, i32_w]
    rfl
  refine pure_ (i := 8) (N := some 13) (v := ?_) (a' := ?_) #[true, true, true, false, true, true, true, false, true, false, false, false, false, false, false, false, false, false, false, false, false, false] rfl rfl (by kernel_rfl) (fun _ _ _ h => h) (Or.inl ⟨by rfl, ?_⟩) ?_ ?_
  rotate_left
  · intro w'
    go_simp
    with_reducible rfl
  rotate_left
  · simp only [Act.put, List.setIfInBounds_toArray, List.set_cons_zero, List.set_cons_succ, i64_w, i32_w]
    rfl
  refine pure_ (i := 11) (N := some 16) (v := ?_) (a' := ?_) #[true, true, true, false, true, true, true, false, true, false, false, true, false, false, false, false, false, false, false, false, false, false] rfl rfl (by kernel_rfl) (fun _ _ _ h => h) (Or.inl ⟨by rfl, ?_⟩) ?_ ?_
  rotate_left
  · intro w'
    go_simp
    with_reducible rfl
  rotate_left
  · simp only [Act.put, List.setIfInBounds_toArray, List.set_cons_zero, List.set_cons_succ, i64_w, i32_w]
    rfl
  refine pure_ (i := 12) (N := some 17) (v := ?_) (a' := ?_) #[true, true, true, false, true, true, true, false, true, false, false, true, true, false, false, false, false, false, false, false, false, false] rfl rfl (by kernel_rfl) (fun _ _ _ h => h) (Or.inl ⟨by rfl, ?_⟩) ?_ ?_
  rotate_left
  · intro w'
    go_simp
    with_reducible rfl
  rotate_left
  · simp only [Act.put, List.setIfInBounds_toArray, List.set_cons_zero, List.set_cons_succ, i64_w, i32_w]
    rfl
  refine pure_ (i := 13) (N := some 18) (v := ?_) (a' := ?_) #[true, true, true, false, true, true, true, false, true, false, false, true, true, true, false, false, false, false, false, false, false, false] rfl rfl (by kernel_rfl) (fun _ _ _ h => h) (Or.inl ⟨by rfl, ?_⟩) ?_ ?_
  rotate_left
  · intro w'
    go_simp
    with_reducible rfl
  rotate_left
  · simp only [Act.put, List.setIfInBounds_toArray, List.set_cons_zero, List.set_cons_succ, i64_w, i32_w]
    rfl
  refine pure_ (i := 15) (N := some 20) (v := ?_) (a' := ?_) #[true, true, true, false, true, true, true, false, true, false, false, true, true, true, false, true, false, false, false, false, false, false] rfl rfl (by kernel_rfl) (fun _ _ _ h => h) (Or.inl ⟨by rfl, ?_⟩) ?_ ?_
  rotate_left
  · intro w'
    go_simp
    with_reducible rfl
  rotate_left
  · simp only [Act.put, List.setIfInBounds_toArray, List.set_cons_zero, List.set_cons_succ, i64_w, i32_w]
    rfl
  refine pure_ (i := 16) (N := some 21) (v := ?_) (a' := ?_) #[true, true, true, false, true, true, true, false, true, false, false, true, true, true, false, true, true, false, false, false, false, false] rfl rfl (by kernel_rfl) (fun _ _ _ h => h) (Or.inl ⟨by rfl, ?_⟩) ?_ ?_
  rotate_left
  · intro w'
    go_simp
    with_reducible rfl
  rotate_left
  · simp only [Act.put, List.setIfInBounds_toArray, List.set_cons_zero, List.set_cons_succ, i64_w, i32_w]
    rfl
  refine take_ (i := 3) (N := some 8) (v := ?_) (a' := ?_) #[true, true, true, true, true, true, true, false, true, false, false, true, true, true, false, true, true, false, false, false, false, false] rfl rfl (by kernel_rfl) (fun _ _ _ h => h) (Or.inl ⟨by rfl, ?_⟩) hHeld ?_ ?_
  rotate_left
  · rintro w' ⟨s0, s1, s2, s3⟩
    go_simp
    with_reducible rfl
  rotate_left
  · simp only [Act.put, List.setIfInBounds_toArray, List.set_cons_zero, List.set_cons_succ, i64_w, i32_w]
    rfl
  refine take_ (i := 7) (N := some 12) (v := ?_) (a' := ?_) #[true, true, true, true, true, true, true, true, true, false, false, true, true, true, false, true, true, false, false, false, false, false] rfl rfl (by kernel_rfl) (fun _ _ _ h => h) (Or.inl ⟨by rfl, ?_⟩) hHeld ?_ ?_
  rotate_left
  · rintro w' ⟨s0, s1, s2, s3⟩
    go_simp
    with_reducible rfl
  rotate_left
  · simp only [Act.put, List.setIfInBounds_toArray, List.set_cons_zero, List.set_cons_succ, i64_w, i32_w]
    rfl
  refine pure_ (i := 9) (N := some 14) (v := ?_) (a' := ?_) #[true, true, true, true, true, true, true, true, true, true, false, true, true, true, false, true, true, false, false, false, false, false] rfl rfl (by kernel_rfl) (fun _ _ _ h => h) (Or.inl ⟨by rfl, ?_⟩) ?_ ?_
  rotate_left
  · intro w'
    go_simp
    with_reducible rfl
  rotate_left
  · simp only [Act.put, List.setIfInBounds_toArray, List.set_cons_zero, List.set_cons_succ, i64_w, i32_w]
    rfl
  refine take_ (i := 10) (N := some 15) (v := ?_) (a' := ?_) #[true, true, true, true, true, true, true, true, true, true, true, true, true, true, false, true, true, false, false, false, false, false] rfl rfl (by kernel_rfl) (fun _ _ _ h => h) (Or.inl ⟨by rfl, ?_⟩) hHeld ?_ ?_
  rotate_left
  · rintro w' ⟨s0, s1, s2, s3⟩
    go_simp
    with_reducible rfl
  rotate_left
  · simp only [Act.put, List.setIfInBounds_toArray, List.set_cons_zero, List.set_cons_succ, i64_w, i32_w]
    rfl
  refine take_ (i := 14) (N := some 19) (v := ?_) (a' := ?_) #[true, true, true, true, true, true, true, true, true, true, true, true, true, true, true, true, true, false, false, false, false, false] rfl rfl (by kernel_rfl) (fun _ _ _ h => h) (Or.inl ⟨by rfl, ?_⟩) hHeld ?_ ?_
  rotate_left
  · rintro w' ⟨s0, s1, s2, s3⟩
    go_simp
    with_reducible rfl
  rotate_left
  · simp only [Act.put, List.setIfInBounds_toArray, List.set_cons_zero, List.set_cons_succ, i64_w, i32_w]
    rfl
  refine pure_ (i := 17) (N := some 22) (v := ?_) (a' := ?_) #[true, true, true, true, true, true, true, true, true, true, true, true, true, true, true, true, true, true, false, false, false, false] rfl rfl (by kernel_rfl) (fun _ _ _ h => h) (Or.inl ⟨by rfl, ?_⟩) ?_ ?_
  rotate_left
  · intro w'
    go_simp
    with_reducible rfl
  rotate_left
  · simp only [Act.put, List.setIfInBounds_toArray, List.set_cons_zero, List.set_cons_succ, i64_w, i32_w]
    rfl
  refine take_ (i := 18) (N := some 23) (v := ?_) (a' := ?_) #[true, true, true, true, true, true, true, true, true, true, true, true, true, true, true, true, true, true, true, false, false, false] rfl rfl (by kernel_rfl) (fun _ _ _ h => h) (Or.inl ⟨by rfl, ?_⟩) hHeld ?_ ?_
  rotate_left
  · rintro w' ⟨s0, s1, s2, s3⟩
    go_simp
    with_reducible rfl
  rotate_left
  · simp only [Act.put, List.setIfInBounds_toArray, List.set_cons_zero, List.set_cons_succ, i64_w, i32_w]
    rfl
  refine pure_ (i := 19) (N := some 24) (v := ?_) (a' := ?_) #[true, true, true, true, true, true, true, true, true, true, true, true, true, true, true, true, true, true, true, true, false, false] rfl rfl (by kernel_rfl) (fun _ _ _ h => h) (Or.inl ⟨by rfl, ?_⟩) ?_ ?_
  rotate_left
  · intro w'
    go_simp
    with_reducible rfl
  rotate_left
  · simp only [Act.put, List.setIfInBounds_toArray, List.set_cons_zero, List.set_cons_succ, i64_w, i32_w]
    rfl
  refine last_ (i := 20) (N := some 25) #[true, true, true, true, true, true, true, true, true, true, true, true, true, true, true, true, true, true, true, true, true, false] rfl rfl (by kernel_rfl) (by decide) (fun K hK => ?_)
  refine Kd.R_append_rows_step k55 (w0 := w.drew) (W := w.drew) w.drew.heap.size (by rfl) (.const (.slice none 0 0)) (.tmp 24) 52 55 (.agg #[(.int .i64 0), (.int .i64 0), (.int .i64 0)]) 24 rfl Try.underlying52 info55 rfl (by decide) (by omega) (.slice none 0 0) ([] : List (S55)) l A' m (ec - a) (fun _ => True) (fun _ => False) rfl rfl (Kd.R_nil _ _ _ _ _) HCU.out (fun x cs hx => by obtain rfl := k55_open hx; exact k55_mkM _ _ _ _) (fun _ h => h.elim) (fun _ _ => trivial) (Below.refl _ _) (Nat.le_refl _) (by simp; omega) ?_
  intro v9 w9 hR9 hB9 _ _
  rw [List.nil_append] at hR9
  refine hK.out _ _ ?_
  clear hK K
  refine norm_ (a' := ?_) ?_ ?_
  rotate_left
  · show Act.put _ (some 25) _ = _
    simp only [Act.put, List.setIfInBounds_toArray, List.set_cons_zero, List.set_cons_succ, i64_w, i32_w]
    rfl
  refine pure_ (i := 21) (N := some 4) (v := ?_) (a' := ?_) #[true, true, true, true, true, true, true, true, true, true, true, true, true, true, true, true, true, true, true, true, true, true] rfl rfl (by kernel_rfl) (fun _ _ _ h => h) (Or.inl ⟨by rfl, ?_⟩) ?_ ?_
  rotate_left
  · intro w'
    go_simp
    with_reducible rfl
  rotate_left
  · simp only [Act.put, List.setIfInBounds_toArray, List.set_cons_zero, List.set_cons_succ, i64_w, i32_w]
    rfl
  refine done_ (by kernel_rfl) ?_
  go_wp2_with fail
  go_ret
  obtain ⟨B9, c9, hv9, hle9, hC9⟩ := Kd.R_reads hR9
  subst hv9
  exact ⟨B9, c9, l, rfl, hle9, hR9, HE.out.symm, by rw [HLEN.out]; exact hba, (Below.refl w.heap.size w).drew.trans hB9⟩

/-- (*Graph).Out -/
theorem gout_walk (w : World) (gb n : Nat) (E : Nat → List EdgP) (H : GRep w gb n E) (v : Nat) (hv : v < n) (hn : n ≤ 900) : Calls Try.prog 16 #[.pointer (some ⟨gb, 0, none⟩), .int .i64 v] w fun r w' => ∃ (A : Option Addr) (c : Nat) (l : List S55), r = .returned (.slice A l.length c) ∧ l.length ≤ c ∧ Kd.R k55 55 w' w.heap.size (fun _ => True) (.slice A l.length c) l ∧ l.map toE = E v ∧ l.length ≤ 1000 ∧ Below w.heap.size w w' := by
  have HIS := Lib.hid (gis_walk w gb n E H v hv)
  have HAL := Lib.hid (gall_walk w gb n E H v hv hn)
  clear H
  go_enter Try.func16, Try.ntmps16
  go_wp2_with (first | (go_at_call 35; with_reducible refine HIS.out.mono ?_; rintro e w' ⟨rfl, rfl⟩) | (go_at_call 36; refine HAL.out.mono ?_; rintro e w' ⟨A, c, l, rfl, h1, h2, h3, h4, h5⟩))
  go_ret
  exact ⟨A, c, l, rfl, h1, h2, h3, h4, h5⟩
theorem R55_only {w W : World} {base : Nat} {v : Value} {l : List S55} {S : Nat → Prop} (h : Kd.R k55 55 w base (fun _ => True) v l) (g : Only w W S) (hs : ∀ k, v.ownBlock = some k → ¬ S k) : Kd.R k55 55 W base (fun _ => True) v l := by
  obtain ⟨h0, inner, hown, hr⟩ := h
  exact ⟨h0, inner, own_only hown g hs, hr⟩
end Go.Proofs.Ytfppfdejjifhdaa.PAll
