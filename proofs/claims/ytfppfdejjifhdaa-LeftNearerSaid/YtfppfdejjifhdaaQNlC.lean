import Derived.Test.YtfppfdejjifhdaaQNlB
namespace Go.Proofs.Ytfppfdejjifhdaa.PAll
open Go.RowKit Go.Proofs.YtfppfdejjifhdaaW.PrintWords Go.Proofs.YtfppfdejjifhdaaW.PrintLast Go.Proofs.YtfppfdejjifhdaaW.PrintMore
open Hp hiding Good
set_option linter.unusedVariables false
set_option linter.unusedSimpArgs false

/-- what left.New gives -/
def LNew (w : World) (n : Nat) (E : Nat → List EdgP) (r : Ending) (w' : World) : Prop := ∃ (lb K : Nat) (F : Int → Int → Option WayP) (B : Nat → Nat), r = .returned (.pointer (some ⟨lb, 0, none⟩)) ∧ LRep w' lb n K F B ∧ K ≤ 100000000 ∧ LnI n E n 0 F ∧ Below w.heap.size w w' ∧ ∀ k, LS n B k → w.heap.size ≤ k
set_option maxRecDepth 100000 in
set_option maxHeartbeats 16000000 in
/-- left.New -/
theorem lnew_walk (w : World) (gb n : Nat) (E : Nat → List EdgP) (H : GRep w gb n E) (hE : EdOk n E) (hn : n ≤ 900) : Calls Try.prog 7 #[.pointer (some ⟨gb, 0, none⟩)] w (LNew w n E) := by
  have HG := Lib.hid H
  have HE := Lib.hid hE
  have g3 : Below w.heap.size w (((w.alloc (.map #[] 0)).alloc (.map #[] 0)).alloc (.map #[] 0)) := (((Below.refl _ w).alloc (Nat.le_refl _) _).alloc (by simp) _).alloc (by simp; omega) _
  have HN := Lib.hid (gn_walk _ gb n E (H.below g3))
  have HG3 := Lib.hid g3
  clear H hE g3
  have hmm := @run_makeMap Try.prog
  go_enter Try.func7, Try.ntmps7
  go_wp2_with (first | (go_at_call 15; refine HN.out.mono ?_; rintro e w' ⟨rfl, rfl⟩))
  have HW1 : Hid (LMk w ((((w.alloc (.map #[] 0)).alloc (.map #[] 0)).alloc (.map #[] 0)).alloc (.cells #[.map (some w.heap.size), .map (some (w.heap.size + 1)), .map (some (w.heap.size + 1 + 1)), .int .i64 n] 50)) n 0 (fun i => if i = 0 then w.heap.size + 3 else if i = 1 then w.heap.size else if i = 2 then w.heap.size + 1 else w.heap.size + 2)) := Lib.hid (by
    have z1 : MapV (w.alloc (.map #[] 0)) w.heap.size 0 (fun _ => none) := MapV.made w
    have z2 : MapV ((w.alloc (.map #[] 0)).alloc (.map #[] 0)) (w.heap.size + 1) 0 (fun _ => none) := by
      have := MapV.made (w.alloc (.map #[] 0))
      rwa [World.size_alloc] at this
    have z3 : MapI (((w.alloc (.map #[] 0)).alloc (.map #[] 0)).alloc (.map #[] 0)) (w.heap.size + 2) 0 (fun _ => none) := by
      have := MapI.made ((w.alloc (.map #[] 0)).alloc (.map #[] 0))
      rwa [World.size_alloc, World.size_alloc] at this
    have bl : ∀ (W : World) (o : Obj), Below W.heap.size W (W.alloc o) := fun W o => (Below.refl _ _).alloc (Nat.le_refl _) _
    have zr : ∀ g : Nat → Nat, rowsV 0 g = fun _ => none := fun g => by
      funext x
      unfold rowsV
      rw [if_neg (by omega)]
    refine ⟨rfl, rfl, rfl, rfl, fun i j hi hj e => ?_, fun i hi => ?_, ?_, ?_, ?_, ?_, fun v hv => by omega, fun v hv => by omega, ?_⟩
    · have : i = 0 ∨ i = 1 ∨ i = 2 ∨ i = 3 := by omega
      have : j = 0 ∨ j = 1 ∨ j = 2 ∨ j = 3 := by omega
      rcases ‹i = 0 ∨ _› with rfl | rfl | rfl | rfl <;> rcases ‹j = 0 ∨ _› with rfl | rfl | rfl | rfl <;> simp at e ⊢ <;> omega
    · have : i = 0 ∨ i = 1 ∨ i = 2 ∨ i = 3 := by omega
      rcases this with rfl | rfl | rfl | rfl <;> simp <;> omega
    · have := blk_new (((w.alloc (.map #[] 0)).alloc (.map #[] 0)).alloc (.map #[] 0)) (.cells #[.map (some w.heap.size), .map (some (w.heap.size + 1)), .map (some (w.heap.size + 1 + 1)), .int .i64 n] 50)
      rw [World.size_alloc, World.size_alloc, World.size_alloc] at this
      exact this
    · rw [zr]
      exact ((z1.below (bl _ _)).below (bl _ _)).below (bl _ _)
    · rw [zr]
      exact (z2.below (bl _ _)).below (bl _ _)
    · exact z3.only ((Only.refl _ (fun _ => False)).alloc _) (fun f => f)
    · exact HG3.out.alloc HG3.out.size _)
  generalize (((w.alloc (.map #[] 0)).alloc (.map #[] 0)).alloc (.map #[] 0)).alloc (.cells #[.map (some w.heap.size), .map (some (w.heap.size + 1)), .map (some (w.heap.size + 1 + 1)), .int .i64 n] 50) = W1 at *
  obtain ⟨lb, hlb⟩ : ∃ lb, w.heap.size + 1 + 1 + 1 = lb := ⟨_, rfl⟩
  have HLB : Hid (w.heap.size + 3 = lb) := Lib.hid hlb
  try rw [hlb]
  clear hlb hmm HN HG3
  go_loopw [21] (fun v21 wr => ∃ (m : Nat) (B : Nat → Nat), v21 = .int .i64 m ∧ m ≤ n ∧ Hid (LMk w wr n m B)) (fun v21 _ => n - (intOf v21).toNat)
  case atStart => exact ⟨0, _, rfl, by omega, HW1⟩
  case round =>
    clear HW1
    obtain ⟨m, B, rfl, hm, HS⟩ := hrel
    by_cases hlt : m < n
    · have hmm0 : (0 : Int) ≤ (m : Int) := Int.natCast_nonneg _
      have hmm1 : (m : Int) < (n : Int) := by omega
      have hmx : m < maxLen := by simp only [maxLen]; omega
      have hwm : (Lit.int .i64 (m : Int)).wf = true := wf64 (by omega) (by omega)
      go_upto_region 7 with fail
      have hbne : B 1 ≠ B 2 := fun e => absurd (HS.out.inj 1 2 (by omega) (by omega) e) (by omega)
      have HDR := Lib.hid (HS.out.still (Below.refl _ _).drew)
      have HNS : Hid (NSt wr.drew wr.drew (B 1) (B 2) m (rowsV m fun v => B (4 + 2 * v)) (rowsV m fun v => B (5 + 2 * v)) false false false false false 0 0 0 0) := Lib.hid
        ⟨Only.refl _ _, ⟨(HDR.out.lo 1 (by omega)).2, (HDR.out.lo 2 (by omega)).2, hbne⟩, fun e => (by cases e), fun e => (by cases e), fun e => (by cases e), fun _ => HDR.out.out, fun e => (by cases e), fun e => (by cases e), fun _ => HDR.out.inn, fun e => (by cases e)⟩
      have HCE : Hid (∀ w', Only wr.drew w' (fun k => k = B 1 ∨ k = B 2) → w'.cell? ⟨lb, 0, none⟩ = some (.map (some (B 1))) ∧ w'.cell? ⟨lb, 1, none⟩ = some (.map (some (B 2)))) := Lib.hid (fun w' o => by
        have h0 : B 0 = lb := HS.out.b0.trans HLB.out
        have hb := (o.block _ (blk_lt HDR.out.blk) (fun e => by
          rw [HLB.out, ← h0] at e
          rcases e with e | e
          · exact absurd (HS.out.inj 0 1 (by omega) (by omega) e) (by omega)
          · exact absurd (HS.out.inj 0 2 (by omega) (by omega) e) (by omega))).trans HDR.out.blk
        rw [HLB.out] at hb
        exact ⟨(blk_cell hb 0).trans rfl, (blk_cell hb 1).trans rfl⟩)
      have p0 := (HCE.out _ (Only.refl _ _)).1
      have p1 := (HCE.out _ (Only.refl _ _)).2
      refine start_ (n := 18) (S := fun w' => w'.cell? ⟨lb, 0, none⟩ = some (.map (some (B 1))) ∧ w'.cell? ⟨lb, 1, none⟩ = some (.map (some (B 2)))) (ds := [17]) #[false, false, false, false, false, false, false, false, false, false, false, false, false, false, false, false, false, false] (by kernel_rfl) rfl rfl ⟨p0, p1⟩ (fun hHeld => ?_)
      refine pure_ (i := 0) (N := some 24) (v := ?_) (a' := ?_) #[true, false, false, false, false, false, false, false, false, false, false, false, false, false, false, false, false, false] rfl rfl (by kernel_rfl) (fun _ _ _ h => h) (Or.inl ⟨by rfl, ?_⟩) ?_ ?_
      rotate_left
      · intro w'
        go_simp
        with_reducible rfl
      rotate_left
      · simp only [Act.put, List.setIfInBounds_toArray, List.set_cons_zero, List.set_cons_succ, i64_w, i32_w]
        rfl
      refine pure_ (i := 1) (N := some 25) (v := ?_) (a' := ?_) #[true, true, false, false, false, false, false, false, false, false, false, false, false, false, false, false, false, false] rfl rfl (by kernel_rfl) (fun _ _ _ h => h) (Or.inl ⟨by rfl, ?_⟩) ?_ ?_
      rotate_left
      · intro w'
        go_simp
        with_reducible rfl
      rotate_left
      · simp only [Act.put, List.setIfInBounds_toArray, List.set_cons_zero, List.set_cons_succ, i64_w, i32_w]
        rfl
      refine pure_ (i := 2) (N := some 26) (v := ?_) (a' := ?_) #[true, true, true, false, false, false, false, false, false, false, false, false, false, false, false, false, false, false] rfl rfl (by kernel_rfl) (fun _ _ _ h => h) (Or.inl ⟨by rfl, ?_⟩) ?_ ?_
      rotate_left
      · intro w'
        go_simp
        with_reducible rfl
      rotate_left
      · simp only [Act.put, List.setIfInBounds_toArray, List.set_cons_zero, List.set_cons_succ, i64_w, i32_w]
        rfl
      refine pure_ (i := 4) (N := some 28) (v := ?_) (a' := ?_) #[true, true, true, false, true, false, false, false, false, false, false, false, false, false, false, false, false, false] rfl rfl (by kernel_rfl) (fun _ _ _ h => h) (Or.inl ⟨by rfl, ?_⟩) ?_ ?_
      rotate_left
      · intro w'
        go_simp
        with_reducible rfl
      rotate_left
      · simp only [Act.put, List.setIfInBounds_toArray, List.set_cons_zero, List.set_cons_succ, i64_w, i32_w]
        rfl
      refine pure_ (i := 5) (N := some 29) (v := ?_) (a' := ?_) #[true, true, true, false, true, true, false, false, false, false, false, false, false, false, false, false, false, false] rfl rfl (by kernel_rfl) (fun _ _ _ h => h) (Or.inl ⟨by rfl, ?_⟩) ?_ ?_
      rotate_left
      · intro w'
        go_simp
        with_reducible rfl
      rotate_left
      · simp only [Act.put, List.setIfInBounds_toArray, List.set_cons_zero, List.set_cons_succ, i64_w, i32_w]
        rfl
      refine pure_ (i := 6) (N := some 30) (v := ?_) (a' := ?_) #[true, true, true, false, true, true, true, false, false, false, false, false, false, false, false, false, false, false] rfl rfl (by kernel_rfl) (fun _ _ _ h => h) (Or.inl ⟨by rfl, ?_⟩) ?_ ?_
      rotate_left
      · intro w'
        go_simp
        with_reducible rfl
      rotate_left
      · simp only [Act.put, List.setIfInBounds_toArray, List.set_cons_zero, List.set_cons_succ, i64_w, i32_w]
        rfl
      refine pure_ (i := 7) (N := some 31) (v := ?_) (a' := ?_) #[true, true, true, false, true, true, true, true, false, false, false, false, false, false, false, false, false, false] rfl rfl (by kernel_rfl) (fun _ _ _ h => h) (Or.inl ⟨by rfl, ?_⟩) ?_ ?_
      rotate_left
      · intro w'
        go_simp
        with_reducible rfl
      rotate_left
      · simp only [Act.put, List.setIfInBounds_toArray, List.set_cons_zero, List.set_cons_succ, i64_w, i32_w]
        rfl
      refine pure_ (i := 9) (N := some 33) (v := ?_) (a' := ?_) #[true, true, true, false, true, true, true, true, false, true, false, false, false, false, false, false, false, false] rfl rfl (by kernel_rfl) (fun _ _ _ h => h) (Or.inl ⟨by rfl, ?_⟩) ?_ ?_
      rotate_left
      · intro w'
        go_simp
        with_reducible rfl
      rotate_left
      · simp only [Act.put, List.setIfInBounds_toArray, List.set_cons_zero, List.set_cons_succ, i64_w, i32_w]
        rfl
      refine take_ (i := 3) (N := some 27) (v := ?_) (a' := ?_) #[true, true, true, true, true, true, true, true, false, true, false, false, false, false, false, false, false, false] rfl rfl (by kernel_rfl) (fun _ _ _ h => h) (Or.inl ⟨by rfl, ?_⟩) hHeld ?_ ?_
      rotate_left
      · rintro w' ⟨s0, s1⟩
        go_simp
        with_reducible rfl
      rotate_left
      · simp only [Act.put, List.setIfInBounds_toArray, List.set_cons_zero, List.set_cons_succ, i64_w, i32_w]
        rfl
      refine take_ (i := 8) (N := some 32) (v := ?_) (a' := ?_) #[true, true, true, true, true, true, true, true, true, true, false, false, false, false, false, false, false, false] rfl rfl (by kernel_rfl) (fun _ _ _ h => h) (Or.inl ⟨by rfl, ?_⟩) hHeld ?_ ?_
      rotate_left
      · rintro w' ⟨s0, s1⟩
        go_simp
        with_reducible rfl
      rotate_left
      · simp only [Act.put, List.setIfInBounds_toArray, List.set_cons_zero, List.set_cons_succ, i64_w, i32_w]
        rfl
      refine join_ (σ := Nat × Nat × Int × Int × Value × Value) 1 #[true, true, true, true, true, true, true, true, true, true, true, true, true, true, true, true, true, false] (fun s => [(34, .map (some s.1)), (35, .map (some s.2.1)), (36, .tuple #[s.2.2.2.2.1, .int .i64 s.2.2.1]), (38, .tuple #[s.2.2.2.2.2, .int .i64 s.2.2.2.1]), (37, .int .i64 s.2.2.1), (39, .int .i64 s.2.2.2.1)]) (fun s w' => NSt wr.drew w' (B 1) (B 2) m (rowsV m fun v => B (4 + 2 * v)) (rowsV m fun v => B (5 + 2 * v)) true true true true true s.1 s.2.1 s.2.2.1 s.2.2.2.1) ?_ ?_
      rotate_left
      · intro hCont
        refine three_ (i := 10) (j := 11) (k := 12) (Ni := some 34) (Nj := some 35) (Nk := some 36) #[true, true, true, true, true, true, true, true, true, true, true, false, false, false, false, false, false, false] #[true, true, true, true, true, true, true, true, true, true, false, true, false, false, false, false, false, false] #[true, true, true, true, true, true, true, true, true, true, false, false, true, false, false, false, false, false] rfl rfl rfl rfl rfl rfl (by kernel_rfl) (by decide) (by decide) (by decide) (fun K hK => ?_) (fun K hK => ?_) (fun K hK => ?_)
        · skip
          obtain ⟨x10, zo, hr10, hn⟩ := HNS.out.s10 rfl
          refine value_ (w1 := ?_) (v := ?_) (by rfl) rfl ?_ ?_
          rotate_left 2
          · go_simp
            constructor
            · rfl
            · rfl
          have HNS := Lib.hid hn
          clear hn hr10
          refine hK.out _ _ ⟨(HCE.out _ HNS.out.only).1, (HCE.out _ HNS.out.only).2⟩ (fun hHeld => ?_)
          clear hK K
          refine norm_ (a' := ?_) ?_ ?_
          rotate_left
          · show Act.put _ (some 34) _ = _
            simp only [Act.put, List.setIfInBounds_toArray, List.set_cons_zero, List.set_cons_succ, i64_w, i32_w]
            rfl
          refine two_ (i := 11) (j := 12) (Ni := some 35) (Nj := some 36) #[true, true, true, true, true, true, true, true, true, true, true, true, false, false, false, false, false, false] #[true, true, true, true, true, true, true, true, true, true, true, false, true, false, false, false, false, false] rfl rfl rfl rfl (by kernel_rfl) (by decide) (by decide) (fun K hK => ?_) (fun K hK => ?_)
          · skip
            obtain ⟨x11, zi, hr11, hn⟩ := HNS.out.s11
            refine value_ (w1 := ?_) (v := ?_) (by rfl) rfl ?_ ?_
            rotate_left 2
            · go_simp
              constructor
              · rfl
              · rfl
            have HNS := Lib.hid hn
            clear hn hr11
            refine hK.out _ _ ⟨(HCE.out _ HNS.out.only).1, (HCE.out _ HNS.out.only).2⟩ (fun hHeld => ?_)
            clear hK K
            refine norm_ (a' := ?_) ?_ ?_
            rotate_left
            · show Act.put _ (some 35) _ = _
              simp only [Act.put, List.setIfInBounds_toArray, List.set_cons_zero, List.set_cons_succ, i64_w, i32_w]
              rfl
            refine one_ (i := 12) (N := some 36) #[true, true, true, true, true, true, true, true, true, true, true, true, true, false, false, false, false, false] rfl rfl (by kernel_rfl) (by decide) (fun K hK => ?_)
            obtain ⟨v12, st1, x12, hr12, hn⟩ := HNS.out.s12 hmx hwm
            refine value_ (w1 := ?_) (v := ?_) (by rfl) rfl ?_ ?_
            rotate_left 2
            · go_simp
              constructor
              · rfl
              · rfl
            have HNS := Lib.hid hn
            clear hn hr12
            refine hK.out _ _ ⟨(HCE.out _ HNS.out.only).1, (HCE.out _ HNS.out.only).2⟩ (fun hHeld => ?_)
            clear hK K
            refine norm_ (a' := ?_) ?_ ?_
            rotate_left
            · show Act.put _ (some 36) _ = _
              simp only [Act.put, List.setIfInBounds_toArray, List.set_cons_zero, List.set_cons_succ, i64_w, i32_w]
              rfl
            refine pure_ (i := 13) (N := some 37) (v := ?_) (a' := ?_) #[true, true, true, true, true, true, true, true, true, true, true, true, true, true, false, false, false, false] rfl rfl (by kernel_rfl) (fun _ _ _ h => h) (Or.inl ⟨by rfl, ?_⟩) ?_ ?_
            rotate_left
            · intro w'
              go_simp
              with_reducible rfl
            rotate_left
            · simp only [Act.put, List.setIfInBounds_toArray, List.set_cons_zero, List.set_cons_succ, i64_w, i32_w]
              rfl
            refine one_ (i := 14) (N := none) #[true, true, true, true, true, true, true, true, true, true, true, true, true, true, true, false, false, false] rfl rfl (by kernel_rfl) (by decide) (fun K hK => ?_)
            obtain ⟨x14, hr14, hn⟩ := HNS.out.s14
            refine skip_ (w1 := ?_) (by rfl) rfl ?_ ?_
            rotate_left
            · go_simp
              rfl
            have HNS := Lib.hid hn
            clear hn hr14
            refine hK.out _ _ ⟨(HCE.out _ HNS.out.only).1, (HCE.out _ HNS.out.only).2⟩ (fun hHeld => ?_)
            clear hK K
            refine one_ (i := 15) (N := some 38) #[true, true, true, true, true, true, true, true, true, true, true, true, true, true, true, true, false, false] rfl rfl (by kernel_rfl) (by decide) (fun K hK => ?_)
            obtain ⟨v15, st2, x15, hr15, hn⟩ := HNS.out.s15 hmx hwm
            refine value_ (w1 := ?_) (v := ?_) (by rfl) rfl ?_ ?_
            rotate_left 2
            · go_simp
              constructor
              · rfl
              · rfl
            have HNS := Lib.hid hn
            clear hn hr15
            refine hK.out _ _ ⟨(HCE.out _ HNS.out.only).1, (HCE.out _ HNS.out.only).2⟩ (fun hHeld => ?_)
            clear hK K
            refine norm_ (a' := ?_) ?_ ?_
            rotate_left
            · show Act.put _ (some 38) _ = _
              simp only [Act.put, List.setIfInBounds_toArray, List.set_cons_zero, List.set_cons_succ, i64_w, i32_w]
              rfl
            refine pure_ (i := 16) (N := some 39) (v := ?_) (a' := ?_) #[true, true, true, true, true, true, true, true, true, true, true, true, true, true, true, true, true, false] rfl rfl (by kernel_rfl) (fun _ _ _ h => h) (Or.inl ⟨by rfl, ?_⟩) ?_ ?_
            rotate_left
            · intro w'
              go_simp
              with_reducible rfl
            rotate_left
            · simp only [Act.put, List.setIfInBounds_toArray, List.set_cons_zero, List.set_cons_succ, i64_w, i32_w]
              rfl
            exact norm_ (by simp only [putAll, Act.put, List.setIfInBounds_toArray, List.set_cons_zero, List.set_cons_succ]) (hCont (zo, zi, st1, st2, v12, v15) _ HNS.out)
          · skip
            obtain ⟨v12, st1, x12, hr12, hn⟩ := HNS.out.s12 hmx hwm
            refine value_ (w1 := ?_) (v := ?_) (by rfl) rfl ?_ ?_
            rotate_left 2
            · go_simp
              constructor
              · rfl
              · rfl
            have HNS := Lib.hid hn
            clear hn hr12
            refine hK.out _ _ ⟨(HCE.out _ HNS.out.only).1, (HCE.out _ HNS.out.only).2⟩ (fun hHeld => ?_)
            clear hK K
            refine norm_ (a' := ?_) ?_ ?_
            rotate_left
            · show Act.put _ (some 36) _ = _
              simp only [Act.put, List.setIfInBounds_toArray, List.set_cons_zero, List.set_cons_succ, i64_w, i32_w]
              rfl
            refine pure_ (i := 13) (N := some 37) (v := ?_) (a' := ?_) #[true, true, true, true, true, true, true, true, true, true, true, false, true, true, false, false, false, false] rfl rfl (by kernel_rfl) (fun _ _ _ h => h) (Or.inl ⟨by rfl, ?_⟩) ?_ ?_
            rotate_left
            · intro w'
              go_simp
              with_reducible rfl
            rotate_left
            · simp only [Act.put, List.setIfInBounds_toArray, List.set_cons_zero, List.set_cons_succ, i64_w, i32_w]
              rfl
            refine two_ (i := 11) (j := 14) (Ni := some 35) (Nj := none) #[true, true, true, true, true, true, true, true, true, true, true, true, true, true, false, false, false, false] #[true, true, true, true, true, true, true, true, true, true, true, false, true, true, true, false, false, false] rfl rfl rfl rfl (by kernel_rfl) (by decide) (by decide) (fun K hK => ?_) (fun K hK => ?_)
            · skip
              obtain ⟨x11, zi, hr11, hn⟩ := HNS.out.s11
              refine value_ (w1 := ?_) (v := ?_) (by rfl) rfl ?_ ?_
              rotate_left 2
              · go_simp
                constructor
                · rfl
                · rfl
              have HNS := Lib.hid hn
              clear hn hr11
              refine hK.out _ _ ⟨(HCE.out _ HNS.out.only).1, (HCE.out _ HNS.out.only).2⟩ (fun hHeld => ?_)
              clear hK K
              refine norm_ (a' := ?_) ?_ ?_
              rotate_left
              · show Act.put _ (some 35) _ = _
                simp only [Act.put, List.setIfInBounds_toArray, List.set_cons_zero, List.set_cons_succ, i64_w, i32_w]
                rfl
              refine one_ (i := 14) (N := none) #[true, true, true, true, true, true, true, true, true, true, true, true, true, true, true, false, false, false] rfl rfl (by kernel_rfl) (by decide) (fun K hK => ?_)
              obtain ⟨x14, hr14, hn⟩ := HNS.out.s14
              refine skip_ (w1 := ?_) (by rfl) rfl ?_ ?_
              rotate_left
              · go_simp
                rfl
              have HNS := Lib.hid hn
              clear hn hr14
              refine hK.out _ _ ⟨(HCE.out _ HNS.out.only).1, (HCE.out _ HNS.out.only).2⟩ (fun hHeld => ?_)
              clear hK K
              refine one_ (i := 15) (N := some 38) #[true, true, true, true, true, true, true, true, true, true, true, true, true, true, true, true, false, false] rfl rfl (by kernel_rfl) (by decide) (fun K hK => ?_)
              obtain ⟨v15, st2, x15, hr15, hn⟩ := HNS.out.s15 hmx hwm
              refine value_ (w1 := ?_) (v := ?_) (by rfl) rfl ?_ ?_
              rotate_left 2
              · go_simp
                constructor
                · rfl
                · rfl
              have HNS := Lib.hid hn
              clear hn hr15
              refine hK.out _ _ ⟨(HCE.out _ HNS.out.only).1, (HCE.out _ HNS.out.only).2⟩ (fun hHeld => ?_)
              clear hK K
              refine norm_ (a' := ?_) ?_ ?_
              rotate_left
              · show Act.put _ (some 38) _ = _
                simp only [Act.put, List.setIfInBounds_toArray, List.set_cons_zero, List.set_cons_succ, i64_w, i32_w]
                rfl
              refine pure_ (i := 16) (N := some 39) (v := ?_) (a' := ?_) #[true, true, true, true, true, true, true, true, true, true, true, true, true, true, true, true, true, false] rfl rfl (by kernel_rfl) (fun _ _ _ h => h) (Or.inl ⟨by rfl, ?_⟩) ?_ ?_
              rotate_left
              · intro w'
                go_simp
                with_reducible rfl
              rotate_left
              · simp only [Act.put, List.setIfInBounds_toArray, List.set_cons_zero, List.set_cons_succ, i64_w, i32_w]
                rfl
              exact norm_ (by simp only [putAll, Act.put, List.setIfInBounds_toArray, List.set_cons_zero, List.set_cons_succ]) (hCont (zo, zi, st1, st2, v12, v15) _ HNS.out)
            · skip
              obtain ⟨x14, hr14, hn⟩ := HNS.out.s14
              refine skip_ (w1 := ?_) (by rfl) rfl ?_ ?_
              rotate_left
              · go_simp
                rfl
              have HNS := Lib.hid hn
              clear hn hr14
              refine hK.out _ _ ⟨(HCE.out _ HNS.out.only).1, (HCE.out _ HNS.out.only).2⟩ (fun hHeld => ?_)
              clear hK K
              refine two_ (i := 11) (j := 15) (Ni := some 35) (Nj := some 38) #[true, true, true, true, true, true, true, true, true, true, true, true, true, true, true, false, false, false] #[true, true, true, true, true, true, true, true, true, true, true, false, true, true, true, true, false, false] rfl rfl rfl rfl (by kernel_rfl) (by decide) (by decide) (fun K hK => ?_) (fun K hK => ?_)
              · skip
                obtain ⟨x11, zi, hr11, hn⟩ := HNS.out.s11
                refine value_ (w1 := ?_) (v := ?_) (by rfl) rfl ?_ ?_
                rotate_left 2
                · go_simp
                  constructor
                  · rfl
                  · rfl
                have HNS := Lib.hid hn
                clear hn hr11
                refine hK.out _ _ ⟨(HCE.out _ HNS.out.only).1, (HCE.out _ HNS.out.only).2⟩ (fun hHeld => ?_)
                clear hK K
                refine norm_ (a' := ?_) ?_ ?_
                rotate_left
                · show Act.put _ (some 35) _ = _
                  simp only [Act.put, List.setIfInBounds_toArray, List.set_cons_zero, List.set_cons_succ, i64_w, i32_w]
                  rfl
                refine one_ (i := 15) (N := some 38) #[true, true, true, true, true, true, true, true, true, true, true, true, true, true, true, true, false, false] rfl rfl (by kernel_rfl) (by decide) (fun K hK => ?_)
                obtain ⟨v15, st2, x15, hr15, hn⟩ := HNS.out.s15 hmx hwm
                refine value_ (w1 := ?_) (v := ?_) (by rfl) rfl ?_ ?_
                rotate_left 2
                · go_simp
                  constructor
                  · rfl
                  · rfl
                have HNS := Lib.hid hn
                clear hn hr15
                refine hK.out _ _ ⟨(HCE.out _ HNS.out.only).1, (HCE.out _ HNS.out.only).2⟩ (fun hHeld => ?_)
                clear hK K
                refine norm_ (a' := ?_) ?_ ?_
                rotate_left
                · show Act.put _ (some 38) _ = _
                  simp only [Act.put, List.setIfInBounds_toArray, List.set_cons_zero, List.set_cons_succ, i64_w, i32_w]
                  rfl
                refine pure_ (i := 16) (N := some 39) (v := ?_) (a' := ?_) #[true, true, true, true, true, true, true, true, true, true, true, true, true, true, true, true, true, false] rfl rfl (by kernel_rfl) (fun _ _ _ h => h) (Or.inl ⟨by rfl, ?_⟩) ?_ ?_
                rotate_left
                · intro w'
                  go_simp
                  with_reducible rfl
                rotate_left
                · simp only [Act.put, List.setIfInBounds_toArray, List.set_cons_zero, List.set_cons_succ, i64_w, i32_w]
                  rfl
                exact norm_ (by simp only [putAll, Act.put, List.setIfInBounds_toArray, List.set_cons_zero, List.set_cons_succ]) (hCont (zo, zi, st1, st2, v12, v15) _ HNS.out)
              · skip
                obtain ⟨v15, st2, x15, hr15, hn⟩ := HNS.out.s15 hmx hwm
                refine value_ (w1 := ?_) (v := ?_) (by rfl) rfl ?_ ?_
                rotate_left 2
                · go_simp
                  constructor
                  · rfl
                  · rfl
                have HNS := Lib.hid hn
                clear hn hr15
                refine hK.out _ _ ⟨(HCE.out _ HNS.out.only).1, (HCE.out _ HNS.out.only).2⟩ (fun hHeld => ?_)
                clear hK K
                refine norm_ (a' := ?_) ?_ ?_
                rotate_left
                · show Act.put _ (some 38) _ = _
                  simp only [Act.put, List.setIfInBounds_toArray, List.set_cons_zero, List.set_cons_succ, i64_w, i32_w]
                  rfl
                refine pure_ (i := 16) (N := some 39) (v := ?_) (a' := ?_) #[true, true, true, true, true, true, true, true, true, true, true, false, true, true, true, true, true, false] rfl rfl (by kernel_rfl) (fun _ _ _ h => h) (Or.inl ⟨by rfl, ?_⟩) ?_ ?_
                rotate_left
                · intro w'
                  go_simp
                  with_reducible rfl
                rotate_left
                · simp only [Act.put, List.setIfInBounds_toArray, List.set_cons_zero, List.set_cons_succ, i64_w, i32_w]
                  rfl
                refine one_ (i := 11) (N := some 35) #[true, true, true, true, true, true, true, true, true, true, true, true, true, true, true, true, true, false] rfl rfl (by kernel_rfl) (by decide) (fun K hK => ?_)
                obtain ⟨x11, zi, hr11, hn⟩ := HNS.out.s11
                refine value_ (w1 := ?_) (v := ?_) (by rfl) rfl ?_ ?_
                rotate_left 2
                · go_simp
                  constructor
                  · rfl
                  · rfl
                have HNS := Lib.hid hn
                clear hn hr11
                refine hK.out _ _ ⟨(HCE.out _ HNS.out.only).1, (HCE.out _ HNS.out.only).2⟩ (fun hHeld => ?_)
                clear hK K
                refine norm_ (a' := ?_) ?_ ?_
                rotate_left
                · show Act.put _ (some 35) _ = _
                  simp only [Act.put, List.setIfInBounds_toArray, List.set_cons_zero, List.set_cons_succ, i64_w, i32_w]
                  rfl
                exact norm_ (by simp only [putAll, Act.put, List.setIfInBounds_toArray, List.set_cons_zero, List.set_cons_succ]) (hCont (zo, zi, st1, st2, v12, v15) _ HNS.out)
        · skip
          obtain ⟨x11, zi, hr11, hn⟩ := HNS.out.s11
          refine value_ (w1 := ?_) (v := ?_) (by rfl) rfl ?_ ?_
          rotate_left 2
          · go_simp
            constructor
            · rfl
            · rfl
          have HNS := Lib.hid hn
          clear hn hr11
          refine hK.out _ _ ⟨(HCE.out _ HNS.out.only).1, (HCE.out _ HNS.out.only).2⟩ (fun hHeld => ?_)
          clear hK K
          refine norm_ (a' := ?_) ?_ ?_
          rotate_left
          · show Act.put _ (some 35) _ = _
            simp only [Act.put, List.setIfInBounds_toArray, List.set_cons_zero, List.set_cons_succ, i64_w, i32_w]
            rfl
          refine two_ (i := 10) (j := 12) (Ni := some 34) (Nj := some 36) #[true, true, true, true, true, true, true, true, true, true, true, true, false, false, false, false, false, false] #[true, true, true, true, true, true, true, true, true, true, false, true, true, false, false, false, false, false] rfl rfl rfl rfl (by kernel_rfl) (by decide) (by decide) (fun K hK => ?_) (fun K hK => ?_)
          · skip
            obtain ⟨x10, zo, hr10, hn⟩ := HNS.out.s10 rfl
            refine value_ (w1 := ?_) (v := ?_) (by rfl) rfl ?_ ?_
            rotate_left 2
            · go_simp
              constructor
              · rfl
              · rfl
            have HNS := Lib.hid hn
            clear hn hr10
            refine hK.out _ _ ⟨(HCE.out _ HNS.out.only).1, (HCE.out _ HNS.out.only).2⟩ (fun hHeld => ?_)
            clear hK K
            refine norm_ (a' := ?_) ?_ ?_
            rotate_left
            · show Act.put _ (some 34) _ = _
              simp only [Act.put, List.setIfInBounds_toArray, List.set_cons_zero, List.set_cons_succ, i64_w, i32_w]
              rfl
            refine one_ (i := 12) (N := some 36) #[true, true, true, true, true, true, true, true, true, true, true, true, true, false, false, false, false, false] rfl rfl (by kernel_rfl) (by decide) (fun K hK => ?_)
            obtain ⟨v12, st1, x12, hr12, hn⟩ := HNS.out.s12 hmx hwm
            refine value_ (w1 := ?_) (v := ?_) (by rfl) rfl ?_ ?_
            rotate_left 2
            · go_simp
              constructor
              · rfl
              · rfl
            have HNS := Lib.hid hn
            clear hn hr12
            refine hK.out _ _ ⟨(HCE.out _ HNS.out.only).1, (HCE.out _ HNS.out.only).2⟩ (fun hHeld => ?_)
            clear hK K
            refine norm_ (a' := ?_) ?_ ?_
            rotate_left
            · show Act.put _ (some 36) _ = _
              simp only [Act.put, List.setIfInBounds_toArray, List.set_cons_zero, List.set_cons_succ, i64_w, i32_w]
              rfl
            refine pure_ (i := 13) (N := some 37) (v := ?_) (a' := ?_) #[true, true, true, true, true, true, true, true, true, true, true, true, true, true, false, false, false, false] rfl rfl (by kernel_rfl) (fun _ _ _ h => h) (Or.inl ⟨by rfl, ?_⟩) ?_ ?_
            rotate_left
            · intro w'
              go_simp
              with_reducible rfl
            rotate_left
            · simp only [Act.put, List.setIfInBounds_toArray, List.set_cons_zero, List.set_cons_succ, i64_w, i32_w]
              rfl
            refine one_ (i := 14) (N := none) #[true, true, true, true, true, true, true, true, true, true, true, true, true, true, true, false, false, false] rfl rfl (by kernel_rfl) (by decide) (fun K hK => ?_)
            obtain ⟨x14, hr14, hn⟩ := HNS.out.s14
            refine skip_ (w1 := ?_) (by rfl) rfl ?_ ?_
            rotate_left
            · go_simp
              rfl
            have HNS := Lib.hid hn
            clear hn hr14
            refine hK.out _ _ ⟨(HCE.out _ HNS.out.only).1, (HCE.out _ HNS.out.only).2⟩ (fun hHeld => ?_)
            clear hK K
            refine one_ (i := 15) (N := some 38) #[true, true, true, true, true, true, true, true, true, true, true, true, true, true, true, true, false, false] rfl rfl (by kernel_rfl) (by decide) (fun K hK => ?_)
            obtain ⟨v15, st2, x15, hr15, hn⟩ := HNS.out.s15 hmx hwm
            refine value_ (w1 := ?_) (v := ?_) (by rfl) rfl ?_ ?_
            rotate_left 2
            · go_simp
              constructor
              · rfl
              · rfl
            have HNS := Lib.hid hn
            clear hn hr15
            refine hK.out _ _ ⟨(HCE.out _ HNS.out.only).1, (HCE.out _ HNS.out.only).2⟩ (fun hHeld => ?_)
            clear hK K
            refine norm_ (a' := ?_) ?_ ?_
            rotate_left
            · show Act.put _ (some 38) _ = _
              simp only [Act.put, List.setIfInBounds_toArray, List.set_cons_zero, List.set_cons_succ, i64_w, i32_w]
              rfl
            refine pure_ (i := 16) (N := some 39) (v := ?_) (a' := ?_) #[true, true, true, true, true, true, true, true, true, true, true, true, true, true, true, true, true, false] rfl rfl (by kernel_rfl) (fun _ _ _ h => h) (Or.inl ⟨by rfl, ?_⟩) ?_ ?_
            rotate_left
            · intro w'
              go_simp
              with_reducible rfl
            rotate_left
            · simp only [Act.put, List.setIfInBounds_toArray, List.set_cons_zero, List.set_cons_succ, i64_w, i32_w]
              rfl
            exact norm_ (by simp only [putAll, Act.put, List.setIfInBounds_toArray, List.set_cons_zero, List.set_cons_succ]) (hCont (zo, zi, st1, st2, v12, v15) _ HNS.out)
          · skip
            obtain ⟨v12, st1, x12, hr12, hn⟩ := HNS.out.s12 hmx hwm
            refine value_ (w1 := ?_) (v := ?_) (by rfl) rfl ?_ ?_
            rotate_left 2
            · go_simp
              constructor
              · rfl
              · rfl
            have HNS := Lib.hid hn
            clear hn hr12
            refine hK.out _ _ ⟨(HCE.out _ HNS.out.only).1, (HCE.out _ HNS.out.only).2⟩ (fun hHeld => ?_)
            clear hK K
            refine norm_ (a' := ?_) ?_ ?_
            rotate_left
            · show Act.put _ (some 36) _ = _
              simp only [Act.put, List.setIfInBounds_toArray, List.set_cons_zero, List.set_cons_succ, i64_w, i32_w]
              rfl
            refine pure_ (i := 13) (N := some 37) (v := ?_) (a' := ?_) #[true, true, true, true, true, true, true, true, true, true, false, true, true, true, false, false, false, false] rfl rfl (by kernel_rfl) (fun _ _ _ h => h) (Or.inl ⟨by rfl, ?_⟩) ?_ ?_
            rotate_left
            · intro w'
              go_simp
              with_reducible rfl
            rotate_left
            · simp only [Act.put, List.setIfInBounds_toArray, List.set_cons_zero, List.set_cons_succ, i64_w, i32_w]
              rfl
            refine one_ (i := 10) (N := some 34) #[true, true, true, true, true, true, true, true, true, true, true, true, true, true, false, false, false, false] rfl rfl (by kernel_rfl) (by decide) (fun K hK => ?_)
            obtain ⟨x10, zo, hr10, hn⟩ := HNS.out.s10 rfl
            refine value_ (w1 := ?_) (v := ?_) (by rfl) rfl ?_ ?_
            rotate_left 2
            · go_simp
              constructor
              · rfl
              · rfl
            have HNS := Lib.hid hn
            clear hn hr10
            refine hK.out _ _ ⟨(HCE.out _ HNS.out.only).1, (HCE.out _ HNS.out.only).2⟩ (fun hHeld => ?_)
            clear hK K
            refine norm_ (a' := ?_) ?_ ?_
            rotate_left
            · show Act.put _ (some 34) _ = _
              simp only [Act.put, List.setIfInBounds_toArray, List.set_cons_zero, List.set_cons_succ, i64_w, i32_w]
              rfl
            refine one_ (i := 14) (N := none) #[true, true, true, true, true, true, true, true, true, true, true, true, true, true, true, false, false, false] rfl rfl (by kernel_rfl) (by decide) (fun K hK => ?_)
            obtain ⟨x14, hr14, hn⟩ := HNS.out.s14
            refine skip_ (w1 := ?_) (by rfl) rfl ?_ ?_
            rotate_left
            · go_simp
              rfl
            have HNS := Lib.hid hn
            clear hn hr14
            refine hK.out _ _ ⟨(HCE.out _ HNS.out.only).1, (HCE.out _ HNS.out.only).2⟩ (fun hHeld => ?_)
            clear hK K
            refine one_ (i := 15) (N := some 38) #[true, true, true, true, true, true, true, true, true, true, true, true, true, true, true, true, false, false] rfl rfl (by kernel_rfl) (by decide) (fun K hK => ?_)
            obtain ⟨v15, st2, x15, hr15, hn⟩ := HNS.out.s15 hmx hwm
            refine value_ (w1 := ?_) (v := ?_) (by rfl) rfl ?_ ?_
            rotate_left 2
            · go_simp
              constructor
              · rfl
              · rfl
            have HNS := Lib.hid hn
            clear hn hr15
            refine hK.out _ _ ⟨(HCE.out _ HNS.out.only).1, (HCE.out _ HNS.out.only).2⟩ (fun hHeld => ?_)
            clear hK K
            refine norm_ (a' := ?_) ?_ ?_
            rotate_left
            · show Act.put _ (some 38) _ = _
              simp only [Act.put, List.setIfInBounds_toArray, List.set_cons_zero, List.set_cons_succ, i64_w, i32_w]
              rfl
            refine pure_ (i := 16) (N := some 39) (v := ?_) (a' := ?_) #[true, true, true, true, true, true, true, true, true, true, true, true, true, true, true, true, true, false] rfl rfl (by kernel_rfl) (fun _ _ _ h => h) (Or.inl ⟨by rfl, ?_⟩) ?_ ?_
            rotate_left
            · intro w'
              go_simp
              with_reducible rfl
            rotate_left
            · simp only [Act.put, List.setIfInBounds_toArray, List.set_cons_zero, List.set_cons_succ, i64_w, i32_w]
              rfl
            exact norm_ (by simp only [putAll, Act.put, List.setIfInBounds_toArray, List.set_cons_zero, List.set_cons_succ]) (hCont (zo, zi, st1, st2, v12, v15) _ HNS.out)
        · skip
          obtain ⟨v12, st1, x12, hr12, hn⟩ := HNS.out.s12 hmx hwm
          refine value_ (w1 := ?_) (v := ?_) (by rfl) rfl ?_ ?_
          rotate_left 2
          · go_simp
            constructor
            · rfl
            · rfl
          have HNS := Lib.hid hn
          clear hn hr12
          refine hK.out _ _ ⟨(HCE.out _ HNS.out.only).1, (HCE.out _ HNS.out.only).2⟩ (fun hHeld => ?_)
          clear hK K
          refine norm_ (a' := ?_) ?_ ?_
          rotate_left
          · show Act.put _ (some 36) _ = _
            simp only [Act.put, List.setIfInBounds_toArray, List.set_cons_zero, List.set_cons_succ, i64_w, i32_w]
            rfl
          refine pure_ (i := 13) (N := some 37) (v := ?_) (a' := ?_) #[true, true, true, true, true, true, true, true, true, true, false, false, true, true, false, false, false, false] rfl rfl (by kernel_rfl) (fun _ _ _ h => h) (Or.inl ⟨by rfl, ?_⟩) ?_ ?_
          rotate_left
          · intro w'
            go_simp
            with_reducible rfl
          rotate_left
          · simp only [Act.put, List.setIfInBounds_toArray, List.set_cons_zero, List.set_cons_succ, i64_w, i32_w]
            rfl
          refine two_ (i := 10) (j := 11) (Ni := some 34) (Nj := some 35) #[true, true, true, true, true, true, true, true, true, true, true, false, true, true, false, false, false, false] #[true, true, true, true, true, true, true, true, true, true, false, true, true, true, false, false, false, false] rfl rfl rfl rfl (by kernel_rfl) (by decide) (by decide) (fun K hK => ?_) (fun K hK => ?_)
          · skip
            obtain ⟨x10, zo, hr10, hn⟩ := HNS.out.s10 rfl
            refine value_ (w1 := ?_) (v := ?_) (by rfl) rfl ?_ ?_
            rotate_left 2
            · go_simp
              constructor
              · rfl
              · rfl
            have HNS := Lib.hid hn
            clear hn hr10
            refine hK.out _ _ ⟨(HCE.out _ HNS.out.only).1, (HCE.out _ HNS.out.only).2⟩ (fun hHeld => ?_)
            clear hK K
            refine norm_ (a' := ?_) ?_ ?_
            rotate_left
            · show Act.put _ (some 34) _ = _
              simp only [Act.put, List.setIfInBounds_toArray, List.set_cons_zero, List.set_cons_succ, i64_w, i32_w]
              rfl
            refine two_ (i := 11) (j := 14) (Ni := some 35) (Nj := none) #[true, true, true, true, true, true, true, true, true, true, true, true, true, true, false, false, false, false] #[true, true, true, true, true, true, true, true, true, true, true, false, true, true, true, false, false, false] rfl rfl rfl rfl (by kernel_rfl) (by decide) (by decide) (fun K hK => ?_) (fun K hK => ?_)
            · skip
              obtain ⟨x11, zi, hr11, hn⟩ := HNS.out.s11
              refine value_ (w1 := ?_) (v := ?_) (by rfl) rfl ?_ ?_
              rotate_left 2
              · go_simp
                constructor
                · rfl
                · rfl
              have HNS := Lib.hid hn
              clear hn hr11
              refine hK.out _ _ ⟨(HCE.out _ HNS.out.only).1, (HCE.out _ HNS.out.only).2⟩ (fun hHeld => ?_)
              clear hK K
              refine norm_ (a' := ?_) ?_ ?_
              rotate_left
              · show Act.put _ (some 35) _ = _
                simp only [Act.put, List.setIfInBounds_toArray, List.set_cons_zero, List.set_cons_succ, i64_w, i32_w]
                rfl
              refine one_ (i := 14) (N := none) #[true, true, true, true, true, true, true, true, true, true, true, true, true, true, true, false, false, false] rfl rfl (by kernel_rfl) (by decide) (fun K hK => ?_)
              obtain ⟨x14, hr14, hn⟩ := HNS.out.s14
              refine skip_ (w1 := ?_) (by rfl) rfl ?_ ?_
              rotate_left
              · go_simp
                rfl
              have HNS := Lib.hid hn
              clear hn hr14
              refine hK.out _ _ ⟨(HCE.out _ HNS.out.only).1, (HCE.out _ HNS.out.only).2⟩ (fun hHeld => ?_)
              clear hK K
              refine one_ (i := 15) (N := some 38) #[true, true, true, true, true, true, true, true, true, true, true, true, true, true, true, true, false, false] rfl rfl (by kernel_rfl) (by decide) (fun K hK => ?_)
              obtain ⟨v15, st2, x15, hr15, hn⟩ := HNS.out.s15 hmx hwm
              refine value_ (w1 := ?_) (v := ?_) (by rfl) rfl ?_ ?_
              rotate_left 2
              · go_simp
                constructor
                · rfl
                · rfl
              have HNS := Lib.hid hn
              clear hn hr15
              refine hK.out _ _ ⟨(HCE.out _ HNS.out.only).1, (HCE.out _ HNS.out.only).2⟩ (fun hHeld => ?_)
              clear hK K
              refine norm_ (a' := ?_) ?_ ?_
              rotate_left
              · show Act.put _ (some 38) _ = _
                simp only [Act.put, List.setIfInBounds_toArray, List.set_cons_zero, List.set_cons_succ, i64_w, i32_w]
                rfl
              refine pure_ (i := 16) (N := some 39) (v := ?_) (a' := ?_) #[true, true, true, true, true, true, true, true, true, true, true, true, true, true, true, true, true, false] rfl rfl (by kernel_rfl) (fun _ _ _ h => h) (Or.inl ⟨by rfl, ?_⟩) ?_ ?_
              rotate_left
              · intro w'
                go_simp
                with_reducible rfl
              rotate_left
              · simp only [Act.put, List.setIfInBounds_toArray, List.set_cons_zero, List.set_cons_succ, i64_w, i32_w]
                rfl
              exact norm_ (by simp only [putAll, Act.put, List.setIfInBounds_toArray, List.set_cons_zero, List.set_cons_succ]) (hCont (zo, zi, st1, st2, v12, v15) _ HNS.out)
            · skip
              obtain ⟨x14, hr14, hn⟩ := HNS.out.s14
              refine skip_ (w1 := ?_) (by rfl) rfl ?_ ?_
              rotate_left
              · go_simp
                rfl
              have HNS := Lib.hid hn
              clear hn hr14
              refine hK.out _ _ ⟨(HCE.out _ HNS.out.only).1, (HCE.out _ HNS.out.only).2⟩ (fun hHeld => ?_)
              clear hK K
              refine two_ (i := 11) (j := 15) (Ni := some 35) (Nj := some 38) #[true, true, true, true, true, true, true, true, true, true, true, true, true, true, true, false, false, false] #[true, true, true, true, true, true, true, true, true, true, true, false, true, true, true, true, false, false] rfl rfl rfl rfl (by kernel_rfl) (by decide) (by decide) (fun K hK => ?_) (fun K hK => ?_)
              · skip
                obtain ⟨x11, zi, hr11, hn⟩ := HNS.out.s11
                refine value_ (w1 := ?_) (v := ?_) (by rfl) rfl ?_ ?_
                rotate_left 2
                · go_simp
                  constructor
                  · rfl
                  · rfl
                have HNS := Lib.hid hn
                clear hn hr11
                refine hK.out _ _ ⟨(HCE.out _ HNS.out.only).1, (HCE.out _ HNS.out.only).2⟩ (fun hHeld => ?_)
                clear hK K
                refine norm_ (a' := ?_) ?_ ?_
                rotate_left
                · show Act.put _ (some 35) _ = _
                  simp only [Act.put, List.setIfInBounds_toArray, List.set_cons_zero, List.set_cons_succ, i64_w, i32_w]
                  rfl
                refine one_ (i := 15) (N := some 38) #[true, true, true, true, true, true, true, true, true, true, true, true, true, true, true, true, false, false] rfl rfl (by kernel_rfl) (by decide) (fun K hK => ?_)
                obtain ⟨v15, st2, x15, hr15, hn⟩ := HNS.out.s15 hmx hwm
                refine value_ (w1 := ?_) (v := ?_) (by rfl) rfl ?_ ?_
                rotate_left 2
                · go_simp
                  constructor
                  · rfl
                  · rfl
                have HNS := Lib.hid hn
                clear hn hr15
                refine hK.out _ _ ⟨(HCE.out _ HNS.out.only).1, (HCE.out _ HNS.out.only).2⟩ (fun hHeld => ?_)
                clear hK K
                refine norm_ (a' := ?_) ?_ ?_
                rotate_left
                · show Act.put _ (some 38) _ = _
                  simp only [Act.put, List.setIfInBounds_toArray, List.set_cons_zero, List.set_cons_succ, i64_w, i32_w]
                  rfl
                refine pure_ (i := 16) (N := some 39) (v := ?_) (a' := ?_) #[true, true, true, true, true, true, true, true, true, true, true, true, true, true, true, true, true, false] rfl rfl (by kernel_rfl) (fun _ _ _ h => h) (Or.inl ⟨by rfl, ?_⟩) ?_ ?_
                rotate_left
                · intro w'
                  go_simp
                  with_reducible rfl
                rotate_left
                · simp only [Act.put, List.setIfInBounds_toArray, List.set_cons_zero, List.set_cons_succ, i64_w, i32_w]
                  rfl
                exact norm_ (by simp only [putAll, Act.put, List.setIfInBounds_toArray, List.set_cons_zero, List.set_cons_succ]) (hCont (zo, zi, st1, st2, v12, v15) _ HNS.out)
              · skip
                obtain ⟨v15, st2, x15, hr15, hn⟩ := HNS.out.s15 hmx hwm
                refine value_ (w1 := ?_) (v := ?_) (by rfl) rfl ?_ ?_
                rotate_left 2
                · go_simp
                  constructor
                  · rfl
                  · rfl
                have HNS := Lib.hid hn
                clear hn hr15
                refine hK.out _ _ ⟨(HCE.out _ HNS.out.only).1, (HCE.out _ HNS.out.only).2⟩ (fun hHeld => ?_)
                clear hK K
                refine norm_ (a' := ?_) ?_ ?_
                rotate_left
                · show Act.put _ (some 38) _ = _
                  simp only [Act.put, List.setIfInBounds_toArray, List.set_cons_zero, List.set_cons_succ, i64_w, i32_w]
                  rfl
                refine pure_ (i := 16) (N := some 39) (v := ?_) (a' := ?_) #[true, true, true, true, true, true, true, true, true, true, true, false, true, true, true, true, true, false] rfl rfl (by kernel_rfl) (fun _ _ _ h => h) (Or.inl ⟨by rfl, ?_⟩) ?_ ?_
                rotate_left
                · intro w'
                  go_simp
                  with_reducible rfl
                rotate_left
                · simp only [Act.put, List.setIfInBounds_toArray, List.set_cons_zero, List.set_cons_succ, i64_w, i32_w]
                  rfl
                refine one_ (i := 11) (N := some 35) #[true, true, true, true, true, true, true, true, true, true, true, true, true, true, true, true, true, false] rfl rfl (by kernel_rfl) (by decide) (fun K hK => ?_)
                obtain ⟨x11, zi, hr11, hn⟩ := HNS.out.s11
                refine value_ (w1 := ?_) (v := ?_) (by rfl) rfl ?_ ?_
                rotate_left 2
                · go_simp
                  constructor
                  · rfl
                  · rfl
                have HNS := Lib.hid hn
                clear hn hr11
                refine hK.out _ _ ⟨(HCE.out _ HNS.out.only).1, (HCE.out _ HNS.out.only).2⟩ (fun hHeld => ?_)
                clear hK K
                refine norm_ (a' := ?_) ?_ ?_
                rotate_left
                · show Act.put _ (some 35) _ = _
                  simp only [Act.put, List.setIfInBounds_toArray, List.set_cons_zero, List.set_cons_succ, i64_w, i32_w]
                  rfl
                exact norm_ (by simp only [putAll, Act.put, List.setIfInBounds_toArray, List.set_cons_zero, List.set_cons_succ]) (hCont (zo, zi, st1, st2, v12, v15) _ HNS.out)
          · skip
            obtain ⟨x11, zi, hr11, hn⟩ := HNS.out.s11
            refine value_ (w1 := ?_) (v := ?_) (by rfl) rfl ?_ ?_
            rotate_left 2
            · go_simp
              constructor
              · rfl
              · rfl
            have HNS := Lib.hid hn
            clear hn hr11
            refine hK.out _ _ ⟨(HCE.out _ HNS.out.only).1, (HCE.out _ HNS.out.only).2⟩ (fun hHeld => ?_)
            clear hK K
            refine norm_ (a' := ?_) ?_ ?_
            rotate_left
            · show Act.put _ (some 35) _ = _
              simp only [Act.put, List.setIfInBounds_toArray, List.set_cons_zero, List.set_cons_succ, i64_w, i32_w]
              rfl
            refine one_ (i := 10) (N := some 34) #[true, true, true, true, true, true, true, true, true, true, true, true, true, true, false, false, false, false] rfl rfl (by kernel_rfl) (by decide) (fun K hK => ?_)
            obtain ⟨x10, zo, hr10, hn⟩ := HNS.out.s10 rfl
            refine value_ (w1 := ?_) (v := ?_) (by rfl) rfl ?_ ?_
            rotate_left 2
            · go_simp
              constructor
              · rfl
              · rfl
            have HNS := Lib.hid hn
            clear hn hr10
            refine hK.out _ _ ⟨(HCE.out _ HNS.out.only).1, (HCE.out _ HNS.out.only).2⟩ (fun hHeld => ?_)
            clear hK K
            refine norm_ (a' := ?_) ?_ ?_
            rotate_left
            · show Act.put _ (some 34) _ = _
              simp only [Act.put, List.setIfInBounds_toArray, List.set_cons_zero, List.set_cons_succ, i64_w, i32_w]
              rfl
            refine one_ (i := 14) (N := none) #[true, true, true, true, true, true, true, true, true, true, true, true, true, true, true, false, false, false] rfl rfl (by kernel_rfl) (by decide) (fun K hK => ?_)
            obtain ⟨x14, hr14, hn⟩ := HNS.out.s14
            refine skip_ (w1 := ?_) (by rfl) rfl ?_ ?_
            rotate_left
            · go_simp
              rfl
            have HNS := Lib.hid hn
            clear hn hr14
            refine hK.out _ _ ⟨(HCE.out _ HNS.out.only).1, (HCE.out _ HNS.out.only).2⟩ (fun hHeld => ?_)
            clear hK K
            refine one_ (i := 15) (N := some 38) #[true, true, true, true, true, true, true, true, true, true, true, true, true, true, true, true, false, false] rfl rfl (by kernel_rfl) (by decide) (fun K hK => ?_)
            obtain ⟨v15, st2, x15, hr15, hn⟩ := HNS.out.s15 hmx hwm
            refine value_ (w1 := ?_) (v := ?_) (by rfl) rfl ?_ ?_
            rotate_left 2
            · go_simp
              constructor
              · rfl
              · rfl
            have HNS := Lib.hid hn
            clear hn hr15
            refine hK.out _ _ ⟨(HCE.out _ HNS.out.only).1, (HCE.out _ HNS.out.only).2⟩ (fun hHeld => ?_)
            clear hK K
            refine norm_ (a' := ?_) ?_ ?_
            rotate_left
            · show Act.put _ (some 38) _ = _
              simp only [Act.put, List.setIfInBounds_toArray, List.set_cons_zero, List.set_cons_succ, i64_w, i32_w]
              rfl
            refine pure_ (i := 16) (N := some 39) (v := ?_) (a' := ?_) #[true, true, true, true, true, true, true, true, true, true, true, true, true, true, true, true, true, false] rfl rfl (by kernel_rfl) (fun _ _ _ h => h) (Or.inl ⟨by rfl, ?_⟩) ?_ ?_
            rotate_left
            · intro w'
              go_simp
              with_reducible rfl
            rotate_left
            · simp only [Act.put, List.setIfInBounds_toArray, List.set_cons_zero, List.set_cons_succ, i64_w, i32_w]
              rfl
            exact norm_ (by simp only [putAll, Act.put, List.setIfInBounds_toArray, List.set_cons_zero, List.set_cons_succ]) (hCont (zo, zi, st1, st2, v12, v15) _ HNS.out)
      rintro ⟨zo, zi, st1, st2, v12, v15⟩ X hF
      have HF := Lib.hid hF
      have hHeld : X.cell? ⟨lb, 0, none⟩ = some (.map (some (B 1))) ∧ X.cell? ⟨lb, 1, none⟩ = some (.map (some (B 2))) := HCE.out _ hF.only
      obtain ⟨x17, hr17, hm17, g17⟩ := hF.c2 rfl X (.map (some zi)) rfl
      have HM17 := Lib.hid hm17
      have HG17 := Lib.hid g17
      clear hF hm17 g17
      refine norm_ (a' := ?_) ?_ ?_
      rotate_left
      · simp only [putAll, Act.put, List.setIfInBounds_toArray, List.set_cons_zero, List.set_cons_succ]
        rfl
      refine last_ (i := 17) (N := none) #[true, true, true, true, true, true, true, true, true, true, true, true, true, true, true, true, true, true] rfl rfl (by kernel_rfl) (by decide) (fun K hK => ?_)
      refine skip_ (w1 := ?_) (by rfl) rfl ?_ ?_
      rotate_left
      · go_simp
        rfl
      refine hK.out _ _ ?_
      clear hK K
      refine done_ (by kernel_rfl) ?_
      have HADD : Hid (LMk w x17 n (m + 1) (addB B m zo zi)) := Lib.hid (by
        have F := HF.out
        have o3 : Only wr.drew x17 (fun k => k = B 1 ∨ k = B 2) := F.only.trans ((Only.of_grown HG17.out).mono (fun k _ e _ => by cases e; exact .inr rfl))
        have o2 : Only wr x17 (fun k => k = B 1 ∨ k = B 2) := ((Only.refl wr (fun k => k = B 1 ∨ k = B 2)).drew).trans (o3.mono (fun k _ e _ => e))
        have hdz : wr.drew.heap.size = wr.heap.size := rfl
        have hs := HG17.out.size
        have f1 := F.mo rfl
        have f2 := F.mi rfl
        have l2 : B 2 < wr.heap.size := (HS.out.lo 2 (by omega)).2
        have g1 : wr.heap.size ≤ zo := f1.1.1
        have g2 : wr.heap.size ≤ zi := f2.1.1
        exact HS.out.add hlt (F.ne rfl rfl) ⟨g1, Nat.lt_of_lt_of_le f1.1.2 hs⟩ ⟨g2, Nat.lt_of_lt_of_le f2.1.2 hs⟩ ((F.m14 rfl).grown HG17.out (fun e => hbne (Option.some.inj e).symm)) HM17.out (f1.2.grown HG17.out (fun e => by have := Option.some.inj e; omega)) (f2.2.grown HG17.out (fun e => by have := Option.some.inj e; omega)) o2)
      clear hHeld hr17 p0 p1
      go_wp2_with fail
      go_roundw
      case measure => simp [intOf]; omega
      case rel => exact ⟨m + 1, _, by go_num, by omega, HADD⟩
    · obtain rfl : m = n := by omega
      have HR0 : Hid (LRep wr lb m m (fun _ _ => none) B) := Lib.hid (by rw [← HLB.out]; exact HS.out.rep)
      have HB0 : Hid (Below w.heap.size w wr) := Lib.hid HS.out.below
      have HLO : Hid (∀ q, q < 4 + 2 * m → w.heap.size ≤ B q) := Lib.hid (fun q hq => (HS.out.lo q hq).1)
      have n3 : wr.cell? ⟨lb, 3, none⟩ = some (.int .i64 m) := HR0.out.cells.2.2.2.1
      clear HS hlt
      go_wp2_with fail
      go_loopw [45] (fun v45 wr => ∃ (v K : Nat) (F : Int → Int → Option WayP), v45 = .int .i64 v ∧ v ≤ m ∧ K ≤ m + v * 1000 ∧ Hid (LRep wr lb m K F B) ∧ Hid (LnI m E v 0 F) ∧ Hid (Below w.heap.size w wr)) (fun v45 _ => m - (intOf v45).toNat)
      case atStart => exact ⟨0, m, _, rfl, by omega, by omega, HR0, Lib.hid (LnI.start m E), HB0⟩
      case round =>
        clear HR0 HB0 n3
        obtain ⟨v, K, F, rfl, hv, hK, HR, HL, HB⟩ := hrel
        by_cases hlt : v < m
        · have HOUT := Lib.hid (gout_walk wr gb m E (HG.out.below HB.out) v hlt hn)
          obtain ⟨bz, hbz⟩ : ∃ bz, wr.heap.size = bz := ⟨_, rfl⟩
          have HLT : Hid (∀ k, LS m B k → k < bz) := Lib.hid (by rw [← hbz]; exact HR.out.lt)
          have hi0' : (0 : Int) ≤ (v : Int) := Int.natCast_nonneg _
          have hi1 : (v : Int) < (m : Int) := by omega
          go_wp2_with (go_at_call 16; refine HOUT.out.mono ?_; rintro e w2 ⟨eA, ec, l, rfl, hle, hRl, hEl, hl9, hB2⟩)
          rw [hbz] at hRl
          have HRL := Lib.hid hRl
          have HEL := Lib.hid hEl
          have HR2 := Lib.hid (HR.out.below hB2)
          have HB2 : Hid (Below w.heap.size w w2) := Lib.hid (HB.out.trans (hB2.mono HB.out.size))
          have hbw : bz ≤ w2.heap.size := by rw [← hbz]; exact hB2.size
          have HBZ : Hid (w.heap.size ≤ bz) := Lib.hid (by rw [← hbz]; exact HB.out.size)
          clear hRl hEl hB2 HR HB HOUT hbz
          obtain ⟨ln, hln⟩ : ∃ ln, l.length = ln := ⟨_, rfl⟩
          have HLN := Lib.hid hln
          rw [hln] at HRL hle hl9 ⊢
          clear hln
          go_wp2_with fail
          go_loopw [52] (fun v52 wx => ∃ (i K : Nat) (F : Int → Int → Option WayP), v52 = .int .i64 i ∧ i ≤ ln ∧ K ≤ m + v * 1000 + i ∧ Hid (LRep wx lb m K F B) ∧ Hid (LnI m E v i F) ∧ Hid (Below w.heap.size w wx) ∧ Hid (Kd.R k55 55 wx bz (fun _ => True) (.slice eA ln ec) l)) (fun v52 _ => ln - (intOf v52).toNat)
          case atStart => exact ⟨0, K, F, rfl, by omega, by omega, HR2, HL, HB2, HRL⟩
          case round =>
            clear HR2 HL HB2 HRL
            obtain ⟨i, K, F, rfl, hi, hK2, HR, HL, HB, HRL⟩ := hrel
            by_cases hlt2 : i < ln
            · have hgl : rd_T55 l (i : Int) = l[i]'(by have := HLN.out; omega) := by
                have h9 : i < l.length := by have := HLN.out; omega
                simp [rd_T55, List.getD, h9]
              obtain ⟨ad, hA, r0, r1, r2⟩ := at_T55 (Kd.R_reads' HRL.out).2.2 (i : Int) (by omega) (by have := HLN.out; omega)
              simp only [Int.toNat_natCast] at r0 r1 r2
              have hEv : (E v).length = ln := by rw [← HEL.out, List.length_map]; exact HLN.out
              have hEi : (E v)[i]'(by omega) = toE (rd_T55 l (i : Int)) := by
                rw [hgl]
                simp only [← HEL.out, List.getElem_map]
              have hed := HE.out.ok v hlt _ (List.getElem_mem (show i < (E v).length by omega))
              have HST := Lib.hid (HL.out.step hlt (show i < (E v).length by omega))
              rw [hEi] at hed HST
              generalize rd_T55 l (i : Int) = e at *
              obtain ⟨e0, e1, e2⟩ := e
              simp only [toE] at hed
              simp only at r0 r1 r2
              obtain ⟨q0, q1, q2, q3, q4⟩ := hed
              obtain ⟨ev, rfl⟩ := Int.eq_ofNat_of_zero_le q0
              have j0 : (0 : Int) ≤ (i : Int) := Int.natCast_nonneg _
              have j1 : (i : Int) < (ln : Int) := by omega
              have hB3 : Below wr.heap.size wr (wr.alloc (.cells #[.int .i64 ev, .int .i64 e1, .int .i64 e2] 55)) := (Below.refl _ _).alloc (Nat.le_refl _) _
              have HX := Lib.hid (blk_new wr (.cells #[.int .i64 ev, .int .i64 e1, .int .i64 e2] 55))
              have HLAY := Lib.hid (wlay_walk _ lb m K F B (HR.out.below hB3) (by omega) (by omega) v ev hlt (by omega) ⟨e1, -1, e2⟩)
              have HB3 := Lib.hid (HB.out.trans (hB3.mono HB.out.size))
              have HR3 := Lib.hid (Kd.R_below HRL.out hB3)
              subst hA
              simp only [wayV] at HLAY
              clear hgl hEi HR HB HRL hB3
              go_upto_region 15 with fail
              clear r0 r1 r2
              generalize wr.alloc (.cells #[.int .i64 ev, .int .i64 e1, .int .i64 e2] 55) = w3 at *
              generalize wr.heap.size = z3 at *
              have d0 := (blk_cell HX.out 0).trans rfl
              have d1 := (blk_cell HX.out 1).trans rfl
              have d2 := (blk_cell HX.out 2).trans rfl
              go_wp2_with (first | (go_at_call 17; refine HLAY.out.mono ?_; rintro e w4 ⟨⟨x, rfl⟩, hL4, hO4⟩))
              have HL4 := Lib.hid hL4
              have HB4 : Hid (Below w.heap.size w w4) := Lib.hid (HB3.out.trans ⟨hO4.os, hO4.tape, hO4.output, hO4.size, fun k hk => hO4.block k (Nat.lt_of_lt_of_le hk HB3.out.size) (fun f => by obtain ⟨q, hq, e⟩ := f; have := HLO.out q hq; omega)⟩)
              have HR4 := Lib.hid (R55_only HR3.out hO4 (fun k hk f => by
                have h1 := HLT.out k f
                obtain ⟨inner, ho⟩ := Kd.R_own HR3.out
                have := (ho.lt k hk).1
                omega))
              clear hL4 hO4
              go_roundw
              case measure => simp [intOf]; omega
              case rel => exact ⟨i + 1, K + 1, _, by go_num, by omega, by omega, HL4, HST, HB4, HR4⟩
            · obtain rfl : i = ln := by omega
              have HNX : Hid (LnI m E (v + 1) 0 F) := Lib.hid (by
                have hEv : (E v).length = i := by rw [← HEL.out, List.length_map]; exact HLN.out
                have := HL.out
                rw [← hEv] at this
                exact this.next)
              clear hlt2
              go_wp2_with fail
              go_roundw
              case measure => simp [intOf]; omega
              case rel => exact ⟨v + 1, K, F, by go_num, by omega, by omega, HR, HNX, HB⟩
        · obtain rfl : v = m := by omega
          clear hlt
          go_wp2_with fail
          go_ret
          exact ⟨lb, K, F, B, rfl, HR.out, by omega, HL.out, HB.out, by rintro k ⟨q, hq, rfl⟩; exact HLO.out q hq⟩
end Go.Proofs.Ytfppfdejjifhdaa.PAll
