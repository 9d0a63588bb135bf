import Derived.Test.YtegikndkokemjaaDoorRd2
namespace Go.Proofs.YtegikndkokemjaaDoor.PAll
open Go.RowKit Go.Proofs.YtegikndkokemjaaDoorW.PrintWords Go.Proofs.YtegikndkokemjaaDoorW.PrintLast Go.Proofs.YtegikndkokemjaaDoorW.PrintMore
open GrFn
set_option linter.unusedVariables false
set_option linter.unusedSimpArgs false

theorem cell_alloc_any {w : World} {p : Addr} {u : Value} {o : Obj} (h : w.cell? p = some u) : (w.alloc o).cell? p = some u := by
  have hlt : p.block < w.heap.size := by
    unfold World.cell? at h
    cases ho : w.heap[p.block]? with
    | none => simp [ho] at h
    | some o => exact (Array.getElem?_eq_some_iff.1 ho).1
  exact (World.cell?_of_block (w := w) (Below.heap_alloc w o p.block hlt)).trans h

theorem reader_cell {W w2 : World} {rb : Nat} {v : Value} {a b : Value} (h : W.heap[rb]? = some (.cells #[a, v, b] 54 (0, 0))) {row : Option Nat} (hg : W.grownBy w2 row) (hne : some rb ≠ row) : w2.cell? ⟨rb, 1, none⟩ = some v :=
  (blk_cell ((hg.block rb (blk_lt h) hne).trans h) 1).trans rfl
theorem reader_frozen {W w2 : World} {rb : Nat} {v : Value} {a b : Value} (h : W.heap[rb]? = some (.cells #[a, v, b] 54 (0, 0))) {row : Option Nat} (hg : W.grownBy w2 row) (hne : some rb ≠ row) : w2.frozen? ⟨rb, 1, none⟩ = false :=
  blk_frozen ((hg.block rb (blk_lt h) hne).trans h) 1
theorem form_of {W : World} {B : Nat} {ok : Nat → Prop} {v : Value} {xs : List Arc} {s : S50} (h : Kd.R k50 50 W B ok v (xs.map toS ++ [s])) : ∃ g cap, v = .slice (some ⟨g, 0, none⟩) (xs.length + 1) cap ∧ B ≤ g := by
  obtain ⟨g, cap, e, hb, _⟩ := Kd.R_form h (by simp)
  exact ⟨g, cap, by rw [e]; simp, hb⟩

theorem cell_lt {w : World} {p : Addr} {u : Value} (h : w.cell? p = some u) : p.block < w.heap.size := by
  unfold World.cell? at h
  cases ho : w.heap[p.block]? with
  | none => simp [ho] at h
  | some o => exact (Array.getElem?_eq_some_iff.1 ho).1

theorem rdr_below {W W' : World} {B0 rb : Nat} {v : Value} {t : St} (h : Rdr W B0 rb v t) (hb : Below W.heap.size W W') : Rdr W' B0 rb v t :=
  ⟨(hb.block rb (blk_lt h.blk)).trans h.blk, Kd.R_below h.arcs hb, h.base, h.n0, h.n1, h.m0, h.m1, h.len⟩

theorem arc_fin {t : St} {B0 rb : Nat} {v v1 : Value} {w wc w2 : World} {x y z : Int} (h : Rdr wc B0 rb v t) (hB : Below w.heap.size w wc) (hB0 : B0 ≤ w.heap.size) (hrb : rb < w.heap.size) (hv : ∀ k, v.ownBlock = some k → k < w.heap.size)
    (hR2 : Kd.R k50 50 w2 B0 (fun _ => True) v1 (t.arcs.map toS ++ [⟨x - 1, y - 1, z⟩])) (hB2 : Below B0 w w2) (hg2 : wc.grownBy w2 v.ownBlock) (hlen : (t.arcs.length : Int) < t.many) :
    StepTo w B0 rb v t (some { t with arcs := t.arcs ++ [⟨x - 1, y - 1, z⟩] }) (.returned (.bool true)) (w2.setCell ⟨rb, 1, none⟩ v1) := by
  have hblk : wc.heap[rb]? = some (.cells #[.int .i64 t.n, v, .int .i64 t.many] 54 (0, 0)) := h.blk
  have hne : some rb ≠ v.ownBlock := Kd.R_ne h.arcs h.blk (by decide)
  have hblk2 := (hg2.block rb (blk_lt hblk) hne).trans hblk
  refine ⟨rfl, v1, ⟨blk_set hblk2 1 v1, ?_, h.base, h.n0, h.n1, h.m0, h.m1, ?_⟩, ?_, ?_⟩
  · have := Kd.R_set hR2 hblk2 (by decide) 1 v1
    simpa [toS] using this
  · have := h.m1
    simp
    omega
  · exact hB2.setCell (p := ⟨rb, 1, none⟩) h.base _
  · refine ⟨?_, fun i hi hn => ?_⟩
    · have h1 := hB.size
      have h2 := hg2.size
      simp [World.setCell] at *
      omega
    · have hn1 : i ≠ rb := fun e => hn (.inl e)
      have hn2 : some i ≠ v.ownBlock := fun e => hn (.inr e)
      have h1 := hB.size
      exact ((Below.heap_setCell _ _ _ i hn1).trans (hg2.block i (Nat.lt_of_lt_of_le hi h1) hn2)).trans (hB.block i hi)

set_option maxRecDepth 100000 in
set_option maxHeartbeats 2000000 in
theorem arc_yes (t : St) (A : Option Addr) (c : Nat) (ws : List ByteArray) (B0 rb : Nat) (v : Value) (w : World) (h : Rdr w B0 rb v t) (hB0 : B0 ≤ w.heap.size) (hw : Kd.C Kd.string w A ws.length ws) (hg : ws.length ≤ c)
    (x y z : Int) (hn : numbers (ws.map bytes) [t.n, t.n, 2147483648] = some [x, y, z]) (hx : (x == 0) = false) (hy : (y == 0) = false) (hlen : (t.arcs.length : Int) < t.many) (hx0 : 0 ≤ x) (hx1 : x ≤ 16777216) (hy0 : 0 ≤ y) (hy1 : y ≤ 16777216) :
    Calls Tryd.prog 36 #[.pointer (some ⟨rb, 0, none⟩), .slice A ws.length c] w fun e w' => StepTo w B0 rb v t (some { t with arcs := t.arcs ++ [⟨x - 1, y - 1, z⟩] }) e w' := by
  obtain ⟨A1, cap1, rfl, _, _⟩ := Kd.R_reads h.arcs
  rw [List.length_map] at h ⊢
  obtain ⟨c0, c1, c2, f0, f1, f2⟩ := h.cells
  have hcon := arc_three t A c ws B0 rb _ w h hw hg hn
  have hrb : rb < w.heap.size := blk_lt h.blk
  have hvb : ∀ k, (Value.slice A1 t.arcs.length cap1).ownBlock = some k → k < w.heap.size := Kd.R_lt h.arcs
  have hm1 := h.m1
  obtain ⟨m, hm⟩ : ∃ m, ws.length = m := ⟨_, rfl⟩
  rw [hm] at hcon ⊢
  have HC := Lib.hid hcon
  have HV := Lib.hid hvb
  have HW1 : Hid (wrap64 (x - 1) = x - 1) := Lib.hid (by unfold wrap64; omega)
  have HW2 : Hid (wrap64 (y - 1) = y - 1) := Lib.hid (by unfold wrap64; omega)
  clear hcon hn hw hg hm hvb
  go_enter Tryd.func36, Tryd.ntmps36
  go_upto_region 1 with (fail)
  go_cut [5, 6] (fun v5 v6 wc => ∃ g cap, v5 = .slice (some ⟨g, 0, none⟩) 3 cap ∧ v6 = .bool true ∧ Rdr wc B0 rb (.slice A1 t.arcs.length cap1) t ∧ Below w.heap.size w wc ∧ wc.cell? ⟨g, 0, none⟩ = some (.int .i64 x) ∧ wc.cell? ⟨g, 1, none⟩ = some (.int .i64 y) ∧ wc.cell? ⟨g, 2, none⟩ = some (.int .i64 z))
  case first =>
    go_region_with (go_at_call 53; refine HC.out.mono ?_; rintro e w1 ⟨g, cap, rfl, hR1, hB1, hgb, q0, q1, q2⟩)
    all_goals (try go_wp2_with fail)
    all_goals go_meet
    all_goals exact ⟨g, cap, rfl, rfl, hR1, hB1, q0, q1, q2⟩
  case rest =>
    obtain ⟨g, cap, rfl, rfl, hR1, hB1, q0, q1, q2⟩ := hcut
    clear c0 c1 c2 f0 f1 f2 HC
    obtain ⟨c0, c1, c2, f0, f1, f2⟩ := hR1.cells
    have HV2 := Lib.hid hR1
    go_wp2_with fail
    go_quiet (fail)
    go_upto_region 4 with (fail)
    have hdn : Below wc.heap.size wc (wc.drewN nq) := pw_below_drewN (Below.refl _ _) _
    have hR3 := rdr_below hR1 hdn
    have hB3 := hB1.trans (hdn.mono hB1.size)
    replace q0 := (hdn.cell (p := ⟨g, 0, none⟩) (cell_lt q0)).trans q0
    replace q1 := (hdn.cell (p := ⟨g, 1, none⟩) (cell_lt q1)).trans q1
    replace q2 := (hdn.cell (p := ⟨g, 2, none⟩) (cell_lt q2)).trans q2
    generalize wc.drewN nq = wd at hR3 hB3 q0 q1 q2 ⊢
    clear hdn hR1 hB1 c0 c1 c2 f0 f1 f2
    obtain ⟨c0, c1, c2, f0, f1, f2⟩ := hR3.cells
    have HR3 : Hid (Rdr wd.drew B0 rb (.slice A1 t.arcs.length cap1) t) := Lib.hid (rdr_below hR3 (below_drew1 (Below.refl _ _)))
    have HRD := Lib.hid (Kd.R_drew hR3.arcs)
    have HBD := Lib.hid ((hB3.mono hB0).drew)
    have HBS : Hid (B0 ≤ wd.drew.heap.size) := Lib.hid (Nat.le_trans hB0 hB3.size)
    have HLN : Hid (((t.arcs.map toS).length + 1) * 24 ≤ 140737488355328) := Lib.hid (by have := hR3.len; rw [List.length_map]; omega)
    have HRB : Hid (wd.drew.heap[rb]? = some (.cells #[.int .i64 t.n, .slice A1 t.arcs.length cap1, .int .i64 t.many] 54 (0, 0))) := Lib.hid hR3.blk
    have HNE := Lib.hid (Kd.R_ne hR3.arcs hR3.blk (by decide))
    have HB3 : Hid (Below w.heap.size w wd.drew) := Lib.hid hB3.drew
    clear hR3 hB3
    refine start_ (n := 24) (S := fun w' => w'.cell? ⟨rb, 1, none⟩ = some (.slice A1 t.arcs.length cap1) ∧ w'.cell? ⟨g, 0, none⟩ = some (.int .i64 x) ∧ w'.cell? ⟨g, 1, none⟩ = some (.int .i64 y) ∧ w'.cell? ⟨g, 2, none⟩ = some (.int .i64 z)) (ds := [19, 23]) #[false, false, false, false, false, false, false, false, false, false, false, false, false, false, false, false, false, false, false, false, false, false, false, false] (by kernel_rfl) rfl rfl ⟨c1.trans rfl, q0, q1, q2⟩ (fun hHeld => ?_)
    generalize wd.drew = w3 at hHeld HR3 HB3 HRD HBD HBS HRB ⊢
    refine pure_ (i := 0) (N := some 50) (v := ?_) (a' := ?_) #[true, false, false, false, false, false, false, false, false, false, false, false, false, false, false, false, false, false, false, false, false, false, false, false] rfl rfl (by kernel_rfl) (fun _ _ _ h => h) (Or.inl ⟨by rfl, ?_⟩) ?_ ?_
    rotate_left
    · intro w'
      go_simp
      with_reducible rfl
    rotate_left
    · simp only [Act.put, List.setIfInBounds_toArray, List.set_cons_zero, List.set_cons_succ, i64_w, i32_w]
      rfl
    refine pure_ (i := 1) (N := some 51) (v := ?_) (a' := ?_) #[true, true, false, false, false, false, false, false, false, false, false, false, false, false, false, false, false, false, false, false, false, false, false, false] rfl rfl (by kernel_rfl) (fun _ _ _ h => h) (Or.inl ⟨by rfl, ?_⟩) ?_ ?_
    rotate_left
    · intro w'
      go_simp
      with_reducible rfl
    rotate_left
    · simp only [Act.put, List.setIfInBounds_toArray, List.set_cons_zero, List.set_cons_succ, i64_w, i32_w]
      rfl
    refine pure_ (i := 2) (N := some 52) (v := ?_) (a' := ?_) #[true, true, true, false, false, false, false, false, false, false, false, false, false, false, false, false, false, false, false, false, false, false, false, false] rfl rfl (by kernel_rfl) (fun _ _ _ h => h) (Or.inl ⟨by rfl, ?_⟩) ?_ ?_
    rotate_left
    · intro w'
      go_simp
      with_reducible rfl
    rotate_left
    · simp only [Act.put, List.setIfInBounds_toArray, List.set_cons_zero, List.set_cons_succ, i64_w, i32_w]
      rfl
    refine pure_ (i := 3) (N := some 53) (v := ?_) (a' := ?_) #[true, true, true, true, false, false, false, false, false, false, false, false, false, false, false, false, false, false, false, false, false, false, false, false] rfl rfl (by kernel_rfl) (fun _ _ _ h => h) (Or.inl ⟨by rfl, ?_⟩) ?_ ?_
    rotate_left
    · intro w'
      go_simp
      with_reducible rfl
    rotate_left
    · simp only [Act.put, List.setIfInBounds_toArray, List.set_cons_zero, List.set_cons_succ, i64_w, i32_w]
      rfl
    refine pure_ (i := 4) (N := some 54) (v := ?_) (a' := ?_) #[true, true, true, true, true, false, false, false, false, false, false, false, false, false, false, false, false, false, false, false, false, false, false, false] rfl rfl (by kernel_rfl) (fun _ _ _ h => h) (Or.inl ⟨by rfl, ?_⟩) ?_ ?_
    rotate_left
    · intro w'
      go_simp
      with_reducible rfl
    rotate_left
    · simp only [Act.put, List.setIfInBounds_toArray, List.set_cons_zero, List.set_cons_succ, i64_w, i32_w]
      rfl
    refine pure_ (i := 6) (N := some 56) (v := ?_) (a' := ?_) #[true, true, true, true, true, false, true, false, false, false, false, false, false, false, false, false, false, false, false, false, false, false, false, false] rfl rfl (by kernel_rfl) (fun _ _ _ h => h) (Or.inl ⟨by rfl, ?_⟩) ?_ ?_
    rotate_left
    · intro w'
      go_simp
      with_reducible rfl
    rotate_left
    · simp only [Act.put, List.setIfInBounds_toArray, List.set_cons_zero, List.set_cons_succ, i64_w, i32_w]
      rfl
    refine pure_ (i := 7) (N := some 57) (v := ?_) (a' := ?_) #[true, true, true, true, true, false, true, true, false, false, false, false, false, false, false, false, false, false, false, false, false, false, false, false] rfl rfl (by kernel_rfl) (fun _ _ _ h => h) (Or.inl ⟨by rfl, ?_⟩) ?_ ?_
    rotate_left
    · intro w'
      go_simp
      with_reducible rfl
    rotate_left
    · simp only [Act.put, List.setIfInBounds_toArray, List.set_cons_zero, List.set_cons_succ, i64_w, i32_w]
      rfl
    refine pure_ (i := 10) (N := some 60) (v := ?_) (a' := ?_) #[true, true, true, true, true, false, true, true, false, false, true, false, false, false, false, false, false, false, false, false, false, false, false, false] rfl rfl (by kernel_rfl) (fun _ _ _ h => h) (Or.inl ⟨by rfl, ?_⟩) ?_ ?_
    rotate_left
    · intro w'
      go_simp
      with_reducible rfl
    rotate_left
    · simp only [Act.put, List.setIfInBounds_toArray, List.set_cons_zero, List.set_cons_succ, i64_w, i32_w]
      rfl
    refine pure_ (i := 11) (N := some 61) (v := ?_) (a' := ?_) #[true, true, true, true, true, false, true, true, false, false, true, true, false, false, false, false, false, false, false, false, false, false, false, false] rfl rfl (by kernel_rfl) (fun _ _ _ h => h) (Or.inl ⟨by rfl, ?_⟩) ?_ ?_
    rotate_left
    · intro w'
      go_simp
      with_reducible rfl
    rotate_left
    · simp only [Act.put, List.setIfInBounds_toArray, List.set_cons_zero, List.set_cons_succ, i64_w, i32_w]
      rfl
    refine pure_ (i := 14) (N := some 64) (v := ?_) (a' := ?_) #[true, true, true, true, true, false, true, true, false, false, true, true, false, false, true, false, false, false, false, false, false, false, false, false] rfl rfl (by kernel_rfl) (fun _ _ _ h => h) (Or.inl ⟨by rfl, ?_⟩) ?_ ?_
    rotate_left
    · intro w'
      go_simp
      with_reducible rfl
    rotate_left
    · simp only [Act.put, List.setIfInBounds_toArray, List.set_cons_zero, List.set_cons_succ, i64_w, i32_w]
      rfl
    refine pure_ (i := 15) (N := some 65) (v := ?_) (a' := ?_) #[true, true, true, true, true, false, true, true, false, false, true, true, false, false, true, true, false, false, false, false, false, false, false, false] rfl rfl (by kernel_rfl) (fun _ _ _ h => h) (Or.inl ⟨by rfl, ?_⟩) ?_ ?_
    rotate_left
    · intro w'
      go_simp
      with_reducible rfl
    rotate_left
    · simp only [Act.put, List.setIfInBounds_toArray, List.set_cons_zero, List.set_cons_succ, i64_w, i32_w]
      rfl
    refine take_ (i := 5) (N := some 55) (v := ?_) (a' := ?_) #[true, true, true, true, true, true, true, true, false, false, true, true, false, false, true, true, false, false, false, false, false, false, false, false] rfl rfl (by kernel_rfl) (fun _ _ _ h => h) (Or.inl ⟨by rfl, ?_⟩) hHeld ?_ ?_
    rotate_left
    · rintro w' ⟨s0, s1, s2, s3⟩
      go_simp
      with_reducible rfl
    rotate_left
    · simp only [Act.put, List.setIfInBounds_toArray, List.set_cons_zero, List.set_cons_succ, i64_w, i32_w]
      rfl
    refine take_ (i := 8) (N := some 58) (v := ?_) (a' := ?_) #[true, true, true, true, true, true, true, true, true, false, true, true, false, false, true, true, false, false, false, false, false, false, false, false] rfl rfl (by kernel_rfl) (fun _ _ _ h => h) (Or.inl ⟨by rfl, ?_⟩) hHeld ?_ ?_
    rotate_left
    · rintro w' ⟨s0, s1, s2, s3⟩
      go_simp
      with_reducible rfl
    rotate_left
    · simp only [Act.put, List.setIfInBounds_toArray, List.set_cons_zero, List.set_cons_succ, i64_w, i32_w]
      rfl
    refine pure_ (i := 9) (N := some 59) (v := ?_) (a' := ?_) #[true, true, true, true, true, true, true, true, true, true, true, true, false, false, true, true, false, false, false, false, false, false, false, false] rfl rfl (by kernel_rfl) (fun _ _ _ h => h) (Or.inl ⟨by rfl, ?_⟩) ?_ ?_
    rotate_left
    · intro w'
      go_simp
      with_reducible rfl
    rotate_left
    · simp only [Act.put, List.setIfInBounds_toArray, List.set_cons_zero, List.set_cons_succ, i64_w, i32_w]
      rfl
    refine take_ (i := 12) (N := some 62) (v := ?_) (a' := ?_) #[true, true, true, true, true, true, true, true, true, true, true, true, true, false, true, true, false, false, false, false, false, false, false, false] rfl rfl (by kernel_rfl) (fun _ _ _ h => h) (Or.inl ⟨by rfl, ?_⟩) hHeld ?_ ?_
    rotate_left
    · rintro w' ⟨s0, s1, s2, s3⟩
      go_simp
      with_reducible rfl
    rotate_left
    · simp only [Act.put, List.setIfInBounds_toArray, List.set_cons_zero, List.set_cons_succ, i64_w, i32_w]
      rfl
    refine pure_ (i := 13) (N := some 63) (v := ?_) (a' := ?_) #[true, true, true, true, true, true, true, true, true, true, true, true, true, true, true, true, false, false, false, false, false, false, false, false] rfl rfl (by kernel_rfl) (fun _ _ _ h => h) (Or.inl ⟨by rfl, ?_⟩) ?_ ?_
    rotate_left
    · intro w'
      go_simp
      with_reducible rfl
    rotate_left
    · simp only [Act.put, List.setIfInBounds_toArray, List.set_cons_zero, List.set_cons_succ, i64_w, i32_w]
      rfl
    refine take_ (i := 16) (N := some 66) (v := ?_) (a' := ?_) #[true, true, true, true, true, true, true, true, true, true, true, true, true, true, true, true, true, false, false, false, false, false, false, false] rfl rfl (by kernel_rfl) (fun _ _ _ h => h) (Or.inl ⟨by rfl, ?_⟩) hHeld ?_ ?_
    rotate_left
    · rintro w' ⟨s0, s1, s2, s3⟩
      go_simp
      with_reducible rfl
    rotate_left
    · simp only [Act.put, List.setIfInBounds_toArray, List.set_cons_zero, List.set_cons_succ, i64_w, i32_w]
      rfl
    refine pure_ (i := 17) (N := some 67) (v := ?_) (a' := ?_) #[true, true, true, true, true, true, true, true, true, true, true, true, true, true, true, true, true, true, false, false, false, false, false, false] rfl rfl (by kernel_rfl) (fun _ _ _ h => h) (Or.inl ⟨by rfl, ?_⟩) ?_ ?_
    rotate_left
    · intro w'
      go_simp
      with_reducible rfl
    rotate_left
    · simp only [Act.put, List.setIfInBounds_toArray, List.set_cons_zero, List.set_cons_succ, i64_w, i32_w]
      rfl
    refine one_ (i := 18) (N := some 68) #[true, true, true, true, true, true, true, true, true, true, true, true, true, true, true, true, true, true, true, false, false, false, false, false] rfl rfl (by kernel_rfl) (by decide) (fun K hK => ?_)
    refine value_ (w1 := ?_) (v := ?_) (by rfl) rfl ?_ ?_
    rotate_left 2
    · go_simp
      constructor
      · rfl
      · rfl
    refine hK.out _ _ ⟨(cell_alloc_any hHeld.1), (cell_alloc_any hHeld.2.1), (cell_alloc_any hHeld.2.2.1), (cell_alloc_any hHeld.2.2.2)⟩ (fun hHeld => ?_)
    clear hK K
    refine norm_ (a' := ?_) ?_ ?_
    rotate_left
    · show Act.put _ (some 68) _ = _
      simp only [Act.put, List.setIfInBounds_toArray, List.set_cons_zero, List.set_cons_succ, i64_w, i32_w]
      rfl
    refine last_ (i := 19) (N := some 69) #[true, true, true, true, true, true, true, true, true, true, true, true, true, true, true, true, true, true, true, true, false, false, false, false] rfl rfl (by kernel_rfl) (by decide) (fun K hK => ?_)
    refine Kd.R_append_step k50 (w0 := w) B0 ?_ (.tmp 55) (.tmp 68) 23 50 (.agg #[.int .i64 0, .int .i64 0, .int .i64 0]) 24 (by rfl) Tryd.underlying23 (by kernel_rfl) rfl (by decide) (by decide) (.slice A1 t.arcs.length cap1) (t.arcs.map toS) ⟨wrap64 (x - 1), wrap64 (y - 1), z⟩ [.int .i64 (wrap64 (x - 1)), .int .i64 (wrap64 (y - 1)), .int .i64 z] (fun _ => True) (fun _ => False) (by rfl) (by rfl) (k50_mkM _ _ _ _) (fun _ h => h.elim) (fun _ _ => trivial) HRD.out HBD.out HBS.out HLN.out ?_
    · rfl
    intro v1 w2 hR2 hB2 hg2 hat2
    rw [HW1.out, HW2.out] at hR2
    have c1' := reader_cell HRB.out hg2 HNE.out
    have f1' := reader_frozen HRB.out hg2 HNE.out
    obtain ⟨gv, capv, rfl, hgv⟩ := form_of hR2
    refine hK.out _ _ ?_
    clear hK K
    refine norm_ (a' := ?_) ?_ ?_
    rotate_left
    · show Act.put _ (some 69) _ = _
      simp only [Act.put, List.setIfInBounds_toArray, List.set_cons_zero, List.set_cons_succ, i64_w, i32_w]
      rfl
    refine pure_ (i := 20) (N := some 70) (v := ?_) (a' := ?_) #[true, true, true, true, true, true, true, true, true, true, true, true, true, true, true, true, true, true, true, true, true, false, false, false] rfl rfl (by kernel_rfl) (fun _ _ _ h => h) (Or.inl ⟨by rfl, ?_⟩) ?_ ?_
    rotate_left
    · intro w'
      go_simp
      with_reducible rfl
    rotate_left
    · simp only [Act.put, List.setIfInBounds_toArray, List.set_cons_zero, List.set_cons_succ, i64_w, i32_w]
      rfl
    refine pure_ (i := 21) (N := some 71) (v := ?_) (a' := ?_) #[true, true, true, true, true, true, true, true, true, true, true, true, true, true, true, true, true, true, true, true, true, true, false, false] rfl rfl (by kernel_rfl) (fun _ _ _ h => h) (Or.inl ⟨by rfl, ?_⟩) ?_ ?_
    rotate_left
    · intro w'
      go_simp
      with_reducible rfl
    rotate_left
    · simp only [Act.put, List.setIfInBounds_toArray, List.set_cons_zero, List.set_cons_succ, i64_w, i32_w]
      rfl
    refine pure_ (i := 22) (N := some 72) (v := ?_) (a' := ?_) #[true, true, true, true, true, true, true, true, true, true, true, true, true, true, true, true, true, true, true, true, true, true, true, false] rfl rfl (by kernel_rfl) (fun _ _ _ h => h) (Or.inl ⟨by rfl, ?_⟩) ?_ ?_
    rotate_left
    · intro w'
      go_simp
      with_reducible rfl
    rotate_left
    · simp only [Act.put, List.setIfInBounds_toArray, List.set_cons_zero, List.set_cons_succ, i64_w, i32_w]
      rfl
    refine last_ (i := 23) (N := none) #[true, true, true, true, true, true, true, true, true, true, true, true, true, true, true, true, true, true, true, true, true, true, true, true] rfl rfl (by kernel_rfl) (by decide) (fun K hK => ?_)
    refine skip_ (w1 := ?_) (by rfl) rfl ?_ ?_
    rotate_left
    · go_simp
      rfl
    refine hK.out _ _ ?_
    clear hK K
    refine done_ (by kernel_rfl) ?_
    go_wp2
    go_ret
    exact arc_fin (v := .slice A1 t.arcs.length cap1) HR3.out HB3.out hB0 hrb HV.out hR2 hB2 hg2 hlen
end Go.Proofs.YtegikndkokemjaaDoor.PAll
