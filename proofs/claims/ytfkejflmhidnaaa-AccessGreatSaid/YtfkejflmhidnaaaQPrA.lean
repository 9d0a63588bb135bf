import Derived.Test.YtfkejflmhidnaaaQBtA
import Derived.Test.YtfkejflmhidnaaaQRcP
import Derived.WalkSpells
namespace Go.Proofs.Ytfkejflmhidnaaa.PAll
open Go.RowKit Go.Proofs.YtfkejflmhidnaaaW.PrintWords Go.Proofs.YtfkejflmhidnaaaW.PrintLast Go.Proofs.YtfkejflmhidnaaaW.PrintMore
open Hp hiding Good
set_option linter.unusedVariables false
set_option linter.unusedSimpArgs false

theorem r39_form {w : World} {B : Nat} {v : Value} {l : List S39} (h : Kd.R k39 39 w B (fun _ => True) v l) : (v = .slice none 0 0 ∧ l = []) ∨ ∃ g cap, v = .slice (some ⟨g, 0, none⟩) l.length cap := by
  obtain ⟨_, xs, hown, hlen, _⟩ := h
  rcases hown.2 with ⟨e1, e2⟩ | ⟨g, cap, cur, e1, _⟩
  · exact .inl ⟨e1, List.eq_nil_of_length_eq_zero e2⟩
  · exact .inr ⟨g, cap, e1⟩
set_option maxRecDepth 100000 in
set_option maxHeartbeats 1000000 in
/-- slices.Clone -/
theorem clone_walk (w : World) (B : Nat) (v : Value) (l : List S39) (h : Kd.R k39 39 w B (fun _ => True) v l) (hl : l.length ≤ 1000000) :
    Calls Try.prog 46 #[v] w fun r w' => ∃ vr, r = .returned vr ∧ Kd.R k39 39 w' w.heap.size (fun _ => True) vr l ∧ Below w.heap.size w w' := by
  have qn := fun w a n c n' c' => Lib.run_eql_slice_nil (P := Try.prog) w 36 39 a n c n' c' Try.underlying36
  have HR := Lib.hid h
  obtain ⟨A, c, hv, hc, hC⟩ := Kd.R_reads h
  have HC := Lib.hid hC
  rcases r39_form h with ⟨rfl, rfl⟩ | ⟨g, cap, rfl⟩
  · clear h hv hc hC
    go_enter Try.func46, Try.ntmps46
    go_wp2_with fail
    go_ret
    exact ⟨_, rfl, Kd.R_nil _ _ _ _ _, Below.refl _ _⟩
  · obtain ⟨rfl, rfl⟩ : A = some ⟨g, 0, none⟩ ∧ c = cap := by
      injection hv with h1 h2 h3
      exact ⟨h1.symm, h3.symm⟩
    clear h hv hC
    obtain ⟨m, hm⟩ : ∃ m, l.length = m := ⟨_, rfl⟩
    rw [hm] at hc hl HC ⊢
    clear HR
    have HR0 : Hid (Kd.R k39 39 (w.alloc (.cells #[] 39)) w.heap.size (fun _ => True) (.slice (some ⟨w.heap.size, 0, none⟩) 0 0) ([] : List S39)) := Lib.hid (by
      have hown : (w.alloc (.cells #[] 39)).ownsRow w.heap.size 39 2 (.slice (some ⟨w.heap.size, 0, none⟩) 0 0) 0 [] := ⟨rfl, .inr ⟨w.heap.size, 0, #[], rfl, Nat.le_refl _, blk_new w _, Nat.le_refl _, by decide, rfl, rfl⟩⟩
      exact ⟨fun _ _ => trivial, [], hown, rfl, fun j p hj => by simp at hj⟩)
    have HB0 : Hid (Below w.heap.size w (w.alloc (.cells #[] 39))) := Lib.hid ((Below.refl _ _).alloc (Nat.le_refl _) _)
    have HC1 : Hid (Kd.C k39 (w.alloc (.cells #[] 39)) (some ⟨g, 0, none⟩) m l) := Lib.hid (Kd.C_alloc HC.out _)
    have hsz : w.heap.size ≤ (w.alloc (.cells #[] 39)).heap.size := by simp
    clear HC
    go_enter Try.func46, Try.ntmps46
    go_wp2_with (first | (at_builtin; refine Kd.R_append_rows k39 (w0 := w) w.heap.size rfl (.tmp 5) (.tmp 6) 36 39 (.agg #[.int .i64 0, .int .i64 0]) 16 rfl Try.underlying36 info39 rfl (by decide) (by omega) (.slice (some ⟨w.heap.size, 0, none⟩) 0 0) ([] : List S39) l (some ⟨g, 0, none⟩) m c (fun _ => True) (fun _ => False) rfl rfl HR0.out HC1.out (fun x cs hx => by obtain rfl := k39_open hx; exact k39_mkM _ _ _ _) (fun _ h => h.elim) (fun _ _ => trivial) HB0.out hsz (by simp; omega) ?_; intro v1 w1 hR1 hB1 _ _; have HR1 := Lib.hid hR1; have HB1 := Lib.hid hB1; clear hR1 hB1))
    all_goals (try rw [Exit.noGoto_ret])
    go_ret
    exact ⟨_, rfl, by simpa using HR1.out, HB1.out⟩

/-- of some, those that no other one beats -/
def pruneP (n : Nat) (h : HierP) (back : Bool) (l : List S39) : List S39 := l.filter fun b => !(l.any fun a => beatsP n h back a b)
/-- Prune's test -/
theorem prune1_walk (w : World) (bh bk hb n : Nat) (h : HierP) (wm : Int) (back : Bool) (hbh : w.cell? ⟨bh, 0, none⟩ = some (.pointer (some ⟨hb, 0, none⟩))) (hbk : w.cell? ⟨bk, 0, none⟩ = some (.bool back)) (H : HierRep w hb n h) (hok : HOk n wm h) (a b : S39) (ha0 : 0 ≤ a.f1) (ha1 : a.f1 ≤ 2305843009213693952) :
    Calls Try.prog 47 #[.agg #[.int .i64 a.f0, .int .i64 a.f1], .agg #[.int .i64 b.f0, .int .i64 b.f1], .pointer (some ⟨bh, 0, none⟩), .pointer (some ⟨bk, 0, none⟩)] w fun r w' => r = .returned (.bool (beatsP n h back a b)) ∧ Below w.heap.size w w' := by
  have hB : Below w.heap.size w ((w.alloc (.cells #[.int .i64 a.f0, .int .i64 a.f1] 39)).alloc (.cells #[.int .i64 b.f0, .int .i64 b.f1] 39)) := ((Below.refl _ w).alloc (Nat.le_refl _) _).alloc (by simp) _
  have lh := World.block_lt_of_cell? w _ hbh
  have lk := World.block_lt_of_cell? w _ hbk
  have HBE := Lib.hid (beats_walk _ hb n h wm (H.below hB) hok a b back ha0 ha1)
  have HB := Lib.hid hB
  obtain ⟨_, ba, bb, hsz⟩ := two_boxes w a b _ rfl
  generalize beatsP n h back a b = V at *
  obtain ⟨a0, a1⟩ := a
  obtain ⟨b0, b1⟩ := b
  simp only at *
  have ca0 := (blk_cell ba 0).trans rfl
  have ca1 := (blk_cell ba 1).trans rfl
  have cb0 := (blk_cell bb 0).trans rfl
  have cb1 := (blk_cell bb 1).trans rfl
  clear ba bb hB H hok
  go_enter Try.func47, Try.ntmps47
  go_wp2_with fail
  refine HBE.out.mono ?_
  rintro e w1 ⟨rfl, g⟩
  have HG := Lib.hid (HB.out.trans (g.mono HB.out.size))
  clear g HBE HB
  go_wp2_with fail
  go_ret
  exact ⟨rfl, HG.out⟩

theorem pruneP_take (n : Nat) (h : HierP) (back : Bool) (l : List S39) (i : Nat) (hi : i < l.length) :
    (l.take (i + 1)).filter (fun b => !(l.any fun a => beatsP n h back a b)) = (l.take i).filter (fun b => !(l.any fun a => beatsP n h back a b)) ++ (if (l.any fun a => beatsP n h back a (rd_T39 l (i : Int))) = true then [] else [rd_T39 l (i : Int)]) := by
  rw [List.take_succ_eq_append_getElem hi, List.filter_append]
  have : rd_T39 l (i : Int) = l[i] := by simp [rd_T39, List.getD, hi]
  rw [this]
  cases hb : (l.any fun a => beatsP n h back a l[i]) <;> simp [hb]
theorem any_take (l : List S39) (p : S39 → Bool) (j : Nat) (hj : j < l.length) : (l.take (j + 1)).any p = ((l.take j).any p || p (rd_T39 l (j : Int))) := by
  rw [List.take_succ_eq_append_getElem hj, List.any_append]
  have : rd_T39 l (j : Int) = l[j] := by simp [rd_T39, List.getD, hj]
  rw [this]; simp
theorem any_of_take {l : List S39} {p : S39 → Bool} {j : Nat} (h : (l.take j).any p = true) : l.any p = true := by
  rw [List.any_eq_true] at h ⊢
  obtain ⟨x, hx, hp⟩ := h
  exact ⟨x, List.mem_of_mem_take hx, hp⟩
theorem rd39_mem (l : List S39) (i : Nat) (h : i < l.length) : rd_T39 l (i : Int) ∈ l := by
  have e : rd_T39 l (i : Int) = l[i] := by simp [rd_T39, List.getD, h]
  rw [e]; exact List.getElem_mem _

set_option maxRecDepth 100000 in
set_option maxHeartbeats 4000000 in
/-- unbeaten, with Prune's test -/
theorem unbeaten_walk (w : World) (A : Option Addr) (c bh bk hb n : Nat) (h : HierP) (wm : Int) (back : Bool) (l : List S39) (hC : Kd.C k39 w A l.length l) (hc : l.length ≤ c) (hl : l.length ≤ 1000) (hD : ∀ a ∈ l, 0 ≤ a.f1 ∧ a.f1 ≤ 2305843009213693952)
    (hbh : w.cell? ⟨bh, 0, none⟩ = some (.pointer (some ⟨hb, 0, none⟩))) (hbk : w.cell? ⟨bk, 0, none⟩ = some (.bool back)) (H : HierRep w hb n h) (hok : HOk n wm h) :
    Calls Try.prog 45 #[.slice A l.length c, .func (.func 47) #[] #[.pointer (some ⟨bh, 0, none⟩), .pointer (some ⟨bk, 0, none⟩)]] w fun r w' => ∃ vr, r = .returned vr ∧ Kd.R k39 39 w' w.heap.size (fun _ => True) vr (pruneP n h back l) ∧ Below w.heap.size w w' := by
  have lh := World.block_lt_of_cell? w _ hbh
  have lk := World.block_lt_of_cell? w _ hbk
  have HT : Hid (∀ W, Below w.heap.size w W → ∀ a ∈ l, ∀ b : S39, Calls Try.prog 47 #[.agg #[.int .i64 a.f0, .int .i64 a.f1], .agg #[.int .i64 b.f0, .int .i64 b.f1], .pointer (some ⟨bh, 0, none⟩), .pointer (some ⟨bk, 0, none⟩)] W fun r w' => r = .returned (.bool (beatsP n h back a b)) ∧ Below W.heap.size W w') := Lib.hid (fun W g a ha b =>
    prune1_walk W bh bk hb n h wm back ((g.cell (p := ⟨bh, 0, none⟩) lh).trans hbh) ((g.cell (p := ⟨bk, 0, none⟩) lk).trans hbk) (H.below g) hok a b (hD a ha).1 (hD a ha).2)
  obtain ⟨len, hlen⟩ : ∃ len, l.length = len := ⟨_, rfl⟩
  have HLEN := Lib.hid hlen
  have HCC := Lib.hid hC
  have HPP : Hid (pruneP n h back l = (l.take len).filter (fun b => !(l.any fun a => beatsP n h back a b))) := Lib.hid (by rw [← hlen, List.take_length]; rfl)
  rw [hlen] at hc hl HCC ⊢
  clear hC hD hbh hbk H hok hlen lh lk
  go_enter Try.func45, Try.ntmps45
  go_wp2_with fail
  go_loopw [5, 13] (fun v5 v13 wr => ∃ i : Nat, v13 = .int .i64 i ∧ i ≤ len ∧ Hid (Kd.R k39 39 wr w.heap.size (fun _ => True) v5 ((l.take i).filter (fun b => !(l.any fun a => beatsP n h back a b)))) ∧ Hid (Below w.heap.size w wr)) (fun _ v13 _ => len - (intOf v13).toNat)
  case atStart => exact ⟨0, rfl, by omega, Lib.hid (Kd.R_nil _ _ _ _ _), Lib.hid (Below.refl _ _)⟩
  case round =>
    obtain ⟨i, rfl, hi, HR, HB⟩ := hrel
    by_cases hlt : i < len
    · obtain ⟨ad, rfl, r0, r1⟩ := at39C (Kd.C_below HCC.out HB.out) i (by have := HLEN.out; omega)
      have HPT := Lib.hid (pruneP_take n h back l i (by have := HLEN.out; omega))
      have HTI : Hid (∀ W, Below w.heap.size w W → ∀ j : Nat, j < len → Calls Try.prog 47 #[.agg #[.int .i64 (rd_T39 l (j : Int)).f0, .int .i64 (rd_T39 l (j : Int)).f1], .agg #[.int .i64 (rd_T39 l (i : Int)).f0, .int .i64 (rd_T39 l (i : Int)).f1], .pointer (some ⟨bh, 0, none⟩), .pointer (some ⟨bk, 0, none⟩)] W fun r w' => r = .returned (.bool (beatsP n h back (rd_T39 l (j : Int)) (rd_T39 l (i : Int)))) ∧ Below W.heap.size W w') := Lib.hid (fun W g j hj =>
        HT.out W g _ (rd39_mem l j (by have := HLEN.out; omega)) _)
      have HFL : Hid (((l.take i).filter (fun b => !(l.any fun a => beatsP n h back a b))).length ≤ 1000) := Lib.hid (by
        have h1 := List.length_filter_le (fun b => !(l.any fun a => beatsP n h back a b)) (l.take i)
        have h2 : (l.take i).length ≤ i := by simp; omega
        omega)
      generalize rd_T39 l (i : Int) = e at *
      have HX : Hid (∃ p : S39 → Bool, p = fun a => beatsP n h back a e) := Lib.hid ⟨_, rfl⟩
      obtain ⟨p, hp⟩ := HX.out
      have HTP : Hid (∀ W, Below w.heap.size w W → ∀ j : Nat, j < len → Calls Try.prog 47 #[.agg #[.int .i64 (rd_T39 l (j : Int)).f0, .int .i64 (rd_T39 l (j : Int)).f1], .agg #[.int .i64 e.f0, .int .i64 e.f1], .pointer (some ⟨bh, 0, none⟩), .pointer (some ⟨bk, 0, none⟩)] W fun r w' => r = .returned (.bool (p (rd_T39 l (j : Int)))) ∧ Below W.heap.size W w') := Lib.hid (by rw [hp]; exact HTI.out)
      rw [show (fun a => beatsP n h back a e) = p from hp.symm] at HPT
      obtain ⟨a0, a1⟩ := e
      simp only at r0 r1 HTP HPT
      have HB1 : Hid (Below wr.heap.size wr (wr.alloc (.cells #[.int .i64 a0, .int .i64 a1] 39))) := Lib.hid ((Below.refl _ _).alloc (Nat.le_refl _) _)
      have hnew := blk_new wr (.cells #[.int .i64 a0, .int .i64 a1] 39)
      have hi0 : (0 : Int) ≤ (i : Int) := Int.natCast_nonneg _
      have hi1 : (i : Int) < (len : Int) := by omega
      obtain ⟨W1, hW1⟩ : ∃ W1, wr.alloc (.cells #[.int .i64 a0, .int .i64 a1] 39) = W1 := ⟨_, rfl⟩
      obtain ⟨bb, hbb⟩ : ∃ bb, wr.heap.size = bb := ⟨_, rfl⟩
      rw [hW1] at HB1 hnew
      rw [hbb] at hnew
      have HNEW := Lib.hid hnew
      have HW1 := Lib.hid hW1
      have HBB := Lib.hid hbb
      clear HT HTI HX hp hnew hW1 hbb
      go_wp2_with fail
      rw [HW1.out, HBB.out]
      go_step3
      go_wp2_with fail
      go_step3
      rename_i hK
      refine hK _ _ ?_
      refine wp_seq_k ?_
      intro K0 hK0
      go_cut [8, 10] from 17 to 28 (fun v8 v10 wc => v8 = .bool (l.any p) ∧ Hid (Below W1.heap.size W1 wc))
      case first =>
        go_wp2_with fail
        go_loopw [8, 19] (fun v8 v19 wr => ∃ j : Nat, v8 = .bool false ∧ v19 = .int .i64 j ∧ j ≤ len ∧ Hid ((l.take j).any p = false) ∧ Hid (Below W1.heap.size W1 wr)) (fun _ v19 _ => len - (intOf v19).toNat)
        case atStart => exact ⟨0, rfl, rfl, by omega, Lib.hid rfl, Lib.hid (Below.refl _ _)⟩
        case round =>
          obtain ⟨j, rfl, rfl, hj, HF, HG⟩ := hrel
          have hgb := (HG.out.block _ (blk_lt HNEW.out)).trans HNEW.out
          have b0 := (blk_cell hgb 0).trans rfl
          have b1 := (blk_cell hgb 1).trans rfl
          have lb := blk_lt hgb
          have HWQ : Hid (Below w.heap.size w wr) := Lib.hid (HB.out.trans ((HB1.out.mono HB.out.size).trans (HG.out.mono (Nat.le_trans HB.out.size HB1.out.size))))
          by_cases hjt : j < len
          · obtain ⟨ad', had, s0, s1⟩ := at39C (Kd.C_below HCC.out HWQ.out) j (by have := HLEN.out; omega)
            obtain rfl := Option.some.inj had
            have hAT := any_take l p j (by have := HLEN.out; omega)
            rw [HF.out, Bool.false_or] at hAT
            have HAT := Lib.hid hAT
            have g2 : Below W1.heap.size W1 (wr.alloc (.cells #[.int .i64 (rd_T39 l (j : Int)).f0, .int .i64 (rd_T39 l (j : Int)).f1] 39)) := HG.out.alloc HG.out.size _
            have HG2 := Lib.hid g2
            have HCL := Lib.hid (HTP.out _ (HB.out.trans ((HB1.out.mono HB.out.size).trans (g2.mono (Nat.le_trans HB.out.size HB1.out.size)))) j hjt)
            have hj0 : (0 : Int) ≤ (j : Int) := Int.natCast_nonneg _
            have hj1 : (j : Int) < (len : Int) := by omega
            clear hAT had g2 HF
            generalize p (rd_T39 l (j : Int)) = V at *
            generalize (rd_T39 l (j : Int)).f0 = x0 at *
            generalize (rd_T39 l (j : Int)).f1 = x1 at *
            cases V with
            | true =>
              have HAL : Hid (l.any p = true) := Lib.hid (any_of_take HAT.out)
              go_wp2_with (first | (go_at_call 47; refine HCL.out.mono ?_; rintro e w2 ⟨rfl, g3⟩; have HG3 := Lib.hid (HG2.out.trans (g3.mono HG2.out.size)); clear g3))
              go_meet
              exact ⟨by rw [HAL.out], HG3⟩
            | false =>
              go_wp2_with (first | (go_at_call 47; refine HCL.out.mono ?_; rintro e w2 ⟨rfl, g3⟩; have HG3 := Lib.hid (HG2.out.trans (g3.mono HG2.out.size)); clear g3))
              go_roundw
              case measure => simp [intOf]; omega
              case rel => exact ⟨j + 1, rfl, by go_num, by omega, Lib.hid HAT.out, HG3⟩
          · have HAL : Hid (l.any p = false) := Lib.hid (by have := HF.out; rwa [List.take_of_length_le (by have := HLEN.out; omega)] at this)
            have hjl : len ≤ j := by omega
            go_wp2_with fail
            go_meet
            exact ⟨by rw [HAL.out], HG⟩
      case rest =>
        obtain ⟨rfl, HW⟩ := hcut
        have hgb := (HW.out.block _ (blk_lt HNEW.out)).trans HNEW.out
        have b0 := (blk_cell hgb 0).trans rfl
        have b1 := (blk_cell hgb 1).trans rfl
        have lb := blk_lt hgb
        have HWC : Hid (Below w.heap.size w wc) := Lib.hid (HB.out.trans ((HB1.out.mono HB.out.size).trans (HW.out.mono (Nat.le_trans HB.out.size HB1.out.size))))
        have HRC := Lib.hid (Kd.R_below (Kd.R_below HR.out HB1.out) HW.out)
        cases hany : l.any p with
        | true =>
          rw [hany] at HPT
          go_wp2_with fail
          go_roundw
          case measure => simp [intOf]; omega
          case rel => exact ⟨i + 1, by go_num, by omega, Lib.hid (by rw [HPT.out]; simpa using HRC.out), HWC⟩
        | false =>
          rw [hany] at HPT
          have hsz : w.heap.size ≤ wc.heap.size := HWC.out.size
          have hfl := HFL.out
          go_wp2_with (first | (at_builtin; refine Kd.R_append k39 (w0 := w) (W := wc) w.heap.size rfl (.tmp 31) (.tmp 33) 36 39 (.agg #[(.int .i64 0), (.int .i64 0)]) 16 rfl Try.underlying36 info39 rfl (by decide) (by omega) _ ((l.take i).filter (fun b => !(l.any fun a => beatsP n h back a b))) (⟨a0, a1⟩ : S39) [.int .i64 a0, .int .i64 a1] (fun _ => True) (fun _ => False) rfl rfl (k39_mkM _ _ _ _) (fun _ h => h.elim) (fun _ _ => trivial) HRC.out HWC.out (by omega) (by omega) ?_; intro v1 w2 hR2 hB2 _ _; have HR2 := Lib.hid hR2; have HB2 := Lib.hid hB2; clear hR2 hB2))
          (try rw [Exit.noGoto_normal])
          (try simp only [Exit.inBlock, Exit.then])
          go_wp2_with fail
          go_roundw
          case measure => simp [intOf]; omega
          case rel => exact ⟨i + 1, by go_num, by omega, Lib.hid (by rw [HPT.out]; simpa using HR2.out), HB2⟩
    · have HIL : Hid (i = len) := Lib.hid (by omega)
      have hil : len ≤ i := by omega
      go_wp2_with fail
      go_ret
      rw [HIL.out] at HR
      exact ⟨_, rfl, by rw [HPP.out]; exact HR.out, HB.out⟩

/-- access.Prune -/
theorem prune_walk (w : World) (hb n : Nat) (h : HierP) (wm : Int) (H : HierRep w hb n h) (hok : HOk n wm h) (back : Bool) (B : Nat) (v : Value) (l : List S39) (hR : Kd.R k39 39 w B (fun _ => True) v l) (hl : l.length ≤ 1000) (hD : ∀ a ∈ l, 0 ≤ a.f1 ∧ a.f1 ≤ 2305843009213693952) :
    Calls Try.prog 25 #[.pointer (some ⟨hb, 0, none⟩), v, .bool back] w fun r w' => ∃ vr, r = .returned vr ∧ Kd.R k39 39 w' w.heap.size (fun _ => True) vr (pruneP n h back l) ∧ Below w.heap.size w w' := by
  have hB : Below w.heap.size w ((w.alloc (.cells #[.pointer (some ⟨hb, 0, none⟩)] 26)).alloc (.cells #[.bool back] 4)) := ((Below.refl _ w).alloc (Nat.le_refl _) _).alloc (by simp) _
  have b0 : ((w.alloc (.cells #[.pointer (some ⟨hb, 0, none⟩)] 26)).alloc (.cells #[.bool back] 4)).heap[w.heap.size]? = some (.cells #[.pointer (some ⟨hb, 0, none⟩)] 26 (0, 0)) := blk_alloc (blk_new w _) _
  have b1 : ((w.alloc (.cells #[.pointer (some ⟨hb, 0, none⟩)] 26)).alloc (.cells #[.bool back] 4)).heap[w.heap.size + 1]? = some (.cells #[.bool back] 4 (0, 0)) := by
    have := blk_new (w.alloc (.cells #[.pointer (some ⟨hb, 0, none⟩)] 26)) (.cells #[.bool back] 4)
    rwa [World.size_alloc] at this
  obtain ⟨A, c, hv, _, _⟩ := Kd.R_reads hR
  subst hv
  have HCL := Lib.hid (clone_walk _ B _ l (Kd.R_below hR hB) (by omega))
  have HB := Lib.hid hB
  have HB0 := Lib.hid b0
  have HB1 := Lib.hid b1
  have HH := Lib.hid (H.below hB)
  have HOK := Lib.hid hok
  have HD := Lib.hid hD
  have HL := Lib.hid hl
  clear hR hl hD H hok hB b0 b1
  generalize l.length = m at HCL ⊢
  go_enter Try.func25, Try.ntmps25
  go_wp2_with fail
  generalize (w.alloc (.cells #[.pointer (some ⟨hb, 0, none⟩)] 26)).alloc (.cells #[.bool back] 4) = W1 at *
  refine HCL.out.mono ?_
  rintro e w2 ⟨v2, rfl, hR2, hB2⟩
  obtain ⟨A2, c2, hv2, hc2, hC2⟩ := Kd.R_reads hR2
  subst hv2
  have HU := Lib.hid (unbeaten_walk w2 A2 c2 w.heap.size (w.heap.size + 1) hb n h _ back l hC2 hc2 HL.out HD.out ((blk_cell ((hB2.block _ (blk_lt HB0.out)).trans HB0.out) 0).trans rfl) ((blk_cell ((hB2.block _ (blk_lt HB1.out)).trans HB1.out) 0).trans rfl) (HH.out.below hB2) HOK.out)
  have HB2 := Lib.hid (HB.out.trans (hB2.mono HB.out.size))
  clear hR2 hC2 hc2 hB2 HCL HH HB0 HB1 HD HL HOK
  generalize l.length = m at HU ⊢
  go_wp2_with fail
  refine HU.out.mono ?_
  rintro e w3 ⟨v3, rfl, hR3, hB3⟩
  have HR3 := Lib.hid (Kd.R_lower hR3 HB2.out.size)
  have HB3 := Lib.hid (HB2.out.trans (hB3.mono HB2.out.size))
  clear hR3 hB3 HU
  go_wp2_with fail
  go_ret
  exact ⟨v3, rfl, HR3.out, HB3.out⟩

theorem highP_in {n : Nat} {wm : Int} {h : HierP} (hok : HOk n wm h) (hn : n ≤ 900) (v : Nat) (hv : v < n) (top : Int) (back : Bool) : (highP n h v top back).length ≤ 1000 ∧ ∀ a ∈ highP n h v top back, 0 ≤ a.f1 ∧ a.f1 ≤ 2305843009213693952 := by
  refine ⟨Nat.le_trans (rowsP_len _ _ _) (by omega), fun a ha => ?_⟩
  obtain ⟨u, hu, e0, e1, _⟩ := rowsP_mem ha
  have := climb_bound (hok.sides back) hok.wm0 v hv _ _ e1
  have h1 := hok.wm1
  have h2 : ((n : Int) + 1) * wm ≤ 901 * 1125899906842624 := Int.mul_le_mul (by omega) h1 hok.wm0 (by omega)
  omega
/-- access.Of -/
theorem of_walk (w : World) (hb n : Nat) (h : HierP) (wm : Int) (H : HierRep w hb n h) (hok : HOk n wm h) (v : Nat) (hv : v < n) (k : Int) (back : Bool) :
    Calls Try.prog 19 #[.pointer (some ⟨hb, 0, none⟩), .int .i64 v, .int .i64 k, .bool back] w fun r w' => ∃ vr, r = .returned vr ∧ Kd.R k39 39 w' w.heap.size (fun _ => True) vr (pruneP n h back (highP n h v (lowAt n k) back)) ∧ Below w.heap.size w w' := by
  have HRW := Lib.hid (raw_walk w hb n h wm H hok v hv k back)
  obtain ⟨hl, hD⟩ := highP_in hok H.small v hv (lowAt n k) back
  have HH := Lib.hid H
  have HOK := Lib.hid hok
  have HD := Lib.hid hD
  have HL := Lib.hid hl
  clear H hok hl hD
  generalize highP n h v (lowAt n k) back = l at *
  go_enter Try.func19, Try.ntmps19
  go_wp2_with fail
  refine HRW.out.mono ?_
  rintro e w2 ⟨v2, rfl, hR2, hB2⟩
  have HP := Lib.hid (prune_walk w2 hb n h _ (HH.out.below hB2) HOK.out back w.heap.size v2 l hR2 HL.out HD.out)
  obtain ⟨A2, c2, hv2, _, _⟩ := Kd.R_reads hR2
  subst hv2
  have HB2 := Lib.hid hB2
  clear hR2 hB2 HRW HH HD HOK
  generalize l.length = m at HP ⊢
  go_wp2_with fail
  refine HP.out.mono ?_
  rintro e w3 ⟨v3, rfl, hR3, hB3⟩
  have HR3 := Lib.hid (Kd.R_lower hR3 HB2.out.size)
  have HB3 := Lib.hid (HB2.out.trans (hB3.mono HB2.out.size))
  clear hR3 hB3 HP
  go_wp2_with fail
  go_ret
  exact ⟨v3, rfl, HR3.out, HB3.out⟩
end Go.Proofs.Ytfkejflmhidnaaa.PAll
